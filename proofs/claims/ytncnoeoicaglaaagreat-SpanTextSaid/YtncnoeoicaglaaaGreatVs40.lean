/- Part 40 of 42 of a proof; its texts, joined: NuM, NqT, NuA, SxB, SxC, SxD. No condition. -/
import Derived.Test.YtncnoeoicaglaaaGreatVs2
import Derived.Test.YtncnoeoicaglaaaGreatVs4
import Derived.Test.YtncnoeoicaglaaaGreatVs39
import Derived.Test.YtncnoeoicaglaaaGreatVs24
import Derived.Test.YtncnoeoicaglaaaGreatVs3
import Derived.Test.YtncnoeoicaglaaaGreatVs29
import Derived.Test.YtncnoeoicaglaaaGreatVs15
import Derived.Test.YtncnoeoicaglaaaGreatVs31
set_option maxRecDepth 100000
set_option maxHeartbeats 4000000
namespace Go.Proofs.YtncnoeoicaglaaaGreat.Np
open Lx (PTok Tok)
open Tr (Nd)
theorem R.bind_mono {α β : Type} {x x' : R α} {k k' : α → List PTok → R β} (hx : x ≠ .out → x' = x) (hk : ∀ a r, k a r ≠ .out → k' a r = k a r) (h : x.bind k ≠ .out) : x'.bind k' = x.bind k := by
 have hx' : x ≠ .out := fun e => h (by rw [e]; rfl)
 rw [hx hx'];cases x with
 | ok a r => exact hk a r h
 | err i e => rfl
 | out => exact absurd rfl hx'
theorem R.map_mono {α β : Type} {x x' : R α} {k : α → β} (hx : x ≠ .out → x' = x) (h : x.map k ≠ .out) : x'.map k = x.map k := R.bind_mono hx (fun _ _ _ => rfl) h
theorem ite_mono {α : Type} {c : Prop} [Decidable c] {a a' b b' : R α} (ha : a ≠ .out → a' = a) (hb : b ≠ .out → b' = b) (h : (if c then a else b) ≠ .out) : (if c then a' else b') = if c then a else b := by
 by_cases hc : c
 ·rw [if_pos hc] at h ⊢; rw [if_pos hc]; exact ha h
 ·rw [if_neg hc] at h ⊢; rw [if_neg hc]; exact hb h
structure Mono (en f : Nat) : Prop where
 row : ∀ op l, pRow en f op l ≠ .out → pRow en (f + 1) op l = pRow en f op l
 within : ∀ b op l, pIn en f b op l ≠ .out → pIn en (f + 1) b op l = pIn en f b op l
 arg : ∀ op l, pArg en f op l ≠ .out → pArg en (f + 1) op l = pArg en f op l
 args : ∀ n op l, pArgs en f n op l ≠ .out → pArgs en (f + 1) n op l = pArgs en f n op l
 script : ∀ b op l, pScript en f b op l ≠ .out → pScript en (f + 1) b op l = pScript en f b op l
 item : ∀ op l, pItem en f op l ≠ .out → pItem en (f + 1) op l = pItem en f op l
 prim : ∀ op l, pPrim en f op l ≠ .out → pPrim en (f + 1) op l = pPrim en f op l
 name : ∀ op t r, pName en f op t r ≠ .out → pName en (f + 1) op t r = pName en f op t r
 cells : ∀ op ks b c l, pCells en f op ks b c l ≠ .out → pCells en (f + 1) op ks b c l = pCells en f op ks b c l
theorem mono (en : Nat) : ∀ f, Mono en f
 | 0 => by
  constructor
  ·intro op l h; exact absurd (by rw [pRow]) h
  ·intro b op l h; exact absurd (by rw [pIn]) h
  ·intro op l h; exact absurd (by rw [pArg]) h
  ·intro n op l h; exact absurd (by rw [pArgs]) h
  ·intro b op l h; exact absurd (by rw [pScript]) h
  ·intro op l h; exact absurd (by rw [pItem]) h
  ·intro op l h; exact absurd (by rw [pPrim]) h
  ·intro op t r h; exact absurd (by rw [pName]) h
  ·intro op ks b c l h; exact absurd (by rw [pCells]) h
 | f + 1 => by
  have ih := mono en f;constructor
  ·intro op l h
   rw [pRow] at h;rw [pRow, pRow];exact ite_mono (fun _ => rfl) (fun h => ite_mono (fun _ => rfl) (fun h => R.bind_mono (ih.item op l) (fun a r h => R.map_mono (ih.row op r) h) h) h) h
  ·intro b op l h
   rw [pIn] at h;rw [pIn, pIn];exact R.bind_mono (ih.row _ _) (fun _ _ _ => rfl) h
  ·intro op l h
   cases l with
   | nil => rw [pArg, pArg]
   | cons t r =>
    rw [pArg] at h;rw [pArg, pArg];cases hl : leafOf t with
    | some x => rfl
    | none =>
     rw [hl] at h;exact ite_mono (fun h => R.map_mono (ih.within _ _ _) h) (fun h => ite_mono (fun _ => rfl) (fun _ => rfl) h) h
  ·intro n op l h
   cases n with
   | zero => rw [pArgs, pArgs]
   | succ n =>
    rw [pArgs] at h;rw [pArgs, pArgs];exact R.bind_mono (ih.arg op l) (fun a r h => R.map_mono (ih.args n op r) h) h
  ·intro b op l h
   rw [pScript] at h;rw [pScript, pScript];exact ite_mono (fun h => R.map_mono (ih.arg op _) h) (fun _ => rfl) h
  ·intro op l h
   rw [pItem] at h;rw [pItem, pItem];exact R.bind_mono (ih.prim op l) (fun a r h => R.bind_mono (ih.script 95 op r) (fun sub r h => R.bind_mono (ih.script 94 op r) (fun sup r h => ite_mono (fun h => R.bind_mono (ih.script 95 op r) (fun _ _ _ => rfl) h) (fun _ => rfl) h) h) h) h
  ·intro op l h
   cases l with
   | nil => rw [pPrim, pPrim]
   | cons t r =>
    rw [pPrim] at h;rw [pPrim, pPrim];cases hl : leafOf t with
    | some x => rfl
    | none =>
     rw [hl] at h;exact ite_mono (ih.name op t r) (fun h => ite_mono (fun h => R.map_mono (ih.args 1 op r) h) (fun h => ite_mono (fun h => R.map_mono (ih.within _ _ _) h) (fun h => ite_mono (fun h => R.map_mono (ih.within _ _ _) h) (fun h => ite_mono (ih.within _ _ _) (fun _ => rfl) h) h) h) h) h
  ·intro op t r h
   rw [pName] at h;rw [pName, pName]
   exact ite_mono (fun h => R.map_mono (ih.args 2 op r) h) (fun h => ite_mono (fun h => ite_mono (fun h => R.bind_mono (ih.within _ _ _) (fun d r h => R.map_mono (ih.args 1 op r) h) h) (fun h => R.map_mono (ih.args 1 op r) h) h)
    (fun h => ite_mono (fun h => ite_mono (fun h => R.map_mono (ih.cells _ _ _ _ _) h) (fun _ => rfl) h) (fun h => ite_mono (fun h => R.map_mono (ih.args 1 op r) h) (fun _ => rfl) h) h) h) h
  ·intro op ks b c l h
   rw [pCells] at h;rw [pCells, pCells];exact R.bind_mono (ih.row op l) (fun items r h => ite_mono (ih.cells _ _ _ _ _) (fun h => ite_mono (fun _ => rfl) (fun h => ite_mono (fun _ => rfl) (fun h => ite_mono (fun _ => rfl) (ih.cells _ _ _ _ _) h) h) h) h) h
theorem row_mono (en : Nat) (op : List Nat) (l : List PTok) (f : Nat) (h : pRow en f op l ≠ .out) : ∀ n, pRow en (f + n) op l = pRow en f op l
 | 0 => rfl
 | n + 1 => by
  rw [← Nat.add_assoc, (mono en (f + n)).row op l (by rw [row_mono en op l f h n]; exact h), row_mono en op l f h n]
theorem parseT_of (en : Nat) (l : List PTok) (ks : List Nd) (h : Tr.Ev fun F => pRow en F [] l = .ok ks []) : parseT en l = .ok ks [] := by
 obtain ⟨F, h⟩ := h;have hg := (good en (8 * l.length + 8)).row [] l (by omega);have hne : pRow en (8 * l.length + 8) [] l ≠ .out := fun e => by rw [e] at hg; exact hg
 have h1 := row_mono en [] l _ hne F;rw [h _ (by omega)] at h1;unfold parseT;rw [← h1];rfl
end Go.Proofs.YtncnoeoicaglaaaGreat.Np
namespace Go.Proofs.YtncnoeoicaglaaaGreat.Lx
end Go.Proofs.YtncnoeoicaglaaaGreat.Lx
namespace Go.Proofs.YtncnoeoicaglaaaGreat.Np
open Lx (Tok TokOK PTok isB headNot spell flat lexFrom)
end Go.Proofs.YtncnoeoicaglaaaGreat.Np
namespace Go.Proofs.YtncnoeoicaglaaaGreat
open Go.RowKit
open Tr (Nd)
open Lx (PTok)
open Np (R)
attribute [local go_sem] stillV stillUpon
def ParseXE (w : World) (X : R (List Nd)) (e : Ending) (w' : World) : Prop :=
 match X with
 | .ok items _ => (Tr.valid (Np.slot items) = true ∧ ∃ A cp, e = .returned (.tuple #[.agg #[.int .i64 1, .string ⟨#[]⟩, .int .i64 0, .slice A items.length cp], .int .i64 0, .int .i64 0]) ∧ TreT w.heap.size w' items (.slice A items.length cp) ∧ Fresh w w') ∨
   (Tr.valid (Np.slot items) = false ∧ e = .returned (.tuple #[.agg zeroN, .int .i64 0, .int .i64 6]) ∧ Fresh w w')
 | .err i er => er ≠ 0 ∧ e = .returned (.tuple #[.agg zeroN, .int .i64 (i : Int), .int .i64 (er : Int)]) ∧ Fresh w w'
 | .out => True
theorem parseS_ends (l : List UInt8) : parseS l ≠ .out := by
 unfold parseS;split
 ·exact Np.parseT_ends _ _
 ·intro h; cases h
theorem parseX_any (s : ByteArray) (w : World) (hm : s.size ≤ 1000000000) (hc : (Lx.lexAll s.data.toList).1.length ≤ 8000) : Calls Tryz.prog 6 #[.string s, .pointer none] w (ParseXE w (parseS s.data.toList)) := by
 have HP := hid (fun w' => parse_any s w' hm hc);have HN := hid (parseS_ends s.data.toList);clear hm hc;refine Calls.via fun Q hQ => ?_
 have HQ := hid hQ;clear hQ;go_enter Tryz.func6, Tryz.ntmps6;go_wp2_with fail
 refine (HP.out _).mono ?_;intro e w2 hres;generalize parseS s.data.toList = X at HQ HN hres;clear HP;cases X with
 | out => exact absurd rfl HN.out
 | err i er =>
  obtain ⟨he0, rfl, hf⟩ := hres;have HE0 := hid he0;have e0 := fail_ne he0;have hb2 := hf.blk (Blk.new w 26 #[.int .i64 0, .string ⟨#[]⟩, .int .i64 0, .slice none 0 0]) (fun h => h);have hf2 : Fresh w w2 := Touch.pre hf;clear hf he0;unfold failV zeroN;go_wp2_with fail
  have hb3 := (hb2.alloc (.cells #[.int .i64 0, .string ⟨#[]⟩, .int .i64 0, .slice none 0 0] 26)).alloc (.cells #[.int .i64 (i : Int), .int .i64 (er : Int)] 56);have hf3 := (hf2.alloc (.cells #[.int .i64 0, .string ⟨#[]⟩, .int .i64 0, .slice none 0 0] 26)).alloc (.cells #[.int .i64 (i : Int), .int .i64 (er : Int)] 56);have h93 : Blk ((w2.alloc (.cells #[.int .i64 0, .string ⟨#[]⟩, .int .i64 0, .slice none 0 0] 26)).alloc (.cells #[.int .i64 (i : Int), .int .i64 (er : Int)] 56)) (w2.heap.size + 1) 56 #[.int .i64 (i : Int), .int .i64 (er : Int)] := Blk.new2 _ _ _ _;generalize ((w2.alloc (.cells #[.int .i64 0, .string ⟨#[]⟩, .int .i64 0, .slice none 0 0] 26)).alloc (.cells #[.int .i64 (i : Int), .int .i64 (er : Int)] 56)) = W3 at hb3 hf3 h93 ⊢;have HS2 := hid (show w.heap.size < w2.heap.size from hb2.lt);have HB3 := hid hb3;have HF3 := hid hf3;have H93 := hid h93;clear hb2 hf2 hb3 hf3 h93;refine wp_region_in (fun W => Blk W (w2.heap.size + 1) 56 #[.int .i64 (i : Int), .int .i64 (er : Int)] ∧ Blk W w.heap.size 26 #[.int .i64 0, .string ⟨#[]⟩, .int .i64 0, .slice none 0 0]) [(0, true), (1, true), (2, true), (3, true), (4, true), (5, false), (6, true), (7, true)] (by kernel_rfl) (fun _ _ d _ _ h => by cases d <;> exact h) (by kernel_rfl) ⟨H93.out.drewN 1, HB3.out.drewN 1⟩ ?_;refine wpSeq_plain rfl (fun K hK => ?_);rw [if_pos (by rfl)];refine ⟨.agg #[.int .i64 0, .string ⟨#[]⟩, .int .i64 0, .slice none 0 0], fun W hW => ?_, hK _ ?_⟩
  ·go_simp
  clear hK K;refine wpSeq_plain rfl (fun K hK => ?_);rw [if_pos (by rfl)];refine ⟨.pointer (some ⟨w2.heap.size + 1, 0, none⟩), fun W hW => ?_, hK _ ?_⟩
  ·go_simp
  clear hK K;refine wpSeq_plain rfl (fun K hK => ?_);rw [if_pos (by rfl)];refine ⟨.int .i64 (i : Int), fun W hW => ?_, hK _ ?_⟩
  ·obtain ⟨h1, _⟩ := hW
   obtain ⟨p0, p1, _⟩ := Blk.two h1;go_simp
  clear hK K;refine wpSeq_plain rfl (fun K hK => ?_);rw [if_pos (by rfl)];refine ⟨.pointer (some ⟨w2.heap.size + 1, 1, none⟩), fun W hW => ?_, hK _ ?_⟩
  ·go_simp
  clear hK K;refine wpSeq_plain rfl (fun K hK => ?_);rw [if_pos (by rfl)];refine ⟨.int .i64 (er : Int), fun W hW => ?_, hK _ ?_⟩
  ·obtain ⟨h1, _⟩ := hW
   obtain ⟨p0, p1, _⟩ := Blk.two h1;go_simp
  clear hK K;obtain ⟨p0, p1, p2, p3, y0, y1, y2, y3, hlt0⟩ := Blk.four (HB3.out.drewN 1);refine wpSeq_lone rfl (fun K hK => ?_);go_wp2_with fail
  have n1 := (HB3.out.drewN 1).self4 (.int .i64 0) (.string ⟨#[]⟩) (.int .i64 0) (.slice none 0 0);have n2 := (H93.out.drewN 1).far4 (L := w2.heap.size + 1) (g := w.heap.size) (by have := HS2.out; omega) (.int .i64 0) (.string ⟨#[]⟩) (.int .i64 0) (.slice none 0 0);have hm7 : Fresh w _ := (HF3.out.drewN 1).put4 (g := w.heap.size) (.inr (Nat.le_refl _)) (.int .i64 0) (.string ⟨#[]⟩) (.int .i64 0) (.slice none 0 0);simp only [put4] at n1 n2 hm7;generalize (World.setCell (World.setCell (World.setCell (World.setCell (W3.drewN 1) ⟨w.heap.size, 0, none⟩ _) ⟨w.heap.size, 1, none⟩ _) ⟨w.heap.size, 2, none⟩ _) ⟨w.heap.size, 3, none⟩ _) = W7 at n1 n2 hm7 ⊢;refine hK _ _ ⟨n2, n1⟩ ?_;clear hK K p0 p1 p2 p3 y0 y1 y2 y3 hlt0;refine wpSeq_plain rfl (fun K hK => ?_);rw [if_pos (by rfl)];refine ⟨.int .i64 (i : Int), fun W hW => ?_, hK _ ?_⟩
  ·go_simp
  clear hK K;refine wpSeq_plain rfl (fun K hK => ?_);rw [if_pos (by rfl)];refine ⟨.int .i64 (er : Int), fun W hW => ?_, hK _ ?_⟩
  ·go_simp
  clear hK K;refine wpSeq_end ?_;go_wp2_with fail
  obtain ⟨g0, g1, g2, g3, _⟩ := Blk.four n1
  (try simp only [Exit.inBlock, Exit.then])
  refine bodyPost_ret (v := .tuple #[.agg zeroN, .int .i64 (i : Int), .int .i64 (er : Int)]) (by simp [results, Tryz.results6, go_sem, g0, g1, g2, g3]) rfl ?_;exact HQ.out _ _ ⟨HE0.out, rfl, hm7⟩
 | ok items rest =>
  obtain ⟨A, cp, rfl, htr, hf⟩ := hres;have hb2 := hf.blk (Blk.new w 26 #[.int .i64 0, .string ⟨#[]⟩, .int .i64 0, .slice none 0 0]) (fun h => h);have hf2 : Fresh w w2 := Touch.pre hf;have htr2 : TreT (w.heap.size + 1) w2 items (.slice A items.length cp) := htr.base (by simp);have HS2 := hid (show w.heap.size < w2.heap.size from hb2.lt);have hb3 := (hb2.alloc (.cells #[.int .i64 1, .string ⟨#[]⟩, .int .i64 0, .slice A items.length cp] 26)).alloc (.cells #[.int .i64 0, .int .i64 0] 56);have hf3 := (hf2.alloc (.cells #[.int .i64 1, .string ⟨#[]⟩, .int .i64 0, .slice A items.length cp] 26)).alloc (.cells #[.int .i64 0, .int .i64 0] 56);have h73 : Blk ((w2.alloc (.cells #[.int .i64 1, .string ⟨#[]⟩, .int .i64 0, .slice A items.length cp] 26)).alloc (.cells #[.int .i64 0, .int .i64 0] 56)) w2.heap.size 26 #[.int .i64 1, .string ⟨#[]⟩, .int .i64 0, .slice A items.length cp] := (Blk.new _ _ _).alloc _;have ht3 := htr2.fresh (((Touch.refl _ w2).alloc (.cells #[.int .i64 1, .string ⟨#[]⟩, .int .i64 0, .slice A items.length cp] 26)).alloc (.cells #[.int .i64 0, .int .i64 0] 56));have HB3 := hid hb3;have HF3 := hid hf3;have H73 := hid h73;have HT3 := hid ht3;clear hf htr hb2 hf2 htr2 hb3 hf3 h73 ht3;unfold failV;go_wp2_with fail
  generalize ((w2.alloc (.cells #[.int .i64 1, .string ⟨#[]⟩, .int .i64 0, .slice A items.length cp] 26)).alloc (.cells #[.int .i64 0, .int .i64 0] 56)) = W3 at HB3 HF3 H73 HT3 ⊢;refine (valid_all (Np.slot items) (.slice A items.length cp) W3 HT3.out.rep (Nat.zero_le _)).mono ?_;rintro _ w4 ⟨rfl, hf⟩;have HB4 := hid (hf.blk HB3.out fun h => h);have HF4 := hid (HF3.out.trans hf);have H74 := hid (hf.blk H73.out fun h => h);have HT4 := hid (HT3.out.fresh hf);clear hf;obtain ⟨p0, p1, p2, p3, y0, y1, y2, y3, hlt0⟩ := Blk.four HB4.out;cases hv : Tr.valid (Np.slot items) with
  | false =>
   go_wp2_with fail
   have n1 := HB4.out.self4 (.int .i64 0) (.string ⟨#[]⟩) (.int .i64 0) (.slice none 0 0);have hm7 : Fresh w _ := HF4.out.put4 (g := w.heap.size) (.inr (Nat.le_refl _)) (.int .i64 0) (.string ⟨#[]⟩) (.int .i64 0) (.slice none 0 0);obtain ⟨g0, g1, g2, g3, _⟩ := Blk.four n1;simp only [put4] at g0 g1 g2 g3 hm7
   (try simp only [Exit.inBlock, Exit.then])
   refine bodyPost_ret (v := .tuple #[.agg zeroN, .int .i64 0, .int .i64 6]) (by simp [results, Tryz.results6, go_sem, g0, g1, g2, g3]) rfl ?_;exact HQ.out _ _ (.inr ⟨hv, rfl, hm7⟩)
  | true =>
   obtain ⟨s0, s1, s2, s3, _, _, _, _, hlt7⟩ := Blk.four H74.out;go_wp2_with fail
   have n1 := HB4.out.self4 (.int .i64 1) (.string ⟨#[]⟩) (.int .i64 0) (.slice A items.length cp);have hm7 : Fresh w _ := HF4.out.put4 (g := w.heap.size) (.inr (Nat.le_refl _)) (.int .i64 1) (.string ⟨#[]⟩) (.int .i64 0) (.slice A items.length cp);have htt := HT4.out.far (touch4 w4 w.heap.size (.int .i64 1) (.string ⟨#[]⟩) (.int .i64 0) (.slice A items.length cp)) (by omega);obtain ⟨g0, g1, g2, g3, _⟩ := Blk.four n1;simp only [put4] at g0 g1 g2 g3 hm7 htt
   (try simp only [Exit.inBlock, Exit.then])
   refine bodyPost_ret (v := .tuple #[.agg #[.int .i64 1, .string ⟨#[]⟩, .int .i64 0, .slice A items.length cp], .int .i64 0, .int .i64 0]) (by simp [results, Tryz.results6, go_sem, g0, g1, g2, g3]) rfl ?_;exact HQ.out _ _ (.inl ⟨hv, A, cp, rfl, htt.base (by omega), hm7⟩)
end Go.Proofs.YtncnoeoicaglaaaGreat
namespace Go.Proofs.YtncnoeoicaglaaaGreat.Np
open Lx (PTok Tok)
open Tr (Nd)
theorem bare_al (W : List (List UInt8 × Tok)) (a : Nat) : Al (Lx.placed a W) (bare (W.map (·.2))) := by
 unfold Al bare;rw [Lx.placed_toks, List.map_map];simp [Lx.tok, Function.comp_def]
theorem parse_bare (a : Nd) (ha : Tr.IsRow a) : parseT 0 (bare (Tr.rowT a.kids)) = .ok a.kids [] := by
 obtain ⟨F, h⟩ := (Tr.PU.all (Tr.count a)).row a.kids (fun x hx => ⟨ha.views x hx, by have := Tr.count_mem hx; have := Tr.count_kids a; omega⟩) [] ⟨rfl, rfl, rfl⟩;have h1 := h F (Nat.le_refl _);rw [List.append_nil] at h1;have h2 := (reads F F (Nat.le_refl _)).row _ _ _ h1 [] (.inl ⟨rfl, rfl⟩);exact parseT_of 0 _ _ h2
theorem flat_cost : ∀ (l : List Tok) (o : Option Tok), (Lx.flat (Tr.sepd o l)).length ≤ cost l
 | [], _ => Nat.zero_le _
 | t :: ts, o => by
  have := flat_cost ts (some t);cases o with
  | none =>
   simp only [Tr.sepd, Lx.flat, List.length_append, cost, List.length_nil];omega
  | some a =>
   simp only [Tr.sepd, Lx.flat, List.length_append, cost];split
   ·rw [List.length_singleton]; omega
   ·rw [List.length_nil]; omega
theorem sepd_length (l : List Tok) (o : Option Tok) : (Tr.sepd o l).length = l.length := by
 have := congrArg List.length (Tr.sepd_toks l o);simpa using this
theorem placed_length (W : List (List UInt8 × Tok)) (a : Nat) : (Lx.placed a W).length = W.length := by
 have := congrArg List.length (Lx.placed_toks W a);simpa using this
end Go.Proofs.YtncnoeoicaglaaaGreat.Np
namespace Go.Proofs.YtncnoeoicaglaaaGreat
open Tr (Nd)
open Np (R)
theorem parse_printed (a : Nd) (h : Tr.IsRow a) : parseS (Tr.wtext (Tr.rowT a.kids)) = .ok a.kids [] := by
 unfold parseS;rw [Tr.wtext_lex _ (Tr.row_ok a h)];simp only
 have hs := Np.parseT_alike (Tr.wtext (Tr.rowT a.kids)).length 0 _ _ (Np.bare_al (Tr.sepd none (Tr.rowT a.kids)) 0);rw [Tr.sepd_toks, Np.parse_bare a h] at hs;cases hp : Np.parseT (Tr.wtext (Tr.rowT a.kids)).length (Lx.placed 0 (Tr.sepd none (Tr.rowT a.kids))) with
 | out => rw [hp] at hs; exact hs.elim
 | err i e => rw [hp] at hs; exact hs.elim
 | ok b r =>
  rw [hp] at hs;obtain ⟨h1, h2⟩ := hs
  have : r = [] := by
   cases r with
   | nil => rfl
   | cons x l => cases h2
  rw [h1, this]
theorem printed_len (a : Nd) (h : Tr.IsRow a) : (Tr.wtext (Tr.rowT a.kids)).length ≤ 1221 * Tr.count a := by
 have h1 := Np.flat_cost (Tr.rowT a.kids) none;have h2 := ok_cost _ (Tr.row_ok a h);have h3 := row_len a h;have : (Tr.wtext (Tr.rowT a.kids)).length ≤ cost (Tr.rowT a.kids) := h1;omega
theorem printed_toks (a : Nd) (h : Tr.IsRow a) : (Lx.lexAll (Tr.wtext (Tr.rowT a.kids))).1.length ≤ 3 * Tr.count a := by
 rw [Tr.wtext_lex _ (Tr.row_ok a h)];show (Lx.placed 0 _).length ≤ _;rw [Np.placed_length, Np.sepd_length];exact row_len a h
theorem slot_row (a : Nd) (h : Tr.IsRow a) : Np.slot a.kids = a := (Tr.row_eq a h.1 h.2).symm
end Go.Proofs.YtncnoeoicaglaaaGreat
namespace Go.Proofs.YtncnoeoicaglaaaGreat
open Np (R)
open Tr (Nd)
def alone (y : Nd) : Nd := .mk 1 [] 0 [y]
theorem spans_law (n : Nd) (hv : Tr.valid n = true) : ∀ x ∈ spansOf n, ∃ j q y, x.1 = j :: q ∧ Tr.itemAt n.kids (j :: q) = some y ∧ Tr.valid (alone y) = true ∧ x.2.1 ≤ x.2.2 ∧ x.2.2 ≤ (printS n).length ∧ ((printS n).take x.2.2).drop x.2.1 = Tr.wtext (Tr.itemT y) ∧ parseS (Tr.wtext (Tr.itemT y)) = .ok [y] [] := by
 intro x hx;have hr := Tr.valid_row n hv;have hp : printS n = Tr.wtext (Tr.rowT n.kids) := by unfold printS; rw [if_pos hv]
 have ht : printT n = Lx.placed 0 (Tr.sepd none (Tr.rowT n.kids)) := by unfold printT; rw [if_pos hv]
 unfold spansOf at hx;rw [if_pos hv] at hx;obtain ⟨j, q, y, e1, e2, ⟨e3, P, Q, e4, e5, e6⟩, e7, e8⟩ := (Tr.sp_items (Tr.rowT n.kids) (printT n)).1 n.kids hr.items [] 0 [] [] (by simp) x hx;have vy := Tr.view_of y e3.2 e3.1;have hpos := Tr.item_pos y vy;obtain ⟨f, t, k1, k2, k3, k4, k5⟩ := Tr.span_text P (Tr.itemT y) Q (by intro h; rw [h] at hpos; simp at hpos);rw [← e4, ← ht] at k1 k2;rw [← e4, ← hp] at k4 k5;rw [← e5] at k1;rw [← e6] at k2;subst k1 k2;have ha := Tr.slot_isRow e3;have hv' := hv;unfold Tr.valid at hv';simp only [Bool.and_eq_true, decide_eq_true_eq] at hv';have c1 := Tr.count_kids n;have c2 := Tr.depth_kids n;have c3 : Tr.count (alone y) = 1 + Tr.count y := by unfold alone; rw [Tr.count, Tr.countL, Tr.countL]; omega
 have c4 : Tr.depth (alone y) = Tr.depth y + 1 := by unfold alone; rw [Tr.depth, Tr.depthL, Tr.depthL]; omega
 refine ⟨j, q, y, by simpa using e1, e2, ?_, k3, k4, k5, ?_⟩
 ·unfold Tr.valid
  rw [c3, c4];have h1 : (alone y).kind = 1 := rfl;have h2 : Tr.form (alone y) = true := ha.2;simp only [h1, h2, BEq.rfl, Bool.and_eq_true, decide_eq_true_eq];exact ⟨⟨⟨trivial, trivial⟩, by omega⟩, by omega⟩
 ·have := parse_printed (alone y) ha
  have h1 : Tr.rowT (alone y).kids = Tr.itemT y := by show Tr.rowT [y] = _; rw [Tr.rowT_cons, Tr.rowT_nil, List.append_nil]
  rw [h1] at this;exact this
theorem spans_number (n : Nd) (hv : Tr.valid n = true) : (spansOf n).length = Tr.itemsN n := by
 have hr := Tr.valid_row n hv;unfold spansOf;rw [if_pos hv, (Tr.sp_length (printT n)).1 n.kids hr.items [] 0 0, Tr.itemsN_row hr.1]
end Go.Proofs.YtncnoeoicaglaaaGreat
namespace Go.Proofs.YtncnoeoicaglaaaGreat
open Go.RowKit
open Tr (Nd)
attribute [local go_sem] stillV stillUpon
def rowAt : Nd → List Nat → Option Nd
 | n, [] => some n
 | _, [_] => none
 | n, i :: j :: q => match n.kids[i]? with
  | none => none
  | some m => match m.kids[j]? with
   | none => none
   | some a => rowAt a q
theorem itemAt_row : ∀ (q : List Nat) (n y : Nd), Tr.itemAt n.kids q = some y → ∃ p i r, q = p ++ [i] ∧ rowAt n p = some r ∧ r.kids[i]? = some y
 | [], n, y, h => by rw [Tr.itemAt] at h; cases h
 | [i], n, y, h => by
  rw [Tr.itemAt] at h;exact ⟨[], i, n, rfl, rfl, h⟩
 | i :: j :: q, n, y, h => by
  rw [Tr.itemAt] at h;cases hi : n.kids[i]? with
  | none => rw [hi] at h; cases h
  | some m =>
   rw [hi] at h;simp only at h;cases hj : m.kids[j]? with
   | none => rw [hj] at h; cases h
   | some a =>
    rw [hj] at h;simp only at h;obtain ⟨p, k, r, e1, e2, e3⟩ := itemAt_row q a y h;refine ⟨i :: j :: p, k, r, by rw [e1]; rfl, ?_, e3⟩;rw [rowAt, hi];simp only
    rw [hj];exact e2
theorem itemsL_take (l : List Nd) (j : Nat) (h : j < l.length) : Tr.itemsL (l.take (j + 1)) = Tr.itemsL (l.take j) + Tr.itemsN l[j] := by
 induction l generalizing j with
 | nil => simp at h
 | cons x l ih =>
  cases j with
  | zero => simp [Tr.itemsL]
  | succ j =>
   simp only [List.take_succ_cons, Tr.itemsL, List.getElem_cons_succ];rw [ih j (by simpa using h)]; omega
theorem itemsL_le (l : List Nd) (j : Nat) : Tr.itemsL (l.take j) ≤ Tr.itemsL l := by
 induction l generalizing j with
 | nil => simp [Tr.itemsL]
 | cons x l ih =>
  cases j with
  | zero => simp [Tr.itemsL]
  | succ j => simp only [List.take_succ_cons, Tr.itemsL]; have := ih j; omega
theorem itemsN_kids (n : Nd) : Tr.itemsN n = (if n.kind = 1 then n.kids.length else 0) + Tr.itemsL n.kids := by
 obtain ⟨k, t, c, ks⟩ := n;rw [Tr.itemsN]; rfl
theorem items_le (m : Nat) : ∀ n : Nd, Tr.count n ≤ m → Tr.itemsN n < Tr.count n := by
 induction m with
 | zero => intro n h; have := Tr.count_pos n; omega
 | succ m ih =>
  intro n h;have h1 := itemsN_kids n;have h2 := Tr.count_kids n
  have h3 : ∀ l : List Nd, Tr.countL l ≤ m → l.length + Tr.itemsL l ≤ Tr.countL l := by
   intro l
   induction l with
   | nil => intro _; simp [Tr.itemsL, Tr.countL]
   | cons x l ihl =>
    intro hl;rw [Tr.countL] at hl ⊢;rw [Tr.itemsL, List.length_cons];have := ih x (by omega);have := ihl (by omega);omega
  have := h3 n.kids (by omega);split at h1 <;> omega
theorem items22_any (m : Nat) : ∀ (n : Nd) (sl : Value) (w : World), Tr.count n ≤ m → Tr.count n ≤ 100000 → RepL w n.kids sl →
  Calls Tryz.prog 17 #[nv n sl] w fun e w' => e = .returned (.int .i64 (Tr.itemsN n : Int)) ∧ Fresh w w' := by
 induction m with
 | zero => intro n _ _ h; have := Tr.count_pos n; omega
 | succ m ih =>
  intro n sl w hm hcb hr;obtain ⟨A, cap, rfl⟩ := hr.slice;have HIH := hid ih;have HR := hid hr;have hk : Tr.countL n.kids ≤ m := by have := Tr.count_kids n; omega
  have hcl : Tr.countL n.kids ≤ 100000 := by have := Tr.count_kids n; omega
  have hln := Tr.countL_len n.kids;have HN := hid (itemsN_kids n);have HLE := hid (fun (x : Nd) (h : Tr.count x ≤ 100000) => items_le _ x h);clear ih hr hm hcb;generalize hks : n.kids = ks at *;clear hks
  have HTL : Hid (∀ j, j ≤ ks.length → Tr.itemsL (ks.take j) ≤ 100000) := hid (fun j _ => by
   have h1 := itemsL_le ks j
   have h2 : ∀ l : List Nd, Tr.countL l ≤ 100000 → Tr.itemsL l ≤ Tr.countL l := by
    intro l
    induction l with
    | nil => intro _; simp [Tr.itemsL]
    | cons x l ihl =>
     intro hl;rw [Tr.countL] at hl ⊢;rw [Tr.itemsL];have := HLE.out x (by omega);have := ihl (by omega);omega
   have := h2 ks hcl;omega)
  go_enter Tryz.func17, Tryz.ntmps17;obtain ⟨B, hB⟩ : ∃ B, (if n.kind = 1 then ks.length else 0) = B := ⟨_, rfl⟩;have HB := hid hB;rw [hB] at HN;have hB2 : B ≤ 100000 := by rw [← hB]; split <;> omega
  cases hkd : (n.kind == (1 : Int)) with
  | false =>
   have hBv : B = 0 := by rw [← HB.out, if_neg (by simpa using hkd)]
   go_wp2_with fail
   go_loopw [3, 15] (fun x i wr => ∃ j : Nat, i = .int .i64 j ∧ j ≤ ks.length ∧ x = .int .i64 ((B + Tr.itemsL (ks.take j) : Nat) : Int) ∧ Hid (Fresh w wr)) (fun _ i _ => ks.length - (intOf i).toNat)
   case atStart => exact ⟨0, rfl, Nat.zero_le _, by rw [hBv]; simp [Tr.itemsL], (Touch.refl _ _).alloc _⟩
   case round =>
    obtain ⟨j, rfl, hj, rfl, HF⟩ := hrel;have ha := HTL.out j hj
    by_cases c1 : j < ks.length
    ·have d1 : decide ((j : Int) < (ks.length : Int)) = true := dT (by omega)
     have d1n : decide (j < ks.length) = true := dT (by omega);have d1' : (j : Int) < (ks.length : Int) := by omega
     obtain ⟨g, o, sx, hA, hg', m0, m1, m2, m3, hrk⟩ := HR.out.get j c1;cases hA;obtain ⟨Ax, cx, rfl⟩ := hrk.slice;have p0 := HF.out.cell m0 (fun h => h);have p1 := HF.out.cell m1 (fun h => h);have p2 := HF.out.cell m2 (fun h => h);have p3 := HF.out.cell m3 (fun h => h);have hcnt := Tr.count_mem (List.getElem_mem (l := ks) (n := j) c1);have HTK := hid (itemsL_take ks j c1);have HRK := hid hrk;have hxl := HLE.out ks[j] (by omega);clear m0 m1 m2 m3 hrk;generalize ks[j] = x at *;generalize Tr.itemsL (ks.take j) = a at *;have HBX := hid (Blk.new wr 26 #[.int .i64 x.kind, .string ⟨x.text.toArray⟩, .int .i64 x.cols, .slice Ax x.kids.length cx]);go_wp2_with fail
     refine (HIH.out x _ _ (by omega) (by omega) (HRK.out.fresh (HF.out.alloc _))).mono ?_;rintro _ w1 ⟨rfl, hf⟩;have HF1 := hid ((HF.out.alloc _).trans hf);clear hf p0 p1 p2 p3 HBX;generalize Tr.itemsN x = b at *;go_wp2_with fail
     go_roundw
     case rel => exact ⟨j + 1, by go_num, c1, by rw [HTK.out]; go_num, HF1⟩
     case measure => simp [intOf]; omega
    ·have d1 : decide ((j : Int) < (ks.length : Int)) = false := dF (by omega)
     have d1n : decide (j < ks.length) = false := dF (by omega);obtain rfl : j = ks.length := by omega
     rw [List.take_length] at *;go_wp2_with fail
     go_ret;exact ⟨by rw [HN.out]; rfl, HF.out⟩
  | true =>
   have hBv : B = ks.length := by rw [← HB.out, if_pos (by simpa using hkd)]
   go_wp2_with fail
   go_loopw [3, 15] (fun x i wr => ∃ j : Nat, i = .int .i64 j ∧ j ≤ ks.length ∧ x = .int .i64 ((B + Tr.itemsL (ks.take j) : Nat) : Int) ∧ Hid (Fresh w wr)) (fun _ i _ => ks.length - (intOf i).toNat)
   case atStart => exact ⟨0, rfl, Nat.zero_le _, by rw [hBv]; simp [Tr.itemsL], (Touch.refl _ _).alloc _⟩
   case round =>
    obtain ⟨j, rfl, hj, rfl, HF⟩ := hrel;have ha := HTL.out j hj
    by_cases c1 : j < ks.length
    ·have d1 : decide ((j : Int) < (ks.length : Int)) = true := dT (by omega)
     have d1n : decide (j < ks.length) = true := dT (by omega);have d1' : (j : Int) < (ks.length : Int) := by omega
     obtain ⟨g, o, sx, hA, hg', m0, m1, m2, m3, hrk⟩ := HR.out.get j c1;cases hA;obtain ⟨Ax, cx, rfl⟩ := hrk.slice;have p0 := HF.out.cell m0 (fun h => h);have p1 := HF.out.cell m1 (fun h => h);have p2 := HF.out.cell m2 (fun h => h);have p3 := HF.out.cell m3 (fun h => h);have hcnt := Tr.count_mem (List.getElem_mem (l := ks) (n := j) c1);have HTK := hid (itemsL_take ks j c1);have HRK := hid hrk;have hxl := HLE.out ks[j] (by omega);clear m0 m1 m2 m3 hrk;generalize ks[j] = x at *;generalize Tr.itemsL (ks.take j) = a at *;have HBX := hid (Blk.new wr 26 #[.int .i64 x.kind, .string ⟨x.text.toArray⟩, .int .i64 x.cols, .slice Ax x.kids.length cx]);go_wp2_with fail
     refine (HIH.out x _ _ (by omega) (by omega) (HRK.out.fresh (HF.out.alloc _))).mono ?_;rintro _ w1 ⟨rfl, hf⟩;have HF1 := hid ((HF.out.alloc _).trans hf);clear hf p0 p1 p2 p3 HBX;generalize Tr.itemsN x = b at *;go_wp2_with fail
     go_roundw
     case rel => exact ⟨j + 1, by go_num, c1, by rw [HTK.out]; go_num, HF1⟩
     case measure => simp [intOf]; omega
    ·have d1 : decide ((j : Int) < (ks.length : Int)) = false := dF (by omega)
     have d1n : decide (j < ks.length) = false := dF (by omega);obtain rfl : j = ks.length := by omega
     rw [List.take_length] at *;go_wp2_with fail
     go_ret;exact ⟨by rw [HN.out]; rfl, HF.out⟩
def slNum : Value → Nat
 | .slice _ n _ => n
 | _ => 0
theorem Ints.drop2 {w : World} {A : Option Addr} {n cap : Nat} {i j : Int} {l : List Int} (h : Ints w (.slice A n cap) (i :: j :: l)) :
  ∃ g o, A = some ⟨g, o, none⟩ ∧ n = l.length + 2 ∧ g < w.heap.size ∧ w.cell? ⟨g, o, none⟩ = some (.int .i64 i) ∧ w.cell? ⟨g, o + 1, none⟩ = some (.int .i64 j) ∧
   (∀ c, Ints w (.slice (some ⟨g, o + 2, none⟩) l.length c) l) ∧ ∀ B c, l = [] → Ints w (.slice B 0 c) l := by
 obtain ⟨A', cap', hv, h⟩ := h;cases hv
 rcases h with h | ⟨g, o, h1, h2, h3⟩
 ·cases h
 ·refine ⟨g, o, h1, rfl, h2, h3 0 (by simp), h3 1 (by simp), fun c => ?_, fun B c hl => by rw [hl]; exact Ints.nil _ _ _⟩
  refine ⟨_, c, rfl, .inr ⟨g, o + 2, rfl, h2, fun k hk => ?_⟩⟩;have := h3 (k + 2) (by simp only [List.length_cons]; omega);rw [show o + 2 + k = o + (k + 2) by omega];exact this
theorem find_any (p : List Nat) (n r : Nd) (sl v : Value) (w0 w : World) (hf0 : Fresh w0 w) (hp : rowAt n p = some r) (hr : RepL w0 n.kids sl) (hi : Ints w v (up p)) (hrm : Roomy v p.length) (hl : p.length ≤ 100000) :
  Calls Tryz.prog 66 #[nv n sl, v] w fun e w' => ∃ A cap, e = .returned (.tuple #[nv r (.slice A r.kids.length cap), .bool true]) ∧ RepL w0 r.kids (.slice A r.kids.length cap) ∧ Fresh w w' := by
 have HF0 := hid hf0;clear hf0;obtain ⟨A0, cap0, rfl⟩ := hr.slice;obtain ⟨Av, cv, rfl, hcv1, hcv2⟩ := hrm;unfold maxLen at hcv2;have HP := hid hp;have HR := hid hr;have HI := hid hi;have HB := hid ((Blk.new w 26 #[.int .i64 n.kind, .string ⟨n.text.toArray⟩, .int .i64 n.cols, .slice A0 n.kids.length cap0]).alloc (.cells #[.int .i64 0, .string ⟨#[]⟩, .int .i64 0, .slice none 0 0] 26));have HZ := hid (Blk.new2 w (.cells #[.int .i64 n.kind, .string ⟨n.text.toArray⟩, .int .i64 n.cols, .slice A0 n.kids.length cap0] 26) 26 #[.int .i64 0, .string ⟨#[]⟩, .int .i64 0, .slice none 0 0]);clear hp hr hi;go_enter Tryz.func66, Tryz.ntmps66;go_wp2_with fail
 go_loopw [1] (fun x wr => ∃ (m : Nd) (q : List Nat) (A : Option Addr) (c : Nat) (Am : Option Addr) (cm : Nat), x = .slice A q.length c ∧ q.length ≤ 100000 ∧ q.length ≤ c ∧ c ≤ 9223372036854775807 ∧ Hid (rowAt m q = some r) ∧ Hid (Ints w (.slice A q.length c) (up q)) ∧ Hid (Blk wr w.heap.size 26 #[.int .i64 m.kind, .string ⟨m.text.toArray⟩, .int .i64 m.cols, .slice Am m.kids.length cm]) ∧ Hid (Blk wr (w.heap.size + 1) 26 #[.int .i64 0, .string ⟨#[]⟩, .int .i64 0, .slice none 0 0]) ∧ Hid (RepL w0 m.kids (.slice Am m.kids.length cm)) ∧ Hid (Fresh w wr)) (fun x _ => slNum x)
 case atStart => exact ⟨n, p, Av, cv, A0, cap0, rfl, hl, hcv1, hcv2, HP, HI, HB, HZ, HR, ((Touch.refl _ _).alloc _).alloc _⟩
 case round =>
  obtain ⟨m, q, A, c, Am, cm, rfl, hq, hqc, hcm, HQ, HIQ, HBM, HZM, HRM, HFM⟩ := hrel;clear HI HB HZ HR HP
  match q, HQ, HIQ, hq, hqc with
  | [], HQ, HIQ, hq, hqc =>
   have hmr : m = r := by have := HQ.out; rw [rowAt] at this; exact Option.some.inj this
   subst hmr;obtain ⟨p0, p1, p2, p3, _, _, _, _, hlt⟩ := Blk.four HBM.out;obtain ⟨z0, z1, z2, z3, y0, y1, y2, y3, hlz⟩ := Blk.four HZM.out;simp only [List.length_nil];go_wp2_with fail
   have hb5 := HZM.out.self4 (.int .i64 m.kind) (.string ⟨m.text.toArray⟩) (.int .i64 m.cols) (.slice Am m.kids.length cm);obtain ⟨x0, x1, x2, x3, _, _, _, _, _⟩ := Blk.four hb5;simp only [put4] at x0 x1 x2 x3;refine bodyPost_ret (v := .tuple #[nv m (.slice Am m.kids.length cm), .bool true]) (by simp [results, Tryz.results66, go_sem, x0, x1, x2, x3]) rfl ?_;have hf5 : Fresh w (put4 wr (w.heap.size + 1) (.int .i64 m.kind) (.string ⟨m.text.toArray⟩) (.int .i64 m.cols) (.slice Am m.kids.length cm)) := Touch.put4 HFM.out (.inr (Nat.le_succ _)) _ _ _ _;exact ⟨Am, cm, rfl, HRM.out, hf5⟩
  | [i], HQ, _, _, _ => have := HQ.out; rw [rowAt] at this; cases this
  | i :: j :: q, HQ, HIQ, hq, hqc =>
   have hq0 := HQ.out;rw [rowAt] at hq0;have hqi := HIQ.out;obtain ⟨gi, oi, rfl, hn2, hgi, i0, i1, hrest, hnil⟩ := Ints.drop2 (l := up q) hqi;clear hqi;have HREST := hid hrest;have HNIL := hid hnil;clear hrest hnil;cases hmi : m.kids[i]? with
   | none => rw [hmi] at hq0; cases hq0
   | some x =>
    rw [hmi] at hq0;simp only at hq0;cases hxj : x.kids[j]? with
    | none => rw [hxj] at hq0; cases hq0
    | some a =>
     rw [hxj] at hq0;simp only at hq0;obtain ⟨hi1, hi2⟩ := List.getElem?_eq_some_iff.1 hmi;obtain ⟨hj1, hj2⟩ := List.getElem?_eq_some_iff.1 hxj;have hml := HRM.out.len;unfold maxLen at hml;obtain ⟨g1, o1, s1, hA1, hg1, a0, a1, a2, a3, hr1⟩ := HRM.out.get i hi1;cases hA1;rw [hi2] at a0 a1 a2 hr1;obtain ⟨Ax, cx, rfl⟩ := hr1.slice;have hxl := hr1.len;unfold maxLen at hxl;obtain ⟨g2, o2, s2, hA2, hg2, b0, b1, b2, b3, hr2⟩ := hr1.get j hj1;cases hA2;rw [hj2] at b0 b1 b2 hr2;obtain ⟨Aa, ca, rfl⟩ := hr2.slice;have HR2 := hid hr2;have HQ0 := hid hq0;clear hr1 hr2 hq0 hmi hxj hi2 hj2 HRM HQ HIQ;have ci2 : decide ((i : Int) < 0) = false := dF (by omega);have cj2 : decide ((j : Int) < 0) = false := dF (by omega);have di : decide ((m.kids.length : Int) ≤ (i : Int)) = false := dF (by omega);have dj : decide ((x.kids.length : Int) ≤ (j : Int)) = false := dF (by omega);have din : decide (m.kids.length ≤ i) = false := dF (by omega);have djn : decide (x.kids.length ≤ j) = false := dF (by omega);have hi1' : (i : Int) < (m.kids.length : Int) := by omega
     have hj1' : (j : Int) < (x.kids.length : Int) := by omega
     simp only [List.length_cons] at hq hqc ⊢;obtain ⟨L, hL⟩ : ∃ L, q.length + 1 + 1 = L := ⟨_, rfl⟩;rw [hL] at hq hqc ⊢;clear hn2;have dq : decide ((2 : Int) ≤ (L : Int)) = true := dT (by omega);have dqn : decide (2 ≤ L) = true := dT (by omega);have hq1 : (0 : Int) < (L : Int) := by omega
     have hq2 : (1 : Int) < (L : Int) := by omega
     have hq1n : 0 < L := by omega
     have hq2n : 1 < L := by omega
     obtain ⟨p0, p1, p2, p3, y0, y1, y2, y3, hlt⟩ := Blk.four HBM.out;have r0 := HFM.out.cell i0 (fun h => h);have r1 := HFM.out.cell i1 (fun h => h);have e0 := (HF0.out.trans HFM.out).cell a0 (fun h => h);have e1 := (HF0.out.trans HFM.out).cell a1 (fun h => h);have e2 := (HF0.out.trans HFM.out).cell a2 (fun h => h);have e3 := (HF0.out.trans HFM.out).cell a3 (fun h => h);have f0 := (HF0.out.trans HFM.out).cell b0 (fun h => h);have f1 := (HF0.out.trans HFM.out).cell b1 (fun h => h);have f2 := (HF0.out.trans HFM.out).cell b2 (fun h => h);have f3 := (HF0.out.trans HFM.out).cell b3 (fun h => h);go_wp2_with fail
     go_quiet (fail)
     clear p0 p1 p2 p3 y0 y1 y2 y3 hlt r0 r1 e0 e1 e2 e3 f0 f1 f2 f3;have hf1 := HFM.out.drewN nq;have hb1 := HBM.out.drewN nq;have hz1 := HZM.out.drewN nq;generalize wr.drewN nq = W1 at hf1 hb1 hz1 ⊢;have HF1 := hid hf1;have HB1 := hid hb1;have HZ1 := hid hz1;clear hf1 hb1 hz1;go_wp2_with fail
     obtain ⟨p0, p1, p2, p3, y0, y1, y2, y3, hlt⟩ := Blk.four HB1.out;have r0 := HF1.out.cell i0 (fun h => h);have r1 := HF1.out.cell i1 (fun h => h);have e0 := (HF0.out.trans HF1.out).cell a0 (fun h => h);have e1 := (HF0.out.trans HF1.out).cell a1 (fun h => h);have e2 := (HF0.out.trans HF1.out).cell a2 (fun h => h);have e3 := (HF0.out.trans HF1.out).cell a3 (fun h => h);have f0 := (HF0.out.trans HF1.out).cell b0 (fun h => h);have f1 := (HF0.out.trans HF1.out).cell b1 (fun h => h);have f2 := (HF0.out.trans HF1.out).cell b2 (fun h => h);have f3 := (HF0.out.trans HF1.out).cell b3 (fun h => h);have k0 := cR r0;have k1 := cR r1;have k2 := cR e0;have k3 := cR e1;have k4 := cR e2;have k5 := cR e3;have k6 := cR f0;have k7 := cR f1;have k8 := cR f2;have k9 := cR f3;have k10 := cR p3;refine wp_region_mix [([(0, true), (1, true), (2, true), (3, true), (4, true), (5, true), (6, true)], 7)] [] (by kernel_rfl) (fun _ _ d _ _ h => by cases d <;> exact h) (by kernel_rfl) ?_;refine wpMix_seg ?_
     repeat (refine wpSeq_plain rfl (fun K hK => ?_); go_simp; refine hK _ ?_; clear hK K)
     refine wpSeq_shut rfl (fun K hK => ?_);go_wp2_with fail
     refine wpMix_end ?_;clear p0 p1 p2 p3 y0 y1 y2 y3 hlt r0 r1 e0 e1 e2 e3 f0 f1 f2 f3 k0 k1 k2 k3 k4 k5 k6 k7 k8 k9 k10;have hb2 := (HB1.out.drewN 1).self4 (.int .i64 x.kind) (.string ⟨x.text.toArray⟩) (.int .i64 x.cols) (.slice (some ⟨g2, o2, none⟩) x.kids.length cx);have hz2 := (HZ1.out.drewN 1).far4 (by omega : w.heap.size + 1 ≠ w.heap.size) (.int .i64 x.kind) (.string ⟨x.text.toArray⟩) (.int .i64 x.cols) (.slice (some ⟨g2, o2, none⟩) x.kids.length cx);have hf2 := (HF1.out.drewN 1).put4 (g := w.heap.size) (.inr (Nat.le_refl _)) (.int .i64 x.kind) (.string ⟨x.text.toArray⟩) (.int .i64 x.cols) (.slice (some ⟨g2, o2, none⟩) x.kids.length cx);simp only [put4] at hb2 hz2 hf2;generalize ((((W1.drewN 1).setCell ⟨w.heap.size, 0, none⟩ (.int .i64 x.kind)).setCell ⟨w.heap.size, 1, none⟩ (.string ⟨x.text.toArray⟩)).setCell ⟨w.heap.size, 2, none⟩ (.int .i64 x.cols)).setCell ⟨w.heap.size, 3, none⟩ (.slice (some ⟨g2, o2, none⟩) x.kids.length cx) = W2 at hb2 hz2 hf2 ⊢;have HF2 := hid hf2;have HB2 := hid hb2;have HZ2 := hid hz2;clear hb2 hz2 hf2;obtain ⟨p0, p1, p2, p3, y0, y1, y2, y3, hlt⟩ := Blk.four HB2.out;have r0 := HF2.out.cell i0 (fun h => h);have r1 := HF2.out.cell i1 (fun h => h);have e0 := (HF0.out.trans HF2.out).cell a0 (fun h => h);have e1 := (HF0.out.trans HF2.out).cell a1 (fun h => h);have e2 := (HF0.out.trans HF2.out).cell a2 (fun h => h);have e3 := (HF0.out.trans HF2.out).cell a3 (fun h => h);have f0 := (HF0.out.trans HF2.out).cell b0 (fun h => h);have f1 := (HF0.out.trans HF2.out).cell b1 (fun h => h);have f2 := (HF0.out.trans HF2.out).cell b2 (fun h => h);have f3 := (HF0.out.trans HF2.out).cell b3 (fun h => h);go_wp2_with fail
     go_quiet (fail)
     clear p0 p1 p2 p3 y0 y1 y2 y3 hlt r0 r1 e0 e1 e2 e3 f0 f1 f2 f3;have hf3 := HF2.out.drewN nq;have hb3 := HB2.out.drewN nq;have hz3 := HZ2.out.drewN nq;generalize W2.drewN nq = W3 at hf3 hb3 hz3 ⊢;have HF3 := hid hf3;have HB3 := hid hb3;have HZ3 := hid hz3;clear hf3 hb3 hz3;go_wp2_with fail
     obtain ⟨p0, p1, p2, p3, y0, y1, y2, y3, hlt⟩ := Blk.four HB3.out;have r0 := HF3.out.cell i0 (fun h => h);have r1 := HF3.out.cell i1 (fun h => h);have e0 := (HF0.out.trans HF3.out).cell a0 (fun h => h);have e1 := (HF0.out.trans HF3.out).cell a1 (fun h => h);have e2 := (HF0.out.trans HF3.out).cell a2 (fun h => h);have e3 := (HF0.out.trans HF3.out).cell a3 (fun h => h);have f0 := (HF0.out.trans HF3.out).cell b0 (fun h => h);have f1 := (HF0.out.trans HF3.out).cell b1 (fun h => h);have f2 := (HF0.out.trans HF3.out).cell b2 (fun h => h);have f3 := (HF0.out.trans HF3.out).cell b3 (fun h => h);have k0 := cR r0;have k1 := cR r1;have k2 := cR e0;have k3 := cR e1;have k4 := cR e2;have k5 := cR e3;have k6 := cR f0;have k7 := cR f1;have k8 := cR f2;have k9 := cR f3;have k10 := cR p3;refine wp_region_mix [([(0, true), (1, true), (2, true), (3, true), (4, true), (5, true), (6, true)], 7)] [] (by kernel_rfl) (fun _ _ d _ _ h => by cases d <;> exact h) (by kernel_rfl) ?_;refine wpMix_seg ?_
     repeat (refine wpSeq_plain rfl (fun K hK => ?_); go_simp; refine hK _ ?_; clear hK K)
     refine wpSeq_shut rfl (fun K hK => ?_);go_wp2_with fail
     refine wpMix_end ?_;clear p0 p1 p2 p3 y0 y1 y2 y3 hlt r0 r1 e0 e1 e2 e3 f0 f1 f2 f3 k0 k1 k2 k3 k4 k5 k6 k7 k8 k9 k10;have hb2 := (HB3.out.drewN 1).self4 (.int .i64 a.kind) (.string ⟨a.text.toArray⟩) (.int .i64 a.cols) (.slice Aa a.kids.length ca);have hz2 := (HZ3.out.drewN 1).far4 (by omega : w.heap.size + 1 ≠ w.heap.size) (.int .i64 a.kind) (.string ⟨a.text.toArray⟩) (.int .i64 a.cols) (.slice Aa a.kids.length ca);have hf2 := (HF3.out.drewN 1).put4 (g := w.heap.size) (.inr (Nat.le_refl _)) (.int .i64 a.kind) (.string ⟨a.text.toArray⟩) (.int .i64 a.cols) (.slice Aa a.kids.length ca);simp only [put4] at hb2 hz2 hf2;generalize ((((W3.drewN 1).setCell ⟨w.heap.size, 0, none⟩ (.int .i64 a.kind)).setCell ⟨w.heap.size, 1, none⟩ (.string ⟨a.text.toArray⟩)).setCell ⟨w.heap.size, 2, none⟩ (.int .i64 a.cols)).setCell ⟨w.heap.size, 3, none⟩ (.slice Aa a.kids.length ca) = W4 at hb2 hz2 hf2 ⊢;have HF4 := hid hf2;have HB4 := hid hb2;have HZ4 := hid hz2;clear hb2 hz2 hf2;go_wp2_with fail
     have hints : Ints w (.slice (if c = 2 then some ⟨gi, oi, none⟩ else some ⟨gi, oi + 2, none⟩) q.length (c - 2)) (up q) := by
      split
      ·have h0 : q = [] := List.eq_nil_of_length_eq_zero (by omega)
       subst h0;exact HNIL.out _ _ rfl
      ·have := HREST.out (c - 2)
       rw [List.length_map] at this;exact this
     exact ⟨⟨a, q, _, c - 2, Aa, ca, by rw [show L - 2 = q.length by omega], by omega, by omega, by omega, HQ0, hints, HB4, HZ4, HR2, HF4⟩, by simp only [slNum]; omega⟩
end Go.Proofs.YtncnoeoicaglaaaGreat
