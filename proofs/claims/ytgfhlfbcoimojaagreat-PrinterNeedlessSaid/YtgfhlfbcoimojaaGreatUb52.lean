/- Part 52 of 53 of a proof; its texts, joined: NqT, NuA, NuB, NuJ. No condition. -/
import Derived.Test.YtgfhlfbcoimojaaGreatUb50
import Derived.Test.YtgfhlfbcoimojaaGreatUb8
import Derived.Test.YtgfhlfbcoimojaaGreatUb7
import Derived.Test.YtgfhlfbcoimojaaGreatUb9
import Derived.Test.YtgfhlfbcoimojaaGreatUb32
import Derived.Test.YtgfhlfbcoimojaaGreatUb34
import Derived.Test.YtgfhlfbcoimojaaGreatUb12
import Derived.Test.YtgfhlfbcoimojaaGreatUb51

/- The notation's Parse, of a text without macros. -/
namespace Go.Proofs.YtgfhlfbcoimojaaGreat
open Go.RowKit
open Tr (Nd)
open Lx (PTok)
open Np (R)
attribute [local go_sem] stillV stillUpon
def ParseXE (w : World) (X : R (List Nd)) (e : Ending) (w' : World) : Prop :=
 match X with
 | .ok items _ => (Tr.valid (Np.slot items) = true ∧ ∃ A cp, e = .returned (.tuple #[.agg #[.int .i64 1, .string ⟨#[]⟩, .int .i64 0, .slice A items.length cp], .int .i64 0, .int .i64 0]) ∧ TreT w.heap.size w' items (.slice A items.length cp) ∧ Fresh w w') ∨
   (Tr.valid (Np.slot items) = false ∧ e = .returned (.tuple #[.agg zeroN, .int .i64 0, .int .i64 6]) ∧ Fresh w w')
 | .err i er => er ≠ 0 ∧ e = .returned (.tuple #[.agg zeroN, .int .i64 (i : Int), .int .i64 (er : Int)]) ∧ Fresh w w'
 | .out => True
theorem parseS_ends (l : List UInt8) : parseS l ≠ .out := by
 unfold parseS
 split
 ·exact Np.parseT_ends _ _
 ·intro h; cases h
set_option maxRecDepth 100000 in
set_option maxHeartbeats 1000000 in
theorem parseX_any (s : ByteArray) (w : World) (hm : s.size ≤ 1000000000) (hc : (Lx.lexAll s.data.toList).1.length ≤ 8000) : Calls Tryz.prog 8 #[.string s, .pointer none] w (ParseXE w (parseS s.data.toList)) := by
 have HP := hid (fun w' => parse_any s w' hm hc)
 have HN := hid (parseS_ends s.data.toList)
 clear hm hc
 refine Calls.via fun Q hQ => ?_
 have HQ := hid hQ
 clear hQ
 go_enter Tryz.func8, Tryz.ntmps8
 go_wp2_with fail
 refine (HP.out _).mono ?_
 intro e w2 hres
 generalize parseS s.data.toList = X at HQ HN hres
 clear HP
 cases X with
 | out => exact absurd rfl HN.out
 | err i er =>
  obtain ⟨he0, rfl, hf⟩ := hres
  have HE0 := hid he0
  have e0 := fail_ne he0
  have hb2 := hf.blk (Blk.new w 26 #[.int .i64 0, .string ⟨#[]⟩, .int .i64 0, .slice none 0 0]) (fun h => h)
  have hf2 : Fresh w w2 := Touch.pre hf
  clear hf he0
  unfold failV zeroN
  go_wp2_with fail
  have hb3 := (hb2.alloc (.cells #[.int .i64 0, .string ⟨#[]⟩, .int .i64 0, .slice none 0 0] 26)).alloc (.cells #[.int .i64 (i : Int), .int .i64 (er : Int)] 61)
  have hf3 := (hf2.alloc (.cells #[.int .i64 0, .string ⟨#[]⟩, .int .i64 0, .slice none 0 0] 26)).alloc (.cells #[.int .i64 (i : Int), .int .i64 (er : Int)] 61)
  have h93 : Blk ((w2.alloc (.cells #[.int .i64 0, .string ⟨#[]⟩, .int .i64 0, .slice none 0 0] 26)).alloc (.cells #[.int .i64 (i : Int), .int .i64 (er : Int)] 61)) (w2.heap.size + 1) 61 #[.int .i64 (i : Int), .int .i64 (er : Int)] := Blk.new2 _ _ _ _
  generalize ((w2.alloc (.cells #[.int .i64 0, .string ⟨#[]⟩, .int .i64 0, .slice none 0 0] 26)).alloc (.cells #[.int .i64 (i : Int), .int .i64 (er : Int)] 61)) = W3 at hb3 hf3 h93 ⊢
  have HS2 := hid (show w.heap.size < w2.heap.size from hb2.lt)
  have HB3 := hid hb3
  have HF3 := hid hf3
  have H93 := hid h93
  clear hb2 hf2 hb3 hf3 h93
  refine wp_region_in (fun W => Blk W (w2.heap.size + 1) 61 #[.int .i64 (i : Int), .int .i64 (er : Int)] ∧ Blk W w.heap.size 26 #[.int .i64 0, .string ⟨#[]⟩, .int .i64 0, .slice none 0 0]) [(0, true), (1, true), (2, true), (3, true), (4, true), (5, false), (6, true), (7, true)] (by kernel_rfl) (fun _ _ d _ _ h => by cases d <;> exact h) (by kernel_rfl) ⟨H93.out.drewN 1, HB3.out.drewN 1⟩ ?_
  refine wpSeq_plain rfl (fun K hK => ?_)
  rw [if_pos (by rfl)]
  refine ⟨.agg #[.int .i64 0, .string ⟨#[]⟩, .int .i64 0, .slice none 0 0], fun W hW => ?_, hK _ ?_⟩
  ·go_simp
  clear hK K
  refine wpSeq_plain rfl (fun K hK => ?_)
  rw [if_pos (by rfl)]
  refine ⟨.pointer (some ⟨w2.heap.size + 1, 0, none⟩), fun W hW => ?_, hK _ ?_⟩
  ·go_simp
  clear hK K
  refine wpSeq_plain rfl (fun K hK => ?_)
  rw [if_pos (by rfl)]
  refine ⟨.int .i64 (i : Int), fun W hW => ?_, hK _ ?_⟩
  ·obtain ⟨h1, _⟩ := hW
   obtain ⟨p0, p1, _⟩ := Blk.two h1
   go_simp
  clear hK K
  refine wpSeq_plain rfl (fun K hK => ?_)
  rw [if_pos (by rfl)]
  refine ⟨.pointer (some ⟨w2.heap.size + 1, 1, none⟩), fun W hW => ?_, hK _ ?_⟩
  ·go_simp
  clear hK K
  refine wpSeq_plain rfl (fun K hK => ?_)
  rw [if_pos (by rfl)]
  refine ⟨.int .i64 (er : Int), fun W hW => ?_, hK _ ?_⟩
  ·obtain ⟨h1, _⟩ := hW
   obtain ⟨p0, p1, _⟩ := Blk.two h1
   go_simp
  clear hK K
  obtain ⟨p0, p1, p2, p3, y0, y1, y2, y3, hlt0⟩ := Blk.four (HB3.out.drewN 1)
  refine wpSeq_lone rfl (fun K hK => ?_)
  go_wp2_with fail
  have n1 := (HB3.out.drewN 1).self4 (.int .i64 0) (.string ⟨#[]⟩) (.int .i64 0) (.slice none 0 0)
  have n2 := (H93.out.drewN 1).far4 (L := w2.heap.size + 1) (g := w.heap.size) (by have := HS2.out; omega) (.int .i64 0) (.string ⟨#[]⟩) (.int .i64 0) (.slice none 0 0)
  have hm7 : Fresh w _ := (HF3.out.drewN 1).put4 (g := w.heap.size) (.inr (Nat.le_refl _)) (.int .i64 0) (.string ⟨#[]⟩) (.int .i64 0) (.slice none 0 0)
  simp only [put4] at n1 n2 hm7
  generalize (World.setCell (World.setCell (World.setCell (World.setCell (W3.drewN 1) ⟨w.heap.size, 0, none⟩ _) ⟨w.heap.size, 1, none⟩ _) ⟨w.heap.size, 2, none⟩ _) ⟨w.heap.size, 3, none⟩ _) = W7 at n1 n2 hm7 ⊢
  refine hK _ _ ⟨n2, n1⟩ ?_
  clear hK K p0 p1 p2 p3 y0 y1 y2 y3 hlt0
  refine wpSeq_plain rfl (fun K hK => ?_)
  rw [if_pos (by rfl)]
  refine ⟨.int .i64 (i : Int), fun W hW => ?_, hK _ ?_⟩
  ·go_simp
  clear hK K
  refine wpSeq_plain rfl (fun K hK => ?_)
  rw [if_pos (by rfl)]
  refine ⟨.int .i64 (er : Int), fun W hW => ?_, hK _ ?_⟩
  ·go_simp
  clear hK K
  refine wpSeq_end ?_
  go_wp2_with fail
  obtain ⟨g0, g1, g2, g3, _⟩ := Blk.four n1
  (try simp only [Exit.inBlock, Exit.then])
  refine bodyPost_ret (v := .tuple #[.agg zeroN, .int .i64 (i : Int), .int .i64 (er : Int)]) (by simp [results, Tryz.results8, go_sem, g0, g1, g2, g3]) rfl ?_
  exact HQ.out _ _ ⟨HE0.out, rfl, hm7⟩
 | ok items rest =>
  obtain ⟨A, cp, rfl, htr, hf⟩ := hres
  have hb2 := hf.blk (Blk.new w 26 #[.int .i64 0, .string ⟨#[]⟩, .int .i64 0, .slice none 0 0]) (fun h => h)
  have hf2 : Fresh w w2 := Touch.pre hf
  have htr2 : TreT (w.heap.size + 1) w2 items (.slice A items.length cp) := htr.base (by simp)
  have HS2 := hid (show w.heap.size < w2.heap.size from hb2.lt)
  have hb3 := (hb2.alloc (.cells #[.int .i64 1, .string ⟨#[]⟩, .int .i64 0, .slice A items.length cp] 26)).alloc (.cells #[.int .i64 0, .int .i64 0] 61)
  have hf3 := (hf2.alloc (.cells #[.int .i64 1, .string ⟨#[]⟩, .int .i64 0, .slice A items.length cp] 26)).alloc (.cells #[.int .i64 0, .int .i64 0] 61)
  have h73 : Blk ((w2.alloc (.cells #[.int .i64 1, .string ⟨#[]⟩, .int .i64 0, .slice A items.length cp] 26)).alloc (.cells #[.int .i64 0, .int .i64 0] 61)) w2.heap.size 26 #[.int .i64 1, .string ⟨#[]⟩, .int .i64 0, .slice A items.length cp] := (Blk.new _ _ _).alloc _
  have ht3 := htr2.fresh (((Touch.refl _ w2).alloc (.cells #[.int .i64 1, .string ⟨#[]⟩, .int .i64 0, .slice A items.length cp] 26)).alloc (.cells #[.int .i64 0, .int .i64 0] 61))
  have HB3 := hid hb3
  have HF3 := hid hf3
  have H73 := hid h73
  have HT3 := hid ht3
  clear hf htr hb2 hf2 htr2 hb3 hf3 h73 ht3
  unfold failV
  go_wp2_with fail
  generalize ((w2.alloc (.cells #[.int .i64 1, .string ⟨#[]⟩, .int .i64 0, .slice A items.length cp] 26)).alloc (.cells #[.int .i64 0, .int .i64 0] 61)) = W3 at HB3 HF3 H73 HT3 ⊢
  refine (valid_all (Np.slot items) (.slice A items.length cp) W3 HT3.out.rep (Nat.zero_le _)).mono ?_
  rintro _ w4 ⟨rfl, hf⟩
  have HB4 := hid (hf.blk HB3.out fun h => h)
  have HF4 := hid (HF3.out.trans hf)
  have H74 := hid (hf.blk H73.out fun h => h)
  have HT4 := hid (HT3.out.fresh hf)
  clear hf
  obtain ⟨p0, p1, p2, p3, y0, y1, y2, y3, hlt0⟩ := Blk.four HB4.out
  cases hv : Tr.valid (Np.slot items) with
  | false =>
   go_wp2_with fail
   have n1 := HB4.out.self4 (.int .i64 0) (.string ⟨#[]⟩) (.int .i64 0) (.slice none 0 0)
   have hm7 : Fresh w _ := HF4.out.put4 (g := w.heap.size) (.inr (Nat.le_refl _)) (.int .i64 0) (.string ⟨#[]⟩) (.int .i64 0) (.slice none 0 0)
   obtain ⟨g0, g1, g2, g3, _⟩ := Blk.four n1
   simp only [put4] at g0 g1 g2 g3 hm7
   (try simp only [Exit.inBlock, Exit.then])
   refine bodyPost_ret (v := .tuple #[.agg zeroN, .int .i64 0, .int .i64 6]) (by simp [results, Tryz.results8, go_sem, g0, g1, g2, g3]) rfl ?_
   exact HQ.out _ _ (.inr ⟨hv, rfl, hm7⟩)
  | true =>
   obtain ⟨s0, s1, s2, s3, _, _, _, _, hlt7⟩ := Blk.four H74.out
   go_wp2_with fail
   have n1 := HB4.out.self4 (.int .i64 1) (.string ⟨#[]⟩) (.int .i64 0) (.slice A items.length cp)
   have hm7 : Fresh w _ := HF4.out.put4 (g := w.heap.size) (.inr (Nat.le_refl _)) (.int .i64 1) (.string ⟨#[]⟩) (.int .i64 0) (.slice A items.length cp)
   have htt := HT4.out.far (touch4 w4 w.heap.size (.int .i64 1) (.string ⟨#[]⟩) (.int .i64 0) (.slice A items.length cp)) (by omega)
   obtain ⟨g0, g1, g2, g3, _⟩ := Blk.four n1
   simp only [put4] at g0 g1 g2 g3 hm7 htt
   (try simp only [Exit.inBlock, Exit.then])
   refine bodyPost_ret (v := .tuple #[.agg #[.int .i64 1, .string ⟨#[]⟩, .int .i64 0, .slice A items.length cp], .int .i64 0, .int .i64 0]) (by simp [results, Tryz.results8, go_sem, g0, g1, g2, g3]) rfl ?_
   exact HQ.out _ _ (.inl ⟨hv, A, cp, rfl, htt.base (by omega), hm7⟩)
end Go.Proofs.YtgfhlfbcoimojaaGreat

/- Plain laws on the parser: more fuel changes nothing; the printed text of a tree is parsed to this tree. No program in sight. -/
namespace Go.Proofs.YtgfhlfbcoimojaaGreat.Np
open Lx (PTok Tok)
open Tr (Nd)
theorem R.bind_mono {α β : Type} {x x' : R α} {k k' : α → List PTok → R β} (hx : x ≠ .out → x' = x) (hk : ∀ a r, k a r ≠ .out → k' a r = k a r) (h : x.bind k ≠ .out) : x'.bind k' = x.bind k := by
 have hx' : x ≠ .out := fun e => h (by rw [e]; rfl)
 rw [hx hx']
 cases x with
 | ok a r => exact hk a r h
 | err i e => rfl
 | out => exact absurd rfl hx'
theorem R.map_mono {α β : Type} {x x' : R α} {k : α → β} (hx : x ≠ .out → x' = x) (h : x.map k ≠ .out) : x'.map k = x.map k := R.bind_mono hx (fun _ _ _ => rfl) h
theorem ite_mono {α : Type} {c : Prop} [Decidable c] {a a' b b' : R α} (ha : a ≠ .out → a' = a) (hb : b ≠ .out → b' = b) (h : (if c then a else b) ≠ .out) : (if c then a' else b') = if c then a else b := by
 by_cases hc : c
 ·rw [if_pos hc] at h ⊢; rw [if_pos hc]; exact ha h
 ·rw [if_neg hc] at h ⊢; rw [if_neg hc]; exact hb h
structure Mono (en f : Nat) : Prop where
 row : ∀ op l, pRow en f op l ≠ .out → pRow en (f + 1) op l = pRow en f op l
 within : ∀ b op l, pIn en f b op l ≠ .out → pIn en (f + 1) b op l = pIn en f b op l
 arg : ∀ op l, pArg en f op l ≠ .out → pArg en (f + 1) op l = pArg en f op l
 args : ∀ n op l, pArgs en f n op l ≠ .out → pArgs en (f + 1) n op l = pArgs en f n op l
 script : ∀ b op l, pScript en f b op l ≠ .out → pScript en (f + 1) b op l = pScript en f b op l
 item : ∀ op l, pItem en f op l ≠ .out → pItem en (f + 1) op l = pItem en f op l
 prim : ∀ op l, pPrim en f op l ≠ .out → pPrim en (f + 1) op l = pPrim en f op l
 name : ∀ op t r, pName en f op t r ≠ .out → pName en (f + 1) op t r = pName en f op t r
 cells : ∀ op ks b c l, pCells en f op ks b c l ≠ .out → pCells en (f + 1) op ks b c l = pCells en f op ks b c l
theorem mono (en : Nat) : ∀ f, Mono en f
 | 0 => by
  constructor
  ·intro op l h; exact absurd (by rw [pRow]) h
  ·intro b op l h; exact absurd (by rw [pIn]) h
  ·intro op l h; exact absurd (by rw [pArg]) h
  ·intro n op l h; exact absurd (by rw [pArgs]) h
  ·intro b op l h; exact absurd (by rw [pScript]) h
  ·intro op l h; exact absurd (by rw [pItem]) h
  ·intro op l h; exact absurd (by rw [pPrim]) h
  ·intro op t r h; exact absurd (by rw [pName]) h
  ·intro op ks b c l h; exact absurd (by rw [pCells]) h
 | f + 1 => by
  have ih := mono en f
  constructor
  ·intro op l h
   rw [pRow] at h
   rw [pRow, pRow]
   exact ite_mono (fun _ => rfl) (fun h => ite_mono (fun _ => rfl) (fun h => R.bind_mono (ih.item op l) (fun a r h => R.map_mono (ih.row op r) h) h) h) h
  ·intro b op l h
   rw [pIn] at h
   rw [pIn, pIn]
   exact R.bind_mono (ih.row _ _) (fun _ _ _ => rfl) h
  ·intro op l h
   cases l with
   | nil => rw [pArg, pArg]
   | cons t r =>
    rw [pArg] at h
    rw [pArg, pArg]
    cases hl : leafOf t with
    | some x => rfl
    | none =>
     rw [hl] at h
     exact ite_mono (fun h => R.map_mono (ih.within _ _ _) h) (fun h => ite_mono (fun _ => rfl) (fun _ => rfl) h) h
  ·intro n op l h
   cases n with
   | zero => rw [pArgs, pArgs]
   | succ n =>
    rw [pArgs] at h
    rw [pArgs, pArgs]
    exact R.bind_mono (ih.arg op l) (fun a r h => R.map_mono (ih.args n op r) h) h
  ·intro b op l h
   rw [pScript] at h
   rw [pScript, pScript]
   exact ite_mono (fun h => R.map_mono (ih.arg op _) h) (fun _ => rfl) h
  ·intro op l h
   rw [pItem] at h
   rw [pItem, pItem]
   exact R.bind_mono (ih.prim op l) (fun a r h => R.bind_mono (ih.script 95 op r) (fun sub r h => R.bind_mono (ih.script 94 op r) (fun sup r h => ite_mono (fun h => R.bind_mono (ih.script 95 op r) (fun _ _ _ => rfl) h) (fun _ => rfl) h) h) h) h
  ·intro op l h
   cases l with
   | nil => rw [pPrim, pPrim]
   | cons t r =>
    rw [pPrim] at h
    rw [pPrim, pPrim]
    cases hl : leafOf t with
    | some x => rfl
    | none =>
     rw [hl] at h
     exact ite_mono (ih.name op t r) (fun h => ite_mono (fun h => R.map_mono (ih.args 1 op r) h) (fun h => ite_mono (fun h => R.map_mono (ih.within _ _ _) h) (fun h => ite_mono (fun h => R.map_mono (ih.within _ _ _) h) (fun h => ite_mono (ih.within _ _ _) (fun _ => rfl) h) h) h) h) h
  ·intro op t r h
   rw [pName] at h
   rw [pName, pName]
   exact ite_mono (fun h => R.map_mono (ih.args 2 op r) h) (fun h => ite_mono (fun h => ite_mono (fun h => R.bind_mono (ih.within _ _ _) (fun d r h => R.map_mono (ih.args 1 op r) h) h) (fun h => R.map_mono (ih.args 1 op r) h) h)
    (fun h => ite_mono (fun h => ite_mono (fun h => R.map_mono (ih.cells _ _ _ _ _) h) (fun _ => rfl) h) (fun h => ite_mono (fun h => R.map_mono (ih.args 1 op r) h) (fun _ => rfl) h) h) h) h
  ·intro op ks b c l h
   rw [pCells] at h
   rw [pCells, pCells]
   exact R.bind_mono (ih.row op l) (fun items r h => ite_mono (ih.cells _ _ _ _ _) (fun h => ite_mono (fun _ => rfl) (fun h => ite_mono (fun _ => rfl) (fun h => ite_mono (fun _ => rfl) (ih.cells _ _ _ _ _) h) h) h) h) h
theorem row_mono (en : Nat) (op : List Nat) (l : List PTok) (f : Nat) (h : pRow en f op l ≠ .out) : ∀ n, pRow en (f + n) op l = pRow en f op l
 | 0 => rfl
 | n + 1 => by
  rw [← Nat.add_assoc, (mono en (f + n)).row op l (by rw [row_mono en op l f h n]; exact h), row_mono en op l f h n]
theorem parseT_of (en : Nat) (l : List PTok) (ks : List Nd) (h : Tr.Ev fun F => pRow en F [] l = .ok ks []) : parseT en l = .ok ks [] := by
 obtain ⟨F, h⟩ := h
 have hg := (good en (8 * l.length + 8)).row [] l (by omega)
 have hne : pRow en (8 * l.length + 8) [] l ≠ .out := fun e => by rw [e] at hg; exact hg
 have h1 := row_mono en [] l _ hne F
 rw [h _ (by omega)] at h1
 unfold parseT
 rw [← h1]
 rfl
theorem bare_al (W : List (List UInt8 × Tok)) (a : Nat) : Al (Lx.placed a W) (bare (W.map (·.2))) := by
 unfold Al bare
 rw [Lx.placed_toks, List.map_map]
 simp [Lx.tok, Function.comp_def]
theorem parse_bare (a : Nd) (ha : Tr.IsRow a) : parseT 0 (bare (Tr.rowT a.kids)) = .ok a.kids [] := by
 obtain ⟨F, h⟩ := (Tr.PU.all (Tr.count a)).row a.kids (fun x hx => ⟨ha.views x hx, by have := Tr.count_mem hx; have := Tr.count_kids a; omega⟩) [] ⟨rfl, rfl, rfl⟩
 have h1 := h F (Nat.le_refl _)
 rw [List.append_nil] at h1
 have h2 := (reads F F (Nat.le_refl _)).row _ _ _ h1 [] (.inl ⟨rfl, rfl⟩)
 exact parseT_of 0 _ _ h2
theorem flat_cost : ∀ (l : List Tok) (o : Option Tok), (Lx.flat (Tr.sepd o l)).length ≤ cost l
 | [], _ => Nat.zero_le _
 | t :: ts, o => by
  have := flat_cost ts (some t)
  cases o with
  | none =>
   simp only [Tr.sepd, Lx.flat, List.length_append, cost, List.length_nil]
   omega
  | some a =>
   simp only [Tr.sepd, Lx.flat, List.length_append, cost]
   split
   ·rw [List.length_singleton]; omega
   ·rw [List.length_nil]; omega
theorem sepd_length (l : List Tok) (o : Option Tok) : (Tr.sepd o l).length = l.length := by
 have := congrArg List.length (Tr.sepd_toks l o)
 simpa using this
theorem placed_length (W : List (List UInt8 × Tok)) (a : Nat) : (Lx.placed a W).length = W.length := by
 have := congrArg List.length (Lx.placed_toks W a)
 simpa using this
end Go.Proofs.YtgfhlfbcoimojaaGreat.Np
namespace Go.Proofs.YtgfhlfbcoimojaaGreat
open Tr (Nd)
open Np (R)
theorem parse_printed (a : Nd) (h : Tr.IsRow a) : parseS (Tr.wtext (Tr.rowT a.kids)) = .ok a.kids [] := by
 unfold parseS
 rw [Tr.wtext_lex _ (Tr.row_ok a h)]
 simp only
 have hs := Np.parseT_alike (Tr.wtext (Tr.rowT a.kids)).length 0 _ _ (Np.bare_al (Tr.sepd none (Tr.rowT a.kids)) 0)
 rw [Tr.sepd_toks, Np.parse_bare a h] at hs
 cases hp : Np.parseT (Tr.wtext (Tr.rowT a.kids)).length (Lx.placed 0 (Tr.sepd none (Tr.rowT a.kids))) with
 | out => rw [hp] at hs; exact hs.elim
 | err i e => rw [hp] at hs; exact hs.elim
 | ok b r =>
  rw [hp] at hs
  obtain ⟨h1, h2⟩ := hs
  have : r = [] := by
   cases r with
   | nil => rfl
   | cons x l => cases h2
  rw [h1, this]
theorem printed_len (a : Nd) (h : Tr.IsRow a) : (Tr.wtext (Tr.rowT a.kids)).length ≤ 1221 * Tr.count a := by
 have h1 := Np.flat_cost (Tr.rowT a.kids) none
 have h2 := ok_cost _ (Tr.row_ok a h)
 have h3 := row_len a h
 have : (Tr.wtext (Tr.rowT a.kids)).length ≤ cost (Tr.rowT a.kids) := h1
 omega
theorem printed_toks (a : Nd) (h : Tr.IsRow a) : (Lx.lexAll (Tr.wtext (Tr.rowT a.kids))).1.length ≤ 3 * Tr.count a := by
 rw [Tr.wtext_lex _ (Tr.row_ok a h)]
 show (Lx.placed 0 _).length ≤ _
 rw [Np.placed_length, Np.sepd_length]
 exact row_len a h
theorem slot_row (a : Nd) (h : Tr.IsRow a) : Np.slot a.kids = a := (Tr.row_eq a h.1 h.2).symm
end Go.Proofs.YtgfhlfbcoimojaaGreat

/- The statement PrinterInverse: for all trees the law returns true, and the tree reads as it did. No condition. -/
namespace Go.Proofs.YtgfhlfbcoimojaaGreat
open Go.ChangeShapes Go.WideShapes Go.ChangeAt Go.RowKit
open Go.ChangeMaps (open_string shut_string)
open Tr (Nd)
open Np (R)
def noNd : Nd := .mk 0 [] 0 []
def pN : R (List Nd) → Nd
 | .ok items _ => if Tr.valid (Np.slot items) then Np.slot items else noNd
 | _ => noNd
def pI : R (List Nd) → Nat
 | .err i _ => i
 | _ => 0
def pE : R (List Nd) → Nat
 | .ok items _ => if Tr.valid (Np.slot items) then 0 else 6
 | .err _ e => e
 | .out => 0
theorem pN_text (X : R (List Nd)) : (pN X).text.length ≤ maxLen := by
 unfold pN
 split
 ·split <;> exact Nat.zero_le _
 ·exact Nat.zero_le _
theorem parse_call (s : ByteArray) (w : World) (hm : s.size ≤ 1000000000) (hc : (Lx.lexAll s.data.toList).1.length ≤ 8000) : Calls Tryz.prog 8 #[.string s, .pointer none] w fun e w' =>
  ∃ A cap, e = .returned (.tuple #[nv (pN (parseS s.data.toList)) (.slice A (pN (parseS s.data.toList)).kids.length cap), .int .i64 (pI (parseS s.data.toList) : Int), .int .i64 (pE (parseS s.data.toList) : Int)]) ∧ RepL w' (pN (parseS s.data.toList)).kids (.slice A (pN (parseS s.data.toList)).kids.length cap) ∧ Fresh w w' := by
 refine (parseX_any s w hm hc).mono ?_
 intro e w' h
 have hne := parseS_ends s.data.toList
 generalize parseS s.data.toList = X at h hne
 cases X with
 | out => exact absurd rfl hne
 | err i er =>
  obtain ⟨_, rfl, hf⟩ := h
  exact ⟨none, 0, rfl, .nil _ _, hf⟩
 | ok items rest =>
  rcases h with ⟨hv, A, cp, rfl, htr, hf⟩ | ⟨hv, rfl, hf⟩
  ·have e1 : pN (.ok items rest) = Np.slot items := by simp [pN, hv]
   have e2 : pE (.ok items rest) = 0 := by simp [pE, hv]
   rw [e1, e2]
   exact ⟨A, cp, rfl, htr.rep, hf⟩
  ·have e1 : pN (.ok items rest) = noNd := by simp [pN, hv]
   have e2 : pE (.ok items rest) = 6 := by simp [pE, hv]
   rw [e1, e2]
   exact ⟨none, 0, rfl, .nil _ _, hf⟩
theorem parse_of_print (n : Nd) (w : World) (hv : Tr.valid n = true) (hc : Tr.count n ≤ 1000) : Calls Tryz.prog 8 #[.string ⟨(printS n).toArray⟩, .pointer none] w fun e w' =>
  ∃ A cap, e = .returned (.tuple #[nv n (.slice A n.kids.length cap), .int .i64 0, .int .i64 0]) ∧ RepL w' n.kids (.slice A n.kids.length cap) ∧ Fresh w w' := by
 have hr := Tr.valid_row n hv
 have hp : printS n = Tr.wtext (Tr.rowT n.kids) := by unfold printS; rw [if_pos hv]
 have hx : parseS (printS n) = .ok n.kids [] := by rw [hp]; exact parse_printed n hr
 have hl := printed_len n hr
 have ht := printed_toks n hr
 rw [← hp] at hl ht
 have h := parse_call ⟨(printS n).toArray⟩ w (by show (printS n).toArray.size ≤ _; rw [List.size_toArray]; omega) (by show (Lx.lexAll (printS n)).1.length ≤ _; omega)
 have e0 : (⟨(printS n).toArray⟩ : ByteArray).data.toList = printS n := rfl
 rw [e0, hx] at h
 have e1 : pN (.ok n.kids []) = n := by simp [pN, slot_row n hr, hv]
 have e2 : pE (.ok n.kids []) = 0 := by simp [pE, slot_row n hr, hv]
 rw [e1, e2] at h
 exact h
theorem count_rep {n : Nd} : Tr.eqN n n = true := (Tr.eqN_iff n n).2 rfl
end Go.Proofs.YtgfhlfbcoimojaaGreat

/- PrinterNeedless, the plain law: a printed text with one character left out has another tree, or none. -/
namespace Go.Proofs.YtgfhlfbcoimojaaGreat
open Lx (Tok TokOK)
open Tr (Nd)
open Np (R Cmp)
theorem erase_same {l : List UInt8} {i : Nat} {x : UInt8} (h1 : l[i]? = some x) (h2 : l[i + 1]? = some x) : l.eraseIdx i = l.eraseIdx (i + 1) := by
 apply List.ext_getElem?
 intro k
 rw [List.getElem?_eraseIdx, List.getElem?_eraseIdx]
 by_cases a : k < i
 ·rw [if_pos a, if_pos (by omega)]
 ·rw [if_neg a]
  by_cases b : k = i
  ·subst b
   rw [if_pos (by omega), h1, h2]
  ·rw [if_neg (by omega)]
theorem run_last (l : List UInt8) : ∀ (f i : Nat), i < l.length → l.length ≤ i + f → ∃ j, j < l.length ∧ l.eraseIdx i = l.eraseIdx j ∧ ∀ x, l[j]? = some x → l[j + 1]? ≠ some x
 | 0, i, h, hf => by omega
 | f + 1, i, h, hf => by
  by_cases hx : ∃ x, l[i]? = some x ∧ l[i + 1]? = some x
  ·obtain ⟨x, h1, h2⟩ := hx
   obtain ⟨hl, _⟩ := List.getElem?_eq_some_iff.1 h2
   obtain ⟨j, g1, g2, g3⟩ := run_last l f (i + 1) hl (by omega)
   exact ⟨j, g1, (erase_same h1 h2).trans g2, g3⟩
  ·exact ⟨i, h, rfl, fun x h1 h2 => hx ⟨x, h1, h2⟩⟩
theorem count_erase (b : UInt8) : ∀ (l : List UInt8) (j : Nat), l[j]? = some b → (l.eraseIdx j).count b + 1 = l.count b
 | [], j, h => by cases j <;> cases h
 | c :: l, 0, h => by
  cases h
  rw [List.eraseIdx_cons_zero, List.count_cons_self]
 | c :: l, j + 1, h => by
  have := count_erase b l j h
  rw [List.eraseIdx_cons_succ, List.count_cons, List.count_cons]
  omega
theorem needless (n : Nd) (hv : Tr.valid n = true) (i : Nat) (hi : i < (printS n).length) (r : List Lx.PTok) : parseS ((printS n).eraseIdx i) ≠ .ok n.kids r := by
 intro h
 have hr := Tr.valid_row n hv
 have hp : printS n = Tr.wtext (Tr.rowT n.kids) := by unfold printS; rw [if_pos hv]
 rw [hp] at h hi
 have hT := Tr.row_ok n hr
 generalize hTe : Tr.rowT n.kids = T at h hi hT hp
 obtain ⟨j, hj, he, hn⟩ := run_last (Tr.wtext T) (Tr.wtext T).length i hi (by omega)
 rw [he] at h
 have hok := lexAll_ok ((Tr.wtext T).eraseIdx j)
 unfold parseS at h
 generalize hl : Lx.lexAll ((Tr.wtext T).eraseIdx j) = X at h hok
 obtain ⟨ts, o⟩ := X
 cases o with
 | some pe => cases h
 | none =>
  have hc : Cmp T (Np.tk ts) := by
   rw [← hTe]
   exact Np.parse_cmp _ ts n.kids r h hok hr.views
  have hq := Lx.lexAll_quotes _ (show (Lx.lexAll ((Tr.wtext T).eraseIdx j)).2 = none by rw [hl])
  have hw := Tr.wtext_lex T hT
  have hq2 := Lx.lexAll_quotes (Tr.wtext T) (by rw [hw])
  rw [hw] at hq2
  rw [hl] at hq
  have e1 : (Lx.placed 0 (Tr.sepd none T)).map Lx.tok = T := by rw [Lx.placed_toks, Tr.sepd_toks]
  rw [e1] at hq2
  have e2 : Np.qs T = Np.qs (ts.map Lx.tok) := hc.qs
  refine Np.left_out ((Tr.wtext T).eraseIdx j) T (Np.tk ts) hc (fun t ht => ?_) T [] none [] j hT rfl hj hn ?_ ?_ (fun a e => by cases e) ?_ rfl
  ·obtain ⟨x, hx, rfl⟩ := List.mem_map.1 ht
   exact hok x hx
  ·intro h34
   have h5 : ((Tr.wtext T).eraseIdx j).count 34 + 1 = (Tr.wtext T).count 34 := count_erase 34 _ j h34
   have h6 : (Tr.wtext T).count 34 = Np.qs T := hq2
   have h7 : ((Tr.wtext T).eraseIdx j).count 34 = Np.qs (ts.map Lx.tok) := hq
   omega
  ·show (Lx.lexAll ((Tr.wtext T).eraseIdx j)).2 = none
   rw [hl]
  ·show Np.tk ts = [] ++ (Lx.lexAll ((Tr.wtext T).eraseIdx j)).1.map Lx.tok
   rw [hl]
   rfl
theorem needless_eq (n : Nd) (hv : Tr.valid n = true) (i : Nat) (hi : i < (printS n).length) (h0 : pE (parseS ((printS n).eraseIdx i)) = 0) : Tr.eqN (pN (parseS ((printS n).eraseIdx i))) n = false := by
 cases he : Tr.eqN (pN (parseS ((printS n).eraseIdx i))) n with
 | false => rfl
 | true =>
  have h1 := (Tr.eqN_iff _ _).1 he
  exfalso
  have hne := parseS_ends ((printS n).eraseIdx i)
  cases hX : parseS ((printS n).eraseIdx i) with
  | out => exact hne hX
  | err p e =>
   rw [hX] at h1
   have : noNd = n := h1
   subst this
   cases hv
  | ok items r =>
   rw [hX] at h0 h1
   by_cases hs : Tr.valid (Np.slot items) = true
   ·have e1 : pN (.ok items r) = Np.slot items := by simp [pN, hs]
    rw [e1] at h1
    have : items = n.kids := by rw [← h1]; rfl
    subst this
    exact needless n hv i hi r hX
   ·have e2 : pE (.ok items r) = 6 := by simp [pE, hs]
    rw [e2] at h0
    cases h0
end Go.Proofs.YtgfhlfbcoimojaaGreat
