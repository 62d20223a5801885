/- Part 4 of 12 of a proof; its texts, joined: PrN, Tkr, SpF, SpG, App, RpA, PrO, RpB. No condition. -/
import Derived.Test.YtdacpbdamliafaaGreatRo3
import Derived.Test.YtdacpbdamliafaaGreatRo1
import Derived.Test.YtdacpbdamliafaaGreatRo2
import Derived.Maps.AppendAt
import Derived.Deep.RegionLaw
import Derived.Deep.RegionHeld3
import Derived.Deep.DeepCutAuto

/- The tokens of a small valid tree fit into a printer. -/
namespace Go.Proofs.YtdacpbdamliafaaGreat
open Tr (Nd View IsRow itemT rowT argT baseT cellsT count countL AllOK)
def cost : List Lx.Tok → Nat
 | [] => 0
 | t :: l => (Lx.spell t).length + 1 + cost l
theorem adds_len : ∀ (l : List Lx.Tok) (toks : List Lx.PTok) (txt : List UInt8), (adds l toks txt).1.length = toks.length + l.length ∧ (adds l toks txt).2.length ≤ txt.length + cost l
 | [], _, _ => ⟨rfl, Nat.le_refl _⟩
 | t :: l, toks, txt => by
  have h := adds_len l (added toks txt t) (txt ++ gap toks t ++ Lx.spell t)
  have hg : (gap toks t).length ≤ 1 := by unfold gap; split <;> simp
  simp only [adds, added, List.length_append, List.length_nil, List.length_cons, cost] at h ⊢
  omega
theorem ok_text (t : Lx.Tok) (h : Lx.TokOK t) : t.text.length ≤ 200 := by
 rcases h with ⟨_, c, h, _⟩ | ⟨_, h, _⟩ | ⟨_, h, _⟩ | ⟨_, h, _⟩ | ⟨_, a, b, h, _⟩ | ⟨_, c, h, _⟩ | ⟨_, c, h, _⟩ | ⟨_, h⟩
 ·rw [h]; simp
 ·omega
 ·exact h
 ·omega
 ·rw [h]; simp
 ·rw [h]; simp
 ·rw [h]; simp
 ·rw [h]; simp
theorem ok_cost : ∀ l : List Lx.Tok, AllOK l → cost l ≤ 407 * l.length
 | [], _ => Nat.le_refl _
 | t :: l, h => by
  have h1 := ok_cost l fun x hx => h x (by simp [hx])
  have h2 := ok_text t (h t (by simp))
  have h3 := spellL_le t.kind t.text
  have h4 : (Lx.spell t).length ≤ 2 * t.text.length + 6 := h3
  simp only [cost, List.length_cons]
  omega
theorem rowT_len (ks : List Nd) (h : ∀ x ∈ ks, (itemT x).length ≤ 3 * count x) : (rowT ks).length ≤ 3 * countL ks := by
 induction ks with
 | nil => rw [Tr.rowT_nil]; simp
 | cons x ks ih =>
  rw [Tr.rowT_cons, List.length_append, countL]
  have h1 := h x (by simp)
  have h2 := ih fun y hy => h y (by simp [hy])
  omega
theorem argT_len (a : Nd) (h : ∀ x ∈ a.kids, (itemT x).length ≤ 3 * count x) : (argT a).length ≤ 3 * count a - 1 := by
 have hc := Tr.count_kids a
 have hr := rowT_len a.kids h
 rw [Tr.argT_eq]
 split
 ·rename_i x hx
  rw [hx] at h hc hr
  have h1 := h x (by simp)
  simp only [countL] at hc
  split
  ·omega
  ·simp only [List.length_cons, List.length_append, List.length_nil, countL] at hr ⊢; omega
 ·simp only [List.length_cons, List.length_append, List.length_nil]; omega
theorem baseT_len (a : Nd) (h : ∀ x ∈ a.kids, (itemT x).length ≤ 3 * count x) : (baseT a).length ≤ 3 * count a - 1 := by
 have hc := Tr.count_kids a
 have hr := rowT_len a.kids h
 rw [Tr.baseT_eq]
 split
 ·rename_i x hx
  rw [hx] at h hc hr
  have h1 := h x (by simp)
  simp only [countL] at hc
  split
  ·simp only [List.length_cons, List.length_append, List.length_nil, countL] at hr ⊢; omega
  ·omega
 ·simp only [List.length_cons, List.length_append, List.length_nil]; omega
theorem cellsT_len (c : Int) : ∀ (ks : List Nd) (i : Nat), (∀ k ∈ ks, ∀ x ∈ k.kids, (itemT x).length ≤ 3 * count x) → (cellsT c i ks).length ≤ 3 * countL ks
 | [], _, _ => by rw [cellsT]; simp
 | k :: ks, i, h => by
  have h1 := cellsT_len c ks (i + 1) fun y hy => h y (by simp [hy])
  have h2 := rowT_len k.kids (h k (by simp))
  have h3 := Tr.count_kids k
  rw [cellsT, List.length_append, List.length_append, countL]
  have h4 : (if i = 0 then [] else if (i : Int) % c = 0 then [(⟨8, [92, 92]⟩ : Lx.Tok)] else [Tr.mk7 38]).length ≤ 1 := by
   split
   ·simp
   ·split <;> simp
  omega
theorem item_len (m : Nat) : ∀ n, count n ≤ m → View n → (itemT n).length ≤ 3 * count n := by
 induction m with
 | zero => intro n h; have := Tr.count_pos n; omega
 | succ m ih =>
  intro n hc v
  have hk : ∀ (k : Int) (t : Tr.Bytes) (c : Int) (ks : List Nd), n = .mk k t c ks → ∀ a ∈ ks, IsRow a → ∀ x ∈ a.kids, (itemT x).length ≤ 3 * count x := fun k t c ks e a ha hr x hx => by
   have h1 := Tr.count_mem hx
   have h2 := Tr.count_kids a
   have h3 := Tr.count_mem ha
   rw [e, count] at hc
   exact ih x (by omega) (hr.views x hx)
  cases v with
  | sym t h => rw [Tr.itemT_sym]; simp [count]; omega
  | num t h => rw [Tr.itemT_num]; simp [count]; omega
  | text t h => rw [Tr.itemT_text]; simp [count]; omega
  | frac a b ha hb =>
   have h1 := argT_len a (hk _ _ _ _ rfl a (by simp) ha)
   have h2 := argT_len b (hk _ _ _ _ rfl b (by simp) hb)
   have h3 := Tr.count_pos a
   have h4 := Tr.count_pos b
   rw [Tr.itemT_frac]
   simp only [List.length_cons, List.length_append, count, countL]
   omega
  | root a b ha hb =>
   have h1 := rowT_len a.kids (hk _ _ _ _ rfl a (by simp) ha)
   have h2 := argT_len b (hk _ _ _ _ rfl b (by simp) hb)
   have h3 := Tr.count_kids a
   have h4 := Tr.count_pos b
   rw [Tr.itemT_root]
   simp only [List.length_cons, List.length_append, count, countL]
   split
   ·simp only [List.length_nil]; omega
   ·simp only [List.length_cons, List.length_append, List.length_nil]; omega
  | sub a b ha hb =>
   have h1 := baseT_len a (hk _ _ _ _ rfl a (by simp) ha)
   have h2 := argT_len b (hk _ _ _ _ rfl b (by simp) hb)
   have h3 := Tr.count_pos a
   have h4 := Tr.count_pos b
   rw [Tr.itemT_sub]
   simp only [List.length_cons, List.length_append, count, countL]
   omega
  | sup a b ha hb =>
   have h1 := baseT_len a (hk _ _ _ _ rfl a (by simp) ha)
   have h2 := argT_len b (hk _ _ _ _ rfl b (by simp) hb)
   have h3 := Tr.count_pos a
   have h4 := Tr.count_pos b
   rw [Tr.itemT_sup]
   simp only [List.length_cons, List.length_append, count, countL]
   omega
  | both a b d ha hb hd =>
   have h1 := baseT_len a (hk _ _ _ _ rfl a (by simp) ha)
   have h2 := argT_len b (hk _ _ _ _ rfl b (by simp) hb)
   have h3 := argT_len d (hk _ _ _ _ rfl d (by simp) hd)
   have h4 := Tr.count_pos a
   have h5 := Tr.count_pos b
   have h6 := Tr.count_pos d
   rw [Tr.itemT_both]
   simp only [List.length_cons, List.length_append, count, countL]
   omega
  | accent t a h ha =>
   have h1 := argT_len a (hk _ _ _ _ rfl a (by simp) ha)
   rw [Tr.itemT_accent]
   simp only [List.length_cons, count, countL]
   omega
  | fence t a h ha =>
   have h1 := argT_len a (hk _ _ _ _ rfl a (by simp) ha)
   have h2 := rowT_len a.kids (hk _ _ _ _ rfl a (by simp) ha)
   have h3 := Tr.count_kids a
   rw [Tr.itemT_fence]
   split
   ·simp only [List.length_cons, List.length_append, List.length_nil, count, countL]; omega
   ·simp only [List.length_cons, count, countL]; omega
  | matrix c ks hc1 hn hm h =>
   have h1 := cellsT_len c ks 0 fun k hk' => hk _ _ _ _ rfl k hk' (h k hk')
   rw [Tr.itemT_matrix c ks (by rintro rfl; simp at hn)]
   simp only [List.length_cons, List.length_append, List.length_nil, count]
   omega
theorem row_len (a : Nd) (ha : IsRow a) : (rowT a.kids).length ≤ 3 * count a := by
 have := rowT_len a.kids fun x hx => item_len _ x (Nat.le_refl _) (ha.views x hx)
 have := Tr.count_kids a
 omega
theorem row_fits (a : Nd) (ha : IsRow a) (hc : count a ≤ 800) : Fits (rowT a.kids) [] [] := by
 have h1 := row_len a ha
 have h2 := ok_cost _ (Tr.row_ok a ha)
 have h3 := adds_len (rowT a.kids) [] []
 simp only [List.length_nil] at h3
 unfold Fits
 omega
end Go.Proofs.YtdacpbdamliafaaGreat

/- Rows of tokens in memory. -/
namespace Go.Proofs.YtdacpbdamliafaaGreat
open Go.RowKit
def ptokCells (x : Lx.PTok) : List Value := [.int .i64 x.kind, .string ⟨x.text.toArray⟩, .int .i64 x.from_, .int .i64 x.to_]
def TokRow (W : World) (v : Value) (ts : List Lx.PTok) : Prop :=
 ∃ A cap, v = .slice A ts.length cap ∧ ∀ i (hi : i < ts.length), ∃ g o, A = some ⟨g, o, none⟩ ∧ g < W.heap.size ∧
  W.cell? ⟨g, o + i * 4, none⟩ = some (.int .i64 ts[i].kind) ∧ W.cell? ⟨g, o + i * 4 + 1, none⟩ = some (.string ⟨ts[i].text.toArray⟩) ∧ W.cell? ⟨g, o + i * 4 + 2, none⟩ = some (.int .i64 ts[i].from_) ∧ W.cell? ⟨g, o + i * 4 + 3, none⟩ = some (.int .i64 ts[i].to_)
theorem TokRow.fresh {W W' : World} {v : Value} {ts : List Lx.PTok} (h : TokRow W v ts) (hf : Fresh W W') : TokRow W' v ts := by
 obtain ⟨A, cap, hv, hc⟩ := h
 refine ⟨A, cap, hv, fun i hi => ?_⟩
 obtain ⟨g, o, h1, h2, h3, h4, h5, h6⟩ := hc i hi
 exact ⟨g, o, h1, Nat.lt_of_lt_of_le h2 hf.size, hf.cell h3 (fun h => h), hf.cell h4 (fun h => h), hf.cell h5 (fun h => h), hf.cell h6 (fun h => h)⟩
theorem owns_cells {W : World} {B e : Nat} {v : Value} {ts : List Lx.PTok} (h : W.ownsRow B e 4 v ts.length (ts.flatMap ptokCells)) (i : Nat) (hi : i < ts.length) :
  ∃ g cap, v = .slice (some ⟨g, 0, none⟩) ts.length cap ∧ B ≤ g ∧ g < W.heap.size ∧ ∀ j u, (ptokCells ts[i])[j]? = some u → W.cell? ⟨g, 4 * i + j, none⟩ = some u := by
 rcases h.2 with ⟨_, h0⟩ | ⟨g, cap, cur, hv, hB, r⟩
 ·omega
 ·subst hv
  refine ⟨g, cap, rfl, hB, (h.lt g rfl).2, fun j u hu => ?_⟩
  have hcl := h.cells (g := g) rfl (4 * i + j) u ?_
  ·rw [Addr.add_mid, Nat.zero_add] at hcl; exact hcl
  ·have hj : j < 4 := by have := (List.getElem?_eq_some_iff.1 hu).1; simpa [ptokCells] using this
   clear h r
   induction ts generalizing i with
   | nil => simp at hi
   | cons x l ih =>
    cases i with
    | zero => rw [List.flatMap_cons, List.getElem?_append_left (by simp [ptokCells]; omega)]; simpa using hu
    | succ i =>
     rw [List.flatMap_cons, List.getElem?_append_right (by simp [ptokCells]; omega)]
     have := ih i (by simpa using hi) (by simpa using hu)
     rw [← this]; congr 1; simp [ptokCells]; omega
theorem owns_row {W : World} {B e : Nat} {v : Value} {ts : List Lx.PTok} (h : W.ownsRow B e 4 v ts.length (ts.flatMap ptokCells)) : TokRow W v ts := by
 obtain ⟨A, cap, hv⟩ : ∃ A cap, v = .slice A ts.length cap := by
  rcases h.2 with ⟨h1, h2⟩ | ⟨g, cap, cur, h1, _⟩
  ·exact ⟨none, 0, by rw [h1, h2]⟩
  ·exact ⟨_, _, h1⟩
 refine ⟨A, cap, hv, fun i hi => ?_⟩
 obtain ⟨g, cap', h1, h2, h3, h4⟩ := owns_cells h i hi
 rw [hv] at h1
 cases h1
 refine ⟨g, 0, rfl, h3, ?_⟩
 rw [Nat.zero_add, Nat.mul_comm i 4]
 exact ⟨h4 0 _ rfl, h4 1 _ rfl, h4 2 _ rfl, h4 3 _ rfl⟩
theorem TokRow.nil (W : World) : TokRow W (.slice none 0 0) [] := ⟨none, 0, rfl, fun i hi => by simp at hi⟩
theorem infoRTok : (Tryz.prog.info? 51).map (fun i => (i.zero, i.size, i.bytes)) = some (some (.agg #[.int .i64 0, .string ⟨#[]⟩, .int .i64 0, .int .i64 0]), 4, 40) := by kernel_rfl
end Go.Proofs.YtdacpbdamliafaaGreat

/- The walks of the reference's Quoted and Spell. -/
namespace Go.Proofs.YtdacpbdamliafaaGreat
open Go.RowKit
structure RQ (w : World) (acc : List UInt8) (n g cap : Nat) (wr : World) : Prop where
 own : wr.ownsRow w.heap.size 5 1 (.slice (some ⟨g, 0, none⟩) n cap) n (Lib.byteCells acc)
 fresh : Fresh w wr
theorem one_cell (wr : World) (x : Value) : ∀ (j : Nat) (u : Value), [x][j]? = some u → (wr.alloc (.cells #[x] 5)).cell? ((⟨wr.heap.size, 0, none⟩ : Addr).add j) = some u := by
 intro j u hj
 match j, hj with
 | 0, hj =>
  simp at hj; subst hj
  exact (Blk.new wr 5 #[x]).cell 0
theorem RQ.next (c : UInt8) {w wr w' : World} {acc : List UInt8} {n g cap : Nat} {v : Value} {o : Obj} (h : RQ w acc n g cap wr) (hown : w'.ownsRow w.heap.size 5 1 v (n + 1) (Lib.byteCells acc ++ [.int .u8 c.toNat]))
  (hg : (wr.alloc o).grownBy w' (Value.slice (some ⟨g, 0, none⟩) n cap).ownBlock) : ∃ g' cap', v = .slice (some ⟨g', 0, none⟩) (n + 1) cap' ∧ RQ w (acc ++ [c]) (n + 1) g' cap' w' := by
 obtain ⟨g', cap', rfl⟩ : ∃ g' cap', v = .slice (some ⟨g', 0, none⟩) (n + 1) cap' := by
  rcases hown.2 with ⟨_, h0⟩ | ⟨g', cap', cur, hv, _⟩
  ·omega
  ·exact ⟨g', cap', hv⟩
 refine ⟨g', cap', rfl, ?_, ?_⟩
 ·rw [byteCells_snoc]; exact hown
 ·have hl := (h.own.lt g rfl).1
  refine h.fresh.trans' (S' := (· = g)) (((Touch.refl (· = g) wr).alloc o).grown hg (fun k hk => .inl ?_)) (fun k hk => .inr (by omega))
  simp [Value.ownBlock] at hk; exact hk.symm
set_option maxRecDepth 100000 in
set_option maxHeartbeats 1000000 in
theorem rQuoted_any (t : ByteArray) (w : World) (hm : t.size ≤ 1000000000) :
  Calls Tryz.prog 60 #[.string t] w fun e w' => e = .returned (.string ⟨(Lx.quoteL t.data.toList).toArray⟩) ∧ Fresh w w' := by
 obtain ⟨i0, hi, hz0, hz1, hz2⟩ := info_parts infoU8
 have hll : t.data.toList.length = t.size := by simp
 have HLL := hid hll
 clear hll
 go_enter Tryz.func60, Tryz.ntmps60
 go_wp2_with fail
 have hs0 : RQ w [34] 1 w.heap.size 1 (w.alloc (.cells #[.int .u8 34] 5)) :=
  ⟨⟨rfl, .inr ⟨w.heap.size, 1, #[.int .u8 34], rfl, Nat.le_refl _, (Blk.new w 5 #[.int .u8 34]), Nat.le_refl _, by decide, rfl, rfl⟩⟩, (Touch.refl _ w).alloc _⟩
 have HS0 := hid hs0
 clear hs0
 go_loopw [3, 4] (fun x i wr => ∃ (j : Nat) (acc : List UInt8) (n g cap : Nat), x = .slice (some ⟨g, 0, none⟩) n cap ∧ i = .int .i64 j ∧ j ≤ t.size ∧ n ≤ 2 * j + 1 ∧ Hid (acc = 34 :: Lx.esc (t.data.toList.take j)) ∧ Hid (RQ w acc n g cap wr)) (fun _ i _ => t.size - (intOf i).toNat)
 case atStart => exact ⟨0, [34], 1, w.heap.size, 1, rfl, rfl, Nat.zero_le _, Nat.le_refl _, rfl, HS0⟩
 case round =>
  obtain ⟨j, acc, n, g, cap, rfl, rfl, hj, hacc, HA, HS⟩ := hrel
  clear HS0
  by_cases c1 : j < t.size
  ·have b1 : decide ((j : Int) < (t.size : Int)) = true := by simp; omega
   have b1' : (j : Int) < (t.size : Int) := by omega
   have htk : t.data.toList.take (j + 1) = t.data.toList.take j ++ [t[j]'c1] := by
    rw [List.take_add_one, List.getElem?_eq_getElem (by rw [HLL.out]; exact c1)]; rfl
   have HTK := hid htk
   clear htk
   by_cases c2 : t[j]'c1 = 34
   ·have b2 : (((t[j]'c1).toNat : Int) == 34) = true := u8_eq_of _ 34 c2
    have HE := hid (show Lx.escB (t[j]'c1) = [92, t[j]'c1] by unfold Lx.escB; rw [if_pos (.inl c2)])
    clear c2
    go_wp2_with (at_builtin; refine wpList_append_own _ rfl _ _ 44 rfl w.heap.size 5 i0 (.int .u8 0) 1 1 Tryz.underlying44 hi hz0 hz1 hz2 rfl (by decide) _ _ _ rfl (HS.out.own.alloc _) ⟨wr.heap.size, 0, none⟩ 1 1 [.int .u8 (((92 : UInt8).toNat : Nat) : Int)] rfl rfl ?c1 ?c2 ?c3 ?c4 ?c5 ?_)
    case c1 => exact one_cell _ _
    case c2 => intro u hu; simp at hu; subst hu; rfl
    case c3 => unfold maxLen; omega
    case c4 => omega
    case c5 => have := HS.out.fresh.size; simp; omega
    intro v2 w2 hown2 hgrow2 _
    obtain ⟨g2, cap2, rfl, hn2⟩ := RQ.next 92 HS.out hown2 hgrow2
    have HN2 := hid hn2
    clear hown2 hgrow2 hn2
    go_wp2_with (at_builtin; refine wpList_append_own _ rfl _ _ 44 rfl w.heap.size 5 i0 (.int .u8 0) 1 1 Tryz.underlying44 hi hz0 hz1 hz2 rfl (by decide) _ _ _ rfl (HN2.out.own.alloc _) ⟨w2.heap.size, 0, none⟩ 1 1 [.int .u8 ((t[j]'c1).toNat : Int)] rfl rfl ?c1 ?c2 ?c3 ?c4 ?c5 ?_)
    case c1 => exact one_cell _ _
    case c2 => intro u hu; simp at hu; subst hu; rfl
    case c3 => unfold maxLen; omega
    case c4 => omega
    case c5 => have := HN2.out.fresh.size; simp; omega
    intro v3 w3 hown3 hgrow3 _
    obtain ⟨g3, cap3, rfl, hn3⟩ := RQ.next (t[j]'c1) HN2.out hown3 hgrow3
    have HN3 := hid hn3
    clear hown3 hgrow3 hn3
    go_wp2_with fail
    go_roundw
    case rel => exact ⟨j + 1, acc ++ [92] ++ [t[j]'c1], n + 1 + 1, _, _, rfl, by go_num, c1, by omega, by rw [HTK.out, Lx.esc_snoc, HE.out, HA.out]; simp [Hid], HN3⟩
    case measure => simp [intOf]; omega
   ·have b2 : (((t[j]'c1).toNat : Int) == 34) = false := u8_ne_of _ 34 c2
    by_cases c3 : t[j]'c1 = 92
    ·have b3 : (((t[j]'c1).toNat : Int) == 92) = true := u8_eq_of _ 92 c3
     have HE := hid (show Lx.escB (t[j]'c1) = [92, t[j]'c1] by unfold Lx.escB; rw [if_pos (.inr c3)])
     clear c2 c3
     go_wp2_with (at_builtin; refine wpList_append_own _ rfl _ _ 44 rfl w.heap.size 5 i0 (.int .u8 0) 1 1 Tryz.underlying44 hi hz0 hz1 hz2 rfl (by decide) _ _ _ rfl (HS.out.own.alloc _) ⟨wr.heap.size, 0, none⟩ 1 1 [.int .u8 (((92 : UInt8).toNat : Nat) : Int)] rfl rfl ?c1 ?c2 ?c3 ?c4 ?c5 ?_)
     case c1 => exact one_cell _ _
     case c2 => intro u hu; simp at hu; subst hu; rfl
     case c3 => unfold maxLen; omega
     case c4 => omega
     case c5 => have := HS.out.fresh.size; simp; omega
     intro v2 w2 hown2 hgrow2 _
     obtain ⟨g2, cap2, rfl, hn2⟩ := RQ.next 92 HS.out hown2 hgrow2
     have HN2 := hid hn2
     clear hown2 hgrow2 hn2
     go_wp2_with (at_builtin; refine wpList_append_own _ rfl _ _ 44 rfl w.heap.size 5 i0 (.int .u8 0) 1 1 Tryz.underlying44 hi hz0 hz1 hz2 rfl (by decide) _ _ _ rfl (HN2.out.own.alloc _) ⟨w2.heap.size, 0, none⟩ 1 1 [.int .u8 ((t[j]'c1).toNat : Int)] rfl rfl ?c1 ?c2 ?c3 ?c4 ?c5 ?_)
     case c1 => exact one_cell _ _
     case c2 => intro u hu; simp at hu; subst hu; rfl
     case c3 => unfold maxLen; omega
     case c4 => omega
     case c5 => have := HN2.out.fresh.size; simp; omega
     intro v3 w3 hown3 hgrow3 _
     obtain ⟨g3, cap3, rfl, hn3⟩ := RQ.next (t[j]'c1) HN2.out hown3 hgrow3
     have HN3 := hid hn3
     clear hown3 hgrow3 hn3
     go_wp2_with fail
     go_roundw
     case rel => exact ⟨j + 1, acc ++ [92] ++ [t[j]'c1], n + 1 + 1, _, _, rfl, by go_num, c1, by omega, by rw [HTK.out, Lx.esc_snoc, HE.out, HA.out]; simp [Hid], HN3⟩
     case measure => simp [intOf]; omega
    ·have b3 : (((t[j]'c1).toNat : Int) == 92) = false := u8_ne_of _ 92 c3
     have HE := hid (show Lx.escB (t[j]'c1) = [t[j]'c1] by unfold Lx.escB; rw [if_neg (by rintro (h | h) <;> contradiction)])
     clear c2 c3
     go_wp2_with (at_builtin; refine wpList_append_own _ rfl _ _ 44 rfl w.heap.size 5 i0 (.int .u8 0) 1 1 Tryz.underlying44 hi hz0 hz1 hz2 rfl (by decide) _ _ _ rfl (HS.out.own.alloc _) ⟨wr.heap.size, 0, none⟩ 1 1 [.int .u8 ((t[j]'c1).toNat : Int)] rfl rfl ?c1 ?c2 ?c3 ?c4 ?c5 ?_)
     case c1 => exact one_cell _ _
     case c2 => intro u hu; simp at hu; subst hu; rfl
     case c3 => unfold maxLen; omega
     case c4 => omega
     case c5 => have := HS.out.fresh.size; simp; omega
     intro v2 w2 hown2 hgrow2 _
     obtain ⟨g2, cap2, rfl, hn2⟩ := RQ.next (t[j]'c1) HS.out hown2 hgrow2
     have HN2 := hid hn2
     clear hown2 hgrow2 hn2
     go_wp2_with fail
     go_roundw
     case rel => exact ⟨j + 1, acc ++ [t[j]'c1], n + 1, _, _, rfl, by go_num, c1, by omega, by rw [HTK.out, Lx.esc_snoc, HE.out, HA.out]; simp [Hid], HN2⟩
     case measure => simp [intOf]; omega
  ·have b1 : decide ((j : Int) < (t.size : Int)) = false := by simp; omega
   have htk : t.data.toList.take j = t.data.toList := List.take_of_length_le (by rw [HLL.out]; omega)
   have HTK := hid htk
   clear htk
   go_wp2_with (at_builtin; refine wpList_append_own _ rfl _ _ 44 rfl w.heap.size 5 i0 (.int .u8 0) 1 1 Tryz.underlying44 hi hz0 hz1 hz2 rfl (by decide) _ _ _ rfl (HS.out.own.alloc _) ⟨wr.heap.size, 0, none⟩ 1 1 [.int .u8 (((34 : UInt8).toNat : Nat) : Int)] rfl rfl ?c1 ?c2 ?c3 ?c4 ?c5 ?_)
   case c1 => exact one_cell _ _
   case c2 => intro u hu; simp at hu; subst hu; rfl
   case c3 => unfold maxLen; omega
   case c4 => omega
   case c5 => have := HS.out.fresh.size; simp; omega
   intro v2 w2 hown2 hgrow2 _
   obtain ⟨g2, cap2, rfl, hn2⟩ := RQ.next 34 HS.out hown2 hgrow2
   have HN2 := hid hn2
   clear hown2 hgrow2 hn2
   clear HS
   have hlen : (acc ++ [34]).length = n + 1 := by
    have := HN2.out.own.1
    simpa [Lib.byteCells] using this
   have hconv : (convert 44 9 (.slice (some ⟨g2, 0, none⟩) (n + 1) cap2)).run Tryz.prog w2 = .ok (.string ⟨(acc ++ [34]).toArray⟩) w2 := by
    rw [← hlen]
    refine run_convert_bytes_back w2 44 9 5 ⟨g2, 0, none⟩ cap2 (acc ++ [34]) Tryz.underlying44 Tryz.underlying5 Tryz.underlying9 ?_
    intro j hj
    exact HN2.out.own.cells rfl j _ (by unfold Lib.byteCells; rw [List.getElem?_map, List.getElem?_eq_getElem hj]; rfl)
   have HL := hid hlen
   clear hlen
   go_wp2_with fail
   go_ret
   exact ⟨by rw [HA.out, HTK.out]; rfl, HN2.out.fresh⟩
end Go.Proofs.YtdacpbdamliafaaGreat

/- The walk of the reference's Spell. -/
namespace Go.Proofs.YtdacpbdamliafaaGreat
open Go.RowKit
set_option maxHeartbeats 400000 in
theorem rSpell_any (k : Int) (t : ByteArray) (f to_ : Int) (w : World) (hm : t.size ≤ 1000000000) :
  Calls Tryz.prog 27 #[.agg #[.int .i64 k, .string t, .int .i64 f, .int .i64 to_]] w fun e w' => e = .returned (.string ⟨(Lx.spellL k t.data.toList).toArray⟩) ∧ Fresh w w' := by
 by_cases k3 : k = 3
 ·subst k3
  go_enter Tryz.func27, Tryz.ntmps27
  go_wp2_with fail
  refine (rQuoted_any t _ hm).mono ?_
  rintro e1 w1 ⟨rfl, hf⟩
  have HF := hid hf
  clear hf
  go_wp2_with fail
  go_ret
  exact ⟨rfl, HF.out.pre⟩
 have b3 : (k == 3) = false := by simpa using k3
 by_cases k4 : k = 4
 ·subst k4
  clear b3 k3
  go_enter Tryz.func27, Tryz.ntmps27
  go_wp2
  go_ret
  exact ⟨by rw [app_str [92] t]; rfl, (Touch.refl _ w).alloc _⟩
 have b4 : (k == 4) = false := by simpa using k4
 by_cases k5 : k = 5
 ·subst k5
  clear b3 k3 b4 k4
  go_enter Tryz.func27, Tryz.ntmps27
  go_wp2
  go_ret
  exact ⟨by rw [app_str [92, 102, 101, 110, 99, 101] t]; rfl, (Touch.refl _ w).alloc _⟩
 have b5 : (k == 5) = false := by simpa using k5
 by_cases k6 : k = 6
 ·subst k6
  clear b3 k3 b4 k4 b5 k5
  go_enter Tryz.func27, Tryz.ntmps27
  go_wp2
  go_ret
  exact ⟨by rw [app_str [35] t]; rfl, (Touch.refl _ w).alloc _⟩
 have b6 : (k == 6) = false := by simpa using k6
 have hsp : Lx.spellL k t.data.toList = t.data.toList := by unfold Lx.spellL; rw [if_neg k3, if_neg k4, if_neg k5, if_neg k6]
 have HSP := hid hsp
 clear hsp k3 k4 k5 k6
 go_enter Tryz.func27, Tryz.ntmps27
 go_wp2
 go_ret
 exact ⟨by rw [HSP.out]; rfl, (Touch.refl _ w).alloc _⟩
end Go.Proofs.YtdacpbdamliafaaGreat

/- An append to a row of the call's own, whatever the source: nothing, or cells at an address. -/
namespace Go.Proofs.YtdacpbdamliafaaGreat
open Go.RowKit
def Stay (p : Prop) : Prop := p
theorem Stay.mk {p : Prop} (h : Stay p) : p := h
theorem Stay.go {p : Prop} (h : p) : Stay p := h
def Src (w : World) (size : Nat) (y : Value) (m : Nat) (news : List Value) : Prop :=
 ∃ A c, y = .slice A m c ∧ news.length = m * size ∧ ((A = none ∧ m = 0 ∧ news = []) ∨ ∃ ad, A = some ad ∧ ∀ j u, news[j]? = some u → w.cell? (ad.add j) = some u)
theorem Src.fresh {w w' : World} {size m : Nat} {y : Value} {news : List Value} (h : Src w size y m news) (hf : Fresh w w') : Src w' size y m news := by
 obtain ⟨A, c, h1, h2, h3⟩ := h
 refine ⟨A, c, h1, h2, h3.imp id ?_⟩
 rintro ⟨ad, ha, hc⟩
 exact ⟨ad, ha, fun j u hu => hf.cell (hc j u hu) (fun h => h)⟩
theorem Src.of_own {w : World} {base e size n : Nat} {v : Value} {xs : List Value} (h : w.ownsRow base e size v n xs) : Src w size v n xs := by
 rcases h.2 with ⟨h1, h2⟩ | ⟨g, cap, cur, h1, _⟩
 ·refine ⟨none, 0, by rw [h1, h2], h.1, .inl ⟨rfl, h2, ?_⟩⟩
  have := h.1
  rw [h2, Nat.zero_mul] at this
  exact List.length_eq_zero_iff.1 this
 ·exact ⟨some ⟨g, 0, none⟩, cap, h1, h.1, .inr ⟨_, rfl, h.cells (by rw [h1]; rfl)⟩⟩
theorem Src.of_blk {w : World} {g : Nat} {t : TypeId} {cs : Array Value} {size m c : Nat} (h : Blk w g t cs) (hs : cs.size = m * size) : Src w size (.slice (some ⟨g, 0, none⟩) m c) m cs.toList :=
 ⟨_, _, rfl, by simpa using hs, .inr ⟨_, rfl, fun j u hu => by rw [Addr.add_mid, Nat.zero_add, h.cell]; simpa using hu⟩⟩
section
variable {P : Program} (w : World)
theorem run_append_src (base : Nat) (t ty e : TypeId) (i : TypeInfo) (z : Value) (size bytes : Nat) (ht : P.underlying t = some (.slice e)) (hi : P.info? e = some i) (hz : i.zero = some z)
  (hsize : i.size = size) (hby : i.bytes = bytes) (hzs : z.cells.size = size) (hsz : 0 < size)
  (v : Value) (n : Nat) (xs : List Value) (hown : w.ownsRow base e size v n xs) (y : Value) (m : Nat) (news : List Value) (hsrc : Src w size y m news) (h1 : ∀ u ∈ news, u.oneCell' = true)
  (h63 : n + m ≤ maxLen) (hbytes : (n + m) * bytes ≤ 140737488355328) (hbase : base ≤ w.heap.size) :
  ∃ v' w', (Builtin.append_ #[t, t] ty #[v, y]).run P w = .ok v' w' ∧ w'.ownsRow base e size v' (n + m) (xs ++ news) ∧ w.grownBy w' v.ownBlock ∧ (v'.ownBlock = v.ownBlock ∨ v'.ownBlock = some w.heap.size) := by
 obtain ⟨A, c, rfl, hl, hA⟩ := hsrc
 rcases hA with ⟨rfl, rfl, rfl⟩ | ⟨ad, rfl, hc⟩
 ·refine ⟨v, w, ?_, by simpa using hown, World.grownBy.refl w _, .inl rfl⟩
  rcases hown.2 with ⟨rfl, rfl⟩ | ⟨g, cap, cur, rfl, _, _, hnc, _⟩
  ·simp [Builtin.append_, run_underlying ht, sizeOf, typeInfo, hi, Builtin.lenOf, Builtin.firstCells]
  ·simp [Builtin.append_, run_underlying ht, sizeOf, typeInfo, hi, Builtin.lenOf, Builtin.firstCells, hnc, storeCells]
 ·obtain ⟨v', w', hrun, h2, h3, _, h5⟩ := run_append_own_at (P := P) w base t ty e i z size bytes ht hi hz hsize hby hzs hsz v n xs hown ad m c news hl hc h1 h63 hbytes hbase
  exact ⟨v', w', hrun, h2, h3, h5⟩
theorem wp_append_src {o : Oper} {a : Act} {K : Act → World → Prop} {Q : Exit → Act → World → Prop} (s x : Operand) (t : TypeId)
  (ho : o.op = .call { callee := .builtin .append, args := #[s, x], argTypes := #[t, t] })
  (base : Nat) (e : TypeId) (i : TypeInfo) (z : Value) (size bytes : Nat) (ht : P.underlying t = some (.slice e)) (hi : P.info? e = some i) (hz : i.zero = some z)
  (hsize : i.size = size) (hby : i.bytes = bytes) (hzs : z.cells.size = size) (hsz : 0 < size)
  (v : Value) (n : Nat) (xs : List Value) (hs : a.eval s = v) (hown : w.ownsRow base e size v n xs)
  (y : Value) (m : Nat) (news : List Value) (hx : a.eval x = y) (hsrc : Src w size y m news) (h1 : ∀ u ∈ news, u.oneCell' = true)
  (h63 : n + m ≤ maxLen) (hbytes : (n + m) * bytes ≤ 140737488355328) (hbase : base ≤ w.heap.size)
  (h : ∀ v' w', w'.ownsRow base e size v' (n + m) (xs ++ news) → w.grownBy w' v.ownBlock → (v'.ownBlock = v.ownBlock ∨ v'.ownBlock = some w.heap.size) → K (a.put o.dst v') w') : o.wp P a w K Q := by
 obtain ⟨v', w', hrun, h2, h3, h4⟩ := run_append_src (P := P) w base t o.type e i z size bytes ht hi hz hsize hby hzs hsz v n xs hown y m news hsrc h1 h63 hbytes hbase
 unfold Oper.wp execOp
 simp only [ho, resolve, invoke, builtin, Sem.run_bind, Sem.run_pure, Result.andThen_ok, List.map_toArray, List.map_cons, List.map_nil, hs, hx, hrun]
 exact h v' w' h2 h3 h4
theorem wpList_append_src {ops : Array Oper} {rest : List Oper} {o : Oper} {a : Act} {Q : Exit → Act → World → Prop} (hgd : o.guard = none) (s x : Operand) (t : TypeId)
  (ho : o.op = .call { callee := .builtin .append, args := #[s, x], argTypes := #[t, t] })
  (base : Nat) (e : TypeId) (i : TypeInfo) (z : Value) (size bytes : Nat) (ht : P.underlying t = some (.slice e)) (hi : P.info? e = some i) (hz : i.zero = some z)
  (hsize : i.size = size) (hby : i.bytes = bytes) (hzs : z.cells.size = size) (hsz : 0 < size)
  (v : Value) (n : Nat) (xs : List Value) (hs : a.eval s = v) (hown : w.ownsRow base e size v n xs)
  (y : Value) (m : Nat) (news : List Value) (hx : a.eval x = y) (hsrc : Src w size y m news) (h1 : ∀ u ∈ news, u.oneCell' = true)
  (h63 : n + m ≤ maxLen) (hbytes : (n + m) * bytes ≤ 140737488355328) (hbase : base ≤ w.heap.size)
  (h : ∀ v' w', w'.ownsRow base e size v' (n + m) (xs ++ news) → w.grownBy w' v.ownBlock → (v'.ownBlock = v.ownBlock ∨ v'.ownBlock = some w.heap.size) → wpList P ops Q rest (a.put o.dst v') w') : wpList P ops Q (o :: rest) a w :=
 wpList_plain hgd fun _ hK => wp_append_src w s x t ho base e i z size bytes ht hi hz hsize hby hzs hsz v n xs hs hown y m news hx hsrc h1 h63 hbytes hbase fun v' w' h2 h3 h4 => hK _ _ (h v' w' h2 h3 h4)
theorem step_append_src {ops : Array Oper} {o : Oper} {a : Act} {K : Act → World → Prop} {Q : Exit → Act → World → Prop} {E : Prop} (hgd : o.guard = none) (s x : Operand) (t : TypeId)
  (ho : o.op = .call { callee := .builtin .append, args := #[s, x], argTypes := #[t, t] })
  (base : Nat) (e : TypeId) (i : TypeInfo) (z : Value) (size bytes : Nat) (ht : P.underlying t = some (.slice e)) (hi : P.info? e = some i) (hz : i.zero = some z)
  (hsize : i.size = size) (hby : i.bytes = bytes) (hzs : z.cells.size = size) (hsz : 0 < size)
  (v : Value) (n : Nat) (xs : List Value) (hs : a.eval s = v) (hown : w.ownsRow base e size v n xs)
  (y : Value) (m : Nat) (news : List Value) (hx : a.eval x = y) (hsrc : Src w size y m news) (h1 : ∀ u ∈ news, u.oneCell' = true)
  (h63 : n + m ≤ maxLen) (hbytes : (n + m) * bytes ≤ 140737488355328) (hbase : base ≤ w.heap.size)
  (h : ∀ v' w', w'.ownsRow base e size v' (n + m) (xs ++ news) → w.grownBy w' v.ownBlock → (v'.ownBlock = v.ownBlock ∨ v'.ownBlock = some w.heap.size) → K (a.put o.dst v') w') :
  if Region.wanted o (yielded ops a.tmps) = true then Oper.wp P o a w K Q else E := by
 have hw : Region.wanted o (yielded ops a.tmps) = true := by simp [Region.wanted, hgd]
 rw [if_pos hw]
 exact wp_append_src w s x t ho base e i z size bytes ht hi hz hsize hby hzs hsz v n xs hs hown y m news hx hsrc h1 h63 hbytes hbase h
end
end Go.Proofs.YtdacpbdamliafaaGreat

/- The reference printer's name, mark, in, Script. -/
namespace Go.Proofs.YtdacpbdamliafaaGreat
open Go.RowKit
open Tr (Nd argT baseT rowT itemT)
def tokC (t : Lx.Tok) : List Value := [.int .i64 t.kind, .string ⟨t.text.toArray⟩, .int .i64 0, .int .i64 0]
theorem tok_one (l : List Lx.Tok) : ∀ u ∈ l.flatMap tokC, u.oneCell' = true := by
 intro u hu
 obtain ⟨x, _, hx⟩ := List.mem_flatMap.1 hu
 simp only [tokC, List.mem_cons, List.not_mem_nil, or_false] at hx
 rcases hx with rfl | rfl | rfl | rfl <;> rfl
theorem own_tok1 {B i : Nat} (W : World) (t : Lx.Tok) (hi : W.heap.size = i) (hB : B ≤ W.heap.size) : (W.alloc (.cells #[.int .i64 t.kind, .string ⟨t.text.toArray⟩, .int .i64 0, .int .i64 0] 51)).ownsRow B 51 4 (.slice (some ⟨i, 0, none⟩) 1 1) [t].length ([t].flatMap tokC) := by
 subst hi
 exact ⟨rfl, .inr ⟨W.heap.size, 1, _, rfl, hB, Blk.new W _ _, Nat.le_refl _, by unfold maxLen; omega, rfl, rfl⟩⟩
theorem grown_fresh {w X W' : World} {size n : Nat} {e : TypeId} {v : Value} {xs : List Value} (hg : X.grownBy W' v.ownBlock) (ho : X.ownsRow w.heap.size e size v n xs) (hf : Fresh w X) : Fresh w W' := hf.grown hg fun g h => .inr (ho.lt g h).1
theorem grown_blk {W W' : World} {g B size n : Nat} {t e : TypeId} {cs : Array Value} {v : Value} {xs : List Value} (hb : Blk W g t cs) (ho : W.ownsRow B e size v n xs) (hg : W.grownBy W' v.ownBlock) (ht : t ≠ e) : Blk W' g t cs := by
 refine (hg.block g hb.lt fun hk => ?_).trans hb
 obtain ⟨_, cur, h2⟩ := owns_type ho hk.symm
 unfold Blk at hb
 rw [hb] at h2
 cases h2
 exact ht rfl
theorem ownCast {W : World} {B : Nat} {v : Value} {l l' : List Lx.Tok} (h : W.ownsRow B 51 4 v l.length (l.flatMap tokC)) (e : l = l') : W.ownsRow B 51 4 v l'.length (l'.flatMap tokC) := e ▸ h
def TokRes (w : World) (l : List Lx.Tok) (e : Ending) (w' : World) : Prop := ∃ v, e = .returned v ∧ w'.ownsRow w.heap.size 51 4 v l.length (l.flatMap tokC) ∧ Fresh w w'
theorem rmark_any (t : List UInt8) (w : World) : Calls Tryz.prog 172 #[.string ⟨t.toArray⟩] w fun e w' => e = .returned (.agg #[.int .i64 7, .string ⟨t.toArray⟩, .int .i64 0, .int .i64 0]) ∧ Fresh w w' := by
 go_enter Tryz.func172, Tryz.ntmps172
 go_wp2_with fail
 exact bodyPost_ret (v := .agg #[.int .i64 7, .string ⟨t.toArray⟩, .int .i64 0, .int .i64 0]) (by simp [results, Tryz.results172, go_sem]) rfl ⟨rfl, (Touch.refl _ _).alloc _⟩
theorem rname_any (t : List UInt8) (w : World) : Calls Tryz.prog 138 #[.string ⟨t.toArray⟩] w fun e w' => e = .returned (.agg #[.int .i64 4, .string ⟨t.toArray⟩, .int .i64 0, .int .i64 0]) ∧ Fresh w w' := by
 go_enter Tryz.func138, Tryz.ntmps138
 go_wp2_with fail
 exact bodyPost_ret (v := .agg #[.int .i64 4, .string ⟨t.toArray⟩, .int .i64 0, .int .i64 0]) (by simp [results, Tryz.results138, go_sem]) rfl ⟨rfl, (Touch.refl _ _).alloc _⟩
theorem rscript_any (n : Nd) (sl : Value) (w : World) : Calls Tryz.prog 144 #[nv n sl] w fun e w' => e = .returned (.bool (Tr.scripted n)) ∧ Fresh w w' := by
 cases k7 : (n.kind == 7) with
 | true =>
  go_enter Tryz.func144, Tryz.ntmps144
  go_wp2_with fail
  go_ret
  exact ⟨ret_bool' _ _ (by simp [Tr.scripted, k7]), (Touch.refl _ _).alloc _⟩
 | false =>
  cases k8 : (n.kind == 8) with
  | true =>
   go_enter Tryz.func144, Tryz.ntmps144
   go_wp2_with fail
   go_ret
   exact ⟨ret_bool' _ _ (by simp [Tr.scripted, k8]), (Touch.refl _ _).alloc _⟩
  | false =>
   go_enter Tryz.func144, Tryz.ntmps144
   go_wp2_with fail
   go_ret
   exact ⟨ret_bool' _ _ (by simp [Tr.scripted, k7, k8]), (Touch.refl _ _).alloc _⟩
set_option maxRecDepth 100000 in
set_option maxHeartbeats 2000000 in
theorem rin_any (a b : List UInt8) (l : List Lx.Tok) (v : Value) (w : World) (hv : Src w 4 v l.length (l.flatMap tokC)) (hl : l.length ≤ 100000) :
  Calls Tryz.prog 140 #[.string ⟨a.toArray⟩, v, .string ⟨b.toArray⟩] w (TokRes w ([⟨7, a⟩] ++ (l ++ [⟨7, b⟩]))) := by
 obtain ⟨i0, hi, hz0, hz1, hz2⟩ := info_parts infoRTok
 have HLEN := hid hl
 have HV := hid hv
 clear hv hl
 go_enter Tryz.func140, Tryz.ntmps140
 go_wp2_with fail
 refine Calls.mono (rmark_any a _) ?_
 rintro _ w1 ⟨rfl, hfw1⟩
 have HF1 := hid (show Fresh w w1 from preA hfw1)
 have hsz_w1 : w.heap.size ≤ w1.heap.size := Touch.size HF1.out
 clear hfw1
 go_wp2_with (at_builtin; refine wpList_append_src _ rfl (.tmp 10) (.tmp 11) 47 rfl w.heap.size 51 i0 _ 4 40 Tryz.underlying47 hi hz0 hz1 hz2 rfl (by decide) (.slice (some ⟨w1.heap.size, 0, none⟩) 1 1) ([(⟨7, a⟩ : Lx.Tok)]).length (([(⟨7, a⟩ : Lx.Tok)]).flatMap tokC) (by simp [Act.eval]) (own_tok1 _ (⟨7, a⟩ : Lx.Tok) (by simp) (by first | assumption | (simp only [World.size_alloc]; omega))) (v) (l).length ((l).flatMap tokC) (by simp [Act.eval]) (HV.out.fresh (by first | exact (Touch.refl _ _) | exact HFw1.out | exact HFw1.out.alloc _ | exact HF1.out.alloc _ | exact HF1.out)) (tok_one _) (by have := HLEN.out; unfold maxLen; (try simp at this); (try simp); omega) (by have := HLEN.out; (try simp at this); (try simp); omega) (by first | exact Nat.le_refl _ | assumption | (simp only [World.size_alloc]; omega)) ?_; intro v2 y2 o2 go2 _; refine Stay.mk ?_)
 rw [← List.length_append, ← List.flatMap_append] at o2
 have HEy2 := hid (show Fresh w y2 from grown_fresh go2 (own_tok1 _ (⟨7, a⟩ : Lx.Tok) (by simp) (by first | assumption | (simp only [World.size_alloc]; omega))) (frA HF1.out))
 have hsz_y2 : w.heap.size ≤ y2.heap.size := Touch.size HEy2.out
 have O2_y2 := hid o2
 clear go2 o2
 refine Stay.go ?_
 go_wp2_with fail
 refine Calls.mono (rmark_any b _) ?_
 rintro _ w2 ⟨rfl, hfw2⟩
 have HF2 := hid (show Fresh y2 w2 from preA hfw2)
 have hsz_w2 : w.heap.size ≤ w2.heap.size := Touch.size (HEy2.out.trans HF2.out)
 have O2_w2 := hid (ownsRow_touch O2_y2.out HF2.out (fun _ _ h => h))
 clear O2_y2
 clear hfw2
 go_wp2_with (at_builtin; refine wpList_append_src _ rfl (.tmp 13) (.tmp 16) 47 rfl w.heap.size 51 i0 _ 4 40 Tryz.underlying47 hi hz0 hz1 hz2 rfl (by decide) (v2) (([(⟨7, a⟩ : Lx.Tok)] ++ l)).length ((([(⟨7, a⟩ : Lx.Tok)] ++ l)).flatMap tokC) (by simp [Act.eval]) (World.ownsRow.alloc O2_w2.out _) (.slice (some ⟨w2.heap.size, 0, none⟩) 1 1) ([(⟨7, b⟩ : Lx.Tok)]).length (([(⟨7, b⟩ : Lx.Tok)]).flatMap tokC) (by simp [Act.eval]) (Src.of_own (own_tok1 _ (⟨7, b⟩ : Lx.Tok) (by simp) (by first | assumption | (simp only [World.size_alloc]; omega)))) (tok_one _) (by have := HLEN.out; unfold maxLen; (try simp at this); (try simp); omega) (by have := HLEN.out; (try simp at this); (try simp); omega) (by first | exact Nat.le_refl _ | assumption | (simp only [World.size_alloc]; omega)) ?_; intro v4 y4 o4 go4 _; refine Stay.mk ?_)
 rw [← List.length_append, ← List.flatMap_append] at o4
 have HEy4 := hid (show Fresh w y4 from grown_fresh go4 (World.ownsRow.alloc O2_w2.out _) (frA (HEy2.out.trans HF2.out)))
 have hsz_y4 : w.heap.size ≤ y4.heap.size := Touch.size HEy4.out
 have O4_y4 := hid o4
 clear go4 o4 O2_w2
 refine Stay.go ?_
 go_wp2_with fail
 go_ret
 exact ⟨v4, rfl, ownCast (O4_y4.out) (by first | rfl | (simp only [List.append_assoc] <;> rfl) | (simp <;> rfl)), (frA HEy4.out)⟩
end Go.Proofs.YtdacpbdamliafaaGreat

/- The printer's group, argument, fraction, root, accent, scripts. -/
namespace Go.Proofs.YtdacpbdamliafaaGreat
open Go.RowKit
open Tr (Nd argT baseT rowT itemT)
theorem PrAdd.cast {w w' : World} {p B : Nat} {toks : List Lx.PTok} {txt : List UInt8} {l l' : List Lx.Tok} (h : PrAdd w w' p B toks txt l) (e : l = l') : PrAdd w w' p B toks txt l' := e ▸ h
theorem PrAdd.freshR {a b c : World} {p B : Nat} {toks : List Lx.PTok} {txt : List UInt8} {l : List Lx.Tok} (k : PrAdd a b p B toks txt l) (hf : Fresh b c) : PrAdd a c p B toks txt l := by
 obtain ⟨vt, vb, cs, hp, ht⟩ := k
 exact ⟨vt, vb, cs, hp.fresh hf, PS.freshR ht hf⟩
theorem PrAdd.blk {a b : World} {p B g : Nat} {t : TypeId} {cs : Array Value} {toks : List Lx.PTok} {txt : List UInt8} {l : List Lx.Tok} (k : PrAdd a b p B toks txt l) (hb : Blk a g t cs) (hp : g ≠ p) (h1 : t ≠ 150) (h2 : t ≠ 5) : Blk b g t cs := by
 obtain ⟨vt, vb, cs', _, ht⟩ := k
 exact PS.blk ht hb hp h1 h2
theorem RepL.one {W : World} {x : Nd} {v : Value} (h : RepL W [x] v) : ∃ g o cap sx, v = .slice (some ⟨g, o, none⟩) 1 cap ∧
  W.cell? ⟨g, o, none⟩ = some (.int .i64 x.kind) ∧ W.cell? ⟨g, o + 1, none⟩ = some (.string ⟨x.text.toArray⟩) ∧ W.cell? ⟨g, o + 2, none⟩ = some (.int .i64 x.cols) ∧ W.cell? ⟨g, o + 3, none⟩ = some sx ∧ RepL W x.kids sx := by
 obtain ⟨A, cap, rfl⟩ := h.slice
 obtain ⟨g, o, sx, rfl, _, h0, h1, h2, h3, hr⟩ := h.get 0 (by simp)
 simp only [Nat.zero_mul, Nat.add_zero] at h0 h1 h2 h3
 exact ⟨g, o, cap, sx, rfl, h0, h1, h2, h3, hr⟩
theorem RepL.two {W : World} {x y : Nd} {v : Value} (h : RepL W [x, y] v) : ∃ g o cap sx sy, v = .slice (some ⟨g, o, none⟩) 2 cap ∧
  W.cell? ⟨g, o, none⟩ = some (.int .i64 x.kind) ∧ W.cell? ⟨g, o + 1, none⟩ = some (.string ⟨x.text.toArray⟩) ∧ W.cell? ⟨g, o + 2, none⟩ = some (.int .i64 x.cols) ∧ W.cell? ⟨g, o + 3, none⟩ = some sx ∧ RepL W x.kids sx ∧
  W.cell? ⟨g, o + 4, none⟩ = some (.int .i64 y.kind) ∧ W.cell? ⟨g, o + 4 + 1, none⟩ = some (.string ⟨y.text.toArray⟩) ∧ W.cell? ⟨g, o + 4 + 2, none⟩ = some (.int .i64 y.cols) ∧ W.cell? ⟨g, o + 4 + 3, none⟩ = some sy ∧ RepL W y.kids sy := by
 obtain ⟨A, cap, rfl⟩ := h.slice
 obtain ⟨g, o, sx, rfl, _, h0, h1, h2, h3, hr⟩ := h.get 0 (by simp)
 obtain ⟨g', o', sy, hg, _, k0, k1, k2, k3, kr⟩ := h.get 1 (by simp)
 cases hg
 simp only [Nat.zero_mul, Nat.add_zero] at h0 h1 h2 h3
 simp only [Nat.one_mul] at k0 k1 k2 k3
 exact ⟨g, o, cap, sx, sy, rfl, h0, h1, h2, h3, hr, k0, k1, k2, k3, kr⟩
theorem RepL.three {W : World} {x y z : Nd} {v : Value} (h : RepL W [x, y, z] v) : ∃ g o cap sx sy sz, v = .slice (some ⟨g, o, none⟩) 3 cap ∧
  W.cell? ⟨g, o, none⟩ = some (.int .i64 x.kind) ∧ W.cell? ⟨g, o + 1, none⟩ = some (.string ⟨x.text.toArray⟩) ∧ W.cell? ⟨g, o + 2, none⟩ = some (.int .i64 x.cols) ∧ W.cell? ⟨g, o + 3, none⟩ = some sx ∧ RepL W x.kids sx ∧
  W.cell? ⟨g, o + 4, none⟩ = some (.int .i64 y.kind) ∧ W.cell? ⟨g, o + 4 + 1, none⟩ = some (.string ⟨y.text.toArray⟩) ∧ W.cell? ⟨g, o + 4 + 2, none⟩ = some (.int .i64 y.cols) ∧ W.cell? ⟨g, o + 4 + 3, none⟩ = some sy ∧ RepL W y.kids sy ∧
  W.cell? ⟨g, o + 8, none⟩ = some (.int .i64 z.kind) ∧ W.cell? ⟨g, o + 8 + 1, none⟩ = some (.string ⟨z.text.toArray⟩) ∧ W.cell? ⟨g, o + 8 + 2, none⟩ = some (.int .i64 z.cols) ∧ W.cell? ⟨g, o + 8 + 3, none⟩ = some sz ∧ RepL W z.kids sz := by
 obtain ⟨A, cap, rfl⟩ := h.slice
 obtain ⟨g, o, sx, rfl, _, h0, h1, h2, h3, hr⟩ := h.get 0 (by simp)
 obtain ⟨g', o', sy, hg, _, k0, k1, k2, k3, kr⟩ := h.get 1 (by simp)
 cases hg
 obtain ⟨g', o', sz, hg, _, l0, l1, l2, l3, lr⟩ := h.get 2 (by simp)
 cases hg
 simp only [Nat.zero_mul, Nat.add_zero] at h0 h1 h2 h3
 simp only [Nat.one_mul] at k0 k1 k2 k3
 simp only [Nat.reduceMul] at l0 l1 l2 l3
 exact ⟨g, o, cap, sx, sy, sz, rfl, h0, h1, h2, h3, hr, k0, k1, k2, k3, kr, l0, l1, l2, l3, lr⟩
set_option maxRecDepth 100000 in
set_option maxHeartbeats 1000000 in
theorem group_em (W0 : World) (p B : Nat) (n : Nd) (hr : RowE W0 p B n) : GroupE W0 p B n := by
 intro sl hsl w toks txt hp hf
 have PST0 := hid hp
 have FIT0 := hid hf
 have ROWn := hid (hr sl hsl)
 clear hp hf hr hsl
 go_enter Tryz.func171, Tryz.ntmps171
 go_wp2_with fail
 refine Calls.mono ((mark_em W0 p B [123]) _ _ _ (PSt.fresh PST0.out (frA (Touch.refl _ _))) FIT0.out.left) ?_
 rintro _ w1 ⟨rfl, htw1⟩
 have PSTw1 := hid (PSt.add (PSt.fresh PST0.out (frA (Touch.refl _ _))) htw1)
 have ACCw1 := hid (PrAdd.freshL (show Fresh w _ from (frA (Touch.refl _ _))) htw1)
 have FITw1 := hid (Fits.right FIT0.out)
 have B0_w1 : Blk w1 (w.heap.size) 24 #[.int .i64 n.kind, .string (⟨n.text.toArray⟩ : ByteArray), .int .i64 n.cols, sl] := PrAdd.blk htw1 (by first | exact blkN | assumption | exact blkA (by assumption)) (by have := PSt.lt PST0.out; have := PSt.hB PST0.out; omega) (by decide) (by decide)
 obtain ⟨q0_0_w1, q0_1_w1, q0_2_w1, q0_3_w1, _⟩ := Blk.four B0_w1
 clear htw1
 go_wp2_with fail
 refine Calls.mono ((ROWn.out) _ _ _ (PSt.fresh PSTw1.out (frA (Touch.refl _ _))) FITw1.out.left) ?_
 rintro _ w2 ⟨rfl, htw2⟩
 have PSTw2 := hid (PSt.add2 (PSt.fresh PSTw1.out (frA (Touch.refl _ _))) htw2)
 have ACCw2 := hid (PrAdd.app ACCw1.out (PrAdd.freshL (show Fresh w1 _ from (frA (Touch.refl _ _))) htw2))
 have FITw2 := hid (Fits.right2 FITw1.out)
 have B0_w2 : Blk w2 (w.heap.size) 24 #[.int .i64 n.kind, .string (⟨n.text.toArray⟩ : ByteArray), .int .i64 n.cols, sl] := PrAdd.blk htw2 (by first | exact blkN | assumption | exact blkA (by assumption)) (by have := PSt.lt PST0.out; have := PSt.hB PST0.out; omega) (by decide) (by decide)
 clear q0_0_w1 q0_1_w1 q0_2_w1 q0_3_w1 B0_w1
 obtain ⟨q0_0_w2, q0_1_w2, q0_2_w2, q0_3_w2, _⟩ := Blk.four B0_w2
 clear htw2
 go_wp2_with fail
 refine Calls.mono ((mark_em W0 p B [125]) _ _ _ (PSt.fresh PSTw2.out (frA (Touch.refl _ _))) FITw2.out) ?_
 rintro _ w3 ⟨rfl, htw3⟩
 have PSTw3 := hid (PSt.add2 (PSt.fresh PSTw2.out (frA (Touch.refl _ _))) htw3)
 have ACCw3 := hid (PrAdd.app ACCw2.out (PrAdd.freshL (show Fresh w2 _ from (frA (Touch.refl _ _))) htw3))
 have B0_w3 : Blk w3 (w.heap.size) 24 #[.int .i64 n.kind, .string (⟨n.text.toArray⟩ : ByteArray), .int .i64 n.cols, sl] := PrAdd.blk htw3 (by first | exact blkN | assumption | exact blkA (by assumption)) (by have := PSt.lt PST0.out; have := PSt.hB PST0.out; omega) (by decide) (by decide)
 clear q0_0_w2 q0_1_w2 q0_2_w2 q0_3_w2 B0_w2
 obtain ⟨q0_0_w3, q0_1_w3, q0_2_w3, q0_3_w3, _⟩ := Blk.four B0_w3
 clear htw3
 go_wp2_with fail
 first | go_end0 | refine bodyPost_ret (v := .tuple #[]) (results_none rfl _ _ _) rfl ?_
 exact ⟨rfl, PrAdd.cast ACCw3.out (by first | rfl | (simp only [List.append_assoc] <;> rfl))⟩
theorem argT_leaf (n x : Nd) (h : n.kids = [x]) (hx : Tr.leaf x = true) : argT n = rowT n.kids := by
 rw [Tr.argT_eq, h]; simp [hx, Tr.rowT_cons, Tr.rowT_nil]
theorem argT_grp (n x : Nd) (h : n.kids = [x]) (hx : Tr.leaf x = false) : argT n = [Tr.mk7 123] ++ (rowT n.kids ++ [Tr.mk7 125]) := by
 rw [Tr.argT_eq, h]; simp [hx]
theorem argT_len1 (n : Nd) (h : n.kids.length ≠ 1) : argT n = [Tr.mk7 123] ++ (rowT n.kids ++ [Tr.mk7 125]) := by
 rw [Tr.argT_eq]
 split
 ·rename_i x hx; rw [hx] at h; simp at h
 ·rfl
theorem baseT_row (n x : Nd) (h : n.kids = [x]) (hx : Tr.scripted x = false) : baseT n = rowT n.kids := by
 rw [Tr.baseT_eq, h]; simp [hx, Tr.rowT_cons, Tr.rowT_nil]
theorem baseT_grp (n x : Nd) (h : n.kids = [x]) (hx : Tr.scripted x = true) : baseT n = [Tr.mk7 123] ++ (rowT n.kids ++ [Tr.mk7 125]) := by
 rw [Tr.baseT_eq, h]; simp [hx]
theorem baseT_len1 (n : Nd) (h : n.kids.length ≠ 1) : baseT n = [Tr.mk7 123] ++ (rowT n.kids ++ [Tr.mk7 125]) := by
 rw [Tr.baseT_eq]
 split
 ·rename_i x hx; rw [hx] at h; simp at h
 ·rfl
set_option maxRecDepth 100000 in
set_option maxHeartbeats 1000000 in
theorem argument_row (W0 : World) (p B : Nat) (n x : Nd) (hx : n.kids = [x]) (hl : Tr.leaf x = true) (hr : RowE W0 p B n) : ArgE W0 p B n := by
 intro sl hsl w toks txt hp hf
 rw [argT_leaf n x hx hl] at hf ⊢
 have ROWn := hid (hr sl hsl)
 rw [hx] at hsl
 obtain ⟨g, o, cap, sx, rfl, x0, x1, x2, x3, hrx⟩ := hsl.one
 have PST0 := hid hp
 have FIT0 := hid hf
 clear hp hf hr hsl hrx
 have XX0 := hid x0
 have XX1 := hid x1
 have XX2 := hid x2
 have XX3 := hid x3
 clear x0 x1 x2 x3
 simp only [Tr.leaf, Bool.or_eq_true, beq_iff_eq] at hl
 rcases hl with (hl | hl) | hl
 ·have k2 : x.kind = 2 := hl
  clear hl
  have d2 : (x.kind == (2 : Int)) = true := by rw [k2]; rfl
  have d3 : (x.kind == (3 : Int)) = false := by rw [k2]; rfl
  have d4 : (x.kind == (4 : Int)) = false := by rw [k2]; rfl
  clear k2
  obtain ⟨xx0_w, xx1_w, xx2_w, xx3_w⟩ := low4 (PSt.low PST0.out) XX0.out XX1.out XX2.out XX3.out
  have hlt_g_w : g < w.heap.size := block_lt_of_cell xx0_w
  go_enter Tryz.func168, Tryz.ntmps168
  go_wp2_with fail
  refine Calls.mono ((ROWn.out) _ _ _ (PSt.fresh PST0.out (frA (Touch.refl _ _))) FIT0.out) ?_
  rintro _ w1 ⟨rfl, htw1⟩
  have PSTw1 := hid (PSt.add (PSt.fresh PST0.out (frA (Touch.refl _ _))) htw1)
  have ACCw1 := hid (PrAdd.freshL (show Fresh w _ from (frA (Touch.refl _ _))) htw1)
  have B0_w1 : Blk w1 (w.heap.size) 24 #[.int .i64 n.kind, .string (⟨n.text.toArray⟩ : ByteArray), .int .i64 n.cols, .slice (some ⟨g, o, none⟩) 1 cap] := PrAdd.blk htw1 (by first | exact blkN | assumption | exact blkA (by assumption)) (by have := PSt.lt PST0.out; have := PSt.hB PST0.out; omega) (by decide) (by decide)
  obtain ⟨q0_0_w1, q0_1_w1, q0_2_w1, q0_3_w1, _⟩ := Blk.four B0_w1
  clear xx0_w xx1_w xx2_w xx3_w
  obtain ⟨xx0_w1, xx1_w1, xx2_w1, xx3_w1⟩ := low4 (PSt.low PSTw1.out) XX0.out XX1.out XX2.out XX3.out
  have hlt_g_w1 : g < w1.heap.size := block_lt_of_cell xx0_w1
  clear htw1
  go_wp2_with fail
  first | go_end0 | refine bodyPost_ret (v := .tuple #[]) (results_none rfl _ _ _) rfl ?_
  exact ⟨rfl, PrAdd.cast ACCw1.out (by first | rfl | (simp only [List.append_assoc] <;> rfl))⟩
 ·have k2 : x.kind = 3 := hl
  clear hl
  have d2 : (x.kind == (2 : Int)) = false := by rw [k2]; rfl
  have d3 : (x.kind == (3 : Int)) = true := by rw [k2]; rfl
  have d4 : (x.kind == (4 : Int)) = false := by rw [k2]; rfl
  clear k2
  obtain ⟨xx0_w, xx1_w, xx2_w, xx3_w⟩ := low4 (PSt.low PST0.out) XX0.out XX1.out XX2.out XX3.out
  have hlt_g_w : g < w.heap.size := block_lt_of_cell xx0_w
  go_enter Tryz.func168, Tryz.ntmps168
  go_wp2_with fail
  refine Calls.mono ((ROWn.out) _ _ _ (PSt.fresh PST0.out (frA (Touch.refl _ _))) FIT0.out) ?_
  rintro _ w1 ⟨rfl, htw1⟩
  have PSTw1 := hid (PSt.add (PSt.fresh PST0.out (frA (Touch.refl _ _))) htw1)
  have ACCw1 := hid (PrAdd.freshL (show Fresh w _ from (frA (Touch.refl _ _))) htw1)
  have B0_w1 : Blk w1 (w.heap.size) 24 #[.int .i64 n.kind, .string (⟨n.text.toArray⟩ : ByteArray), .int .i64 n.cols, .slice (some ⟨g, o, none⟩) 1 cap] := PrAdd.blk htw1 (by first | exact blkN | assumption | exact blkA (by assumption)) (by have := PSt.lt PST0.out; have := PSt.hB PST0.out; omega) (by decide) (by decide)
  obtain ⟨q0_0_w1, q0_1_w1, q0_2_w1, q0_3_w1, _⟩ := Blk.four B0_w1
  clear xx0_w xx1_w xx2_w xx3_w
  obtain ⟨xx0_w1, xx1_w1, xx2_w1, xx3_w1⟩ := low4 (PSt.low PSTw1.out) XX0.out XX1.out XX2.out XX3.out
  have hlt_g_w1 : g < w1.heap.size := block_lt_of_cell xx0_w1
  clear htw1
  go_wp2_with fail
  first | go_end0 | refine bodyPost_ret (v := .tuple #[]) (results_none rfl _ _ _) rfl ?_
  exact ⟨rfl, PrAdd.cast ACCw1.out (by first | rfl | (simp only [List.append_assoc] <;> rfl))⟩
 ·have k2 : x.kind = 4 := hl
  clear hl
  have d2 : (x.kind == (2 : Int)) = false := by rw [k2]; rfl
  have d3 : (x.kind == (3 : Int)) = false := by rw [k2]; rfl
  have d4 : (x.kind == (4 : Int)) = true := by rw [k2]; rfl
  clear k2
  obtain ⟨xx0_w, xx1_w, xx2_w, xx3_w⟩ := low4 (PSt.low PST0.out) XX0.out XX1.out XX2.out XX3.out
  have hlt_g_w : g < w.heap.size := block_lt_of_cell xx0_w
  go_enter Tryz.func168, Tryz.ntmps168
  go_wp2_with fail
  refine Calls.mono ((ROWn.out) _ _ _ (PSt.fresh PST0.out (frA (Touch.refl _ _))) FIT0.out) ?_
  rintro _ w1 ⟨rfl, htw1⟩
  have PSTw1 := hid (PSt.add (PSt.fresh PST0.out (frA (Touch.refl _ _))) htw1)
  have ACCw1 := hid (PrAdd.freshL (show Fresh w _ from (frA (Touch.refl _ _))) htw1)
  have B0_w1 : Blk w1 (w.heap.size) 24 #[.int .i64 n.kind, .string (⟨n.text.toArray⟩ : ByteArray), .int .i64 n.cols, .slice (some ⟨g, o, none⟩) 1 cap] := PrAdd.blk htw1 (by first | exact blkN | assumption | exact blkA (by assumption)) (by have := PSt.lt PST0.out; have := PSt.hB PST0.out; omega) (by decide) (by decide)
  obtain ⟨q0_0_w1, q0_1_w1, q0_2_w1, q0_3_w1, _⟩ := Blk.four B0_w1
  clear xx0_w xx1_w xx2_w xx3_w
  obtain ⟨xx0_w1, xx1_w1, xx2_w1, xx3_w1⟩ := low4 (PSt.low PSTw1.out) XX0.out XX1.out XX2.out XX3.out
  have hlt_g_w1 : g < w1.heap.size := block_lt_of_cell xx0_w1
  clear htw1
  go_wp2_with fail
  first | go_end0 | refine bodyPost_ret (v := .tuple #[]) (results_none rfl _ _ _) rfl ?_
  exact ⟨rfl, PrAdd.cast ACCw1.out (by first | rfl | (simp only [List.append_assoc] <;> rfl))⟩
set_option maxRecDepth 100000 in
set_option maxHeartbeats 1000000 in
theorem argument_grp (W0 : World) (p B : Nat) (n x : Nd) (hx : n.kids = [x]) (hl : Tr.leaf x = false) (hr : GroupE W0 p B n) : ArgE W0 p B n := by
 intro sl hsl w toks txt hp hf
 rw [argT_grp n x hx hl] at hf ⊢
 have GRPn := hid (hr sl hsl)
 rw [hx] at hsl
 obtain ⟨g, o, cap, sx, rfl, x0, x1, x2, x3, hrx⟩ := hsl.one
 have PST0 := hid hp
 have FIT0 := hid hf
 clear hp hf hr hsl hrx
 have XX0 := hid x0
 have XX1 := hid x1
 have XX2 := hid x2
 have XX3 := hid x3
 clear x0 x1 x2 x3
 simp only [Tr.leaf, Bool.or_eq_false_iff] at hl
 obtain ⟨⟨d2, d3⟩, d4⟩ := hl
 obtain ⟨xx0_w, xx1_w, xx2_w, xx3_w⟩ := low4 (PSt.low PST0.out) XX0.out XX1.out XX2.out XX3.out
 have hlt_g_w : g < w.heap.size := block_lt_of_cell xx0_w
 go_enter Tryz.func168, Tryz.ntmps168
 go_wp2_with fail
 refine Calls.mono ((GRPn.out) _ _ _ (PSt.fresh PST0.out (frA (Touch.refl _ _))) FIT0.out) ?_
 rintro _ w1 ⟨rfl, htw1⟩
 have PSTw1 := hid (PSt.add (PSt.fresh PST0.out (frA (Touch.refl _ _))) htw1)
 have ACCw1 := hid (PrAdd.freshL (show Fresh w _ from (frA (Touch.refl _ _))) htw1)
 have B0_w1 : Blk w1 (w.heap.size) 24 #[.int .i64 n.kind, .string (⟨n.text.toArray⟩ : ByteArray), .int .i64 n.cols, .slice (some ⟨g, o, none⟩) 1 cap] := PrAdd.blk htw1 (by first | exact blkN | assumption | exact blkA (by assumption)) (by have := PSt.lt PST0.out; have := PSt.hB PST0.out; omega) (by decide) (by decide)
 obtain ⟨q0_0_w1, q0_1_w1, q0_2_w1, q0_3_w1, _⟩ := Blk.four B0_w1
 clear xx0_w xx1_w xx2_w xx3_w
 obtain ⟨xx0_w1, xx1_w1, xx2_w1, xx3_w1⟩ := low4 (PSt.low PSTw1.out) XX0.out XX1.out XX2.out XX3.out
 have hlt_g_w1 : g < w1.heap.size := block_lt_of_cell xx0_w1
 clear htw1
 go_wp2_with fail
 first | go_end0 | refine bodyPost_ret (v := .tuple #[]) (results_none rfl _ _ _) rfl ?_
 exact ⟨rfl, PrAdd.cast ACCw1.out (by first | rfl | (simp only [List.append_assoc] <;> rfl))⟩
set_option maxRecDepth 100000 in
set_option maxHeartbeats 1000000 in
theorem argument_len (W0 : World) (p B : Nat) (n : Nd) (hx : n.kids.length ≠ 1) (hr : GroupE W0 p B n) : ArgE W0 p B n := by
 intro sl hsl w toks txt hp hf
 rw [argT_len1 n hx] at hf ⊢
 obtain ⟨A, cap, rfl⟩ := hsl.slice
 have GRPn := hid (hr _ hsl)
 have PST0 := hid hp
 have FIT0 := hid hf
 have d1 : ((n.kids.length : Int) == 1) = false := by simp only [beq_eq_false_iff_ne]; omega
 have d2 : ¬ (n.kids.length : Int) = 1 := by omega
 clear hp hf hr hsl
 go_enter Tryz.func168, Tryz.ntmps168
 go_wp2_with fail
 refine Calls.mono ((GRPn.out) _ _ _ (PSt.fresh PST0.out (frA (Touch.refl _ _))) FIT0.out) ?_
 rintro _ w1 ⟨rfl, htw1⟩
 have PSTw1 := hid (PSt.add (PSt.fresh PST0.out (frA (Touch.refl _ _))) htw1)
 have ACCw1 := hid (PrAdd.freshL (show Fresh w _ from (frA (Touch.refl _ _))) htw1)
 have B0_w1 : Blk w1 (w.heap.size) 24 #[.int .i64 n.kind, .string (⟨n.text.toArray⟩ : ByteArray), .int .i64 n.cols, .slice A n.kids.length cap] := PrAdd.blk htw1 (by first | exact blkN | assumption | exact blkA (by assumption)) (by have := PSt.lt PST0.out; have := PSt.hB PST0.out; omega) (by decide) (by decide)
 obtain ⟨q0_0_w1, q0_1_w1, q0_2_w1, q0_3_w1, _⟩ := Blk.four B0_w1
 clear htw1
 go_wp2_with fail
 first | go_end0 | refine bodyPost_ret (v := .tuple #[]) (results_none rfl _ _ _) rfl ?_
 exact ⟨rfl, PrAdd.cast ACCw1.out (by first | rfl | (simp only [List.append_assoc] <;> rfl))⟩
theorem argument_em (W0 : World) (p B : Nat) (n : Nd) (hr : RowE W0 p B n) : ArgE W0 p B n := by
 by_cases h1 : n.kids.length = 1
 ·obtain ⟨x, hx⟩ := List.length_eq_one_iff.1 h1
  cases hl : Tr.leaf x with
  | true => exact argument_row W0 p B n x hx hl hr
  | false => exact argument_grp W0 p B n x hx hl (group_em W0 p B n hr)
 ·exact argument_len W0 p B n h1 (group_em W0 p B n hr)
set_option maxRecDepth 100000 in
set_option maxHeartbeats 1000000 in
theorem fraction_em (W0 : World) (p B : Nat) (kd tx cl : Value) (a b : Nd) (ha : ArgE W0 p B a) (hb : ArgE W0 p B b) (sl : Value) (hsl : RepL W0 [a, b] sl) : Emits 128 #[pp p, .agg #[kd, tx, cl, sl]] W0 p B ([Tr.name Tr.sFrac] ++ (argT a ++ argT b)) := by
 intro w toks txt hp hf
 obtain ⟨g, o, cap, sa, sb, rfl, a0, a1, a2, a3, hra, b0, b1, b2, b3, hrb⟩ := hsl.two
 have ARGa := hid (ha sa hra)
 have ARGb := hid (hb sb hrb)
 have PST0 := hid hp
 have FIT0 := hid hf
 clear hp hf ha hb hsl hra hrb
 have XA0 := hid a0
 have XA1 := hid a1
 have XA2 := hid a2
 have XA3 := hid a3
 have XB0 := hid b0
 have XB1 := hid b1
 have XB2 := hid b2
 have XB3 := hid b3
 clear a0 a1 a2 a3 b0 b1 b2 b3
 obtain ⟨xa0_w, xa1_w, xa2_w, xa3_w⟩ := low4 (PSt.low PST0.out) XA0.out XA1.out XA2.out XA3.out
 obtain ⟨xb0_w, xb1_w, xb2_w, xb3_w⟩ := low4 (PSt.low PST0.out) XB0.out XB1.out XB2.out XB3.out
 have hlt_g_w : g < w.heap.size := block_lt_of_cell xa0_w
 go_enter Tryz.func128, Tryz.ntmps128
 go_wp2_with fail
 refine Calls.mono ((add_em W0 p B 4 [102, 114, 97, 99]) _ _ _ (PSt.fresh PST0.out (frA (Touch.refl _ _))) FIT0.out.left) ?_
 rintro _ w1 ⟨rfl, htw1⟩
 have PSTw1 := hid (PSt.add (PSt.fresh PST0.out (frA (Touch.refl _ _))) htw1)
 have ACCw1 := hid (PrAdd.freshL (show Fresh w _ from (frA (Touch.refl _ _))) htw1)
 have FITw1 := hid (Fits.right FIT0.out)
 have B0_w1 : Blk w1 (w.heap.size) 24 #[kd, tx, cl, .slice (some ⟨g, o, none⟩) 2 cap] := PrAdd.blk htw1 (by first | exact blkN | assumption | exact blkA (by assumption)) (by have := PSt.lt PST0.out; have := PSt.hB PST0.out; omega) (by decide) (by decide)
 obtain ⟨q0_0_w1, q0_1_w1, q0_2_w1, q0_3_w1, _⟩ := Blk.four B0_w1
 clear xa0_w xa1_w xa2_w xa3_w xb0_w xb1_w xb2_w xb3_w
 obtain ⟨xa0_w1, xa1_w1, xa2_w1, xa3_w1⟩ := low4 (PSt.low PSTw1.out) XA0.out XA1.out XA2.out XA3.out
 obtain ⟨xb0_w1, xb1_w1, xb2_w1, xb3_w1⟩ := low4 (PSt.low PSTw1.out) XB0.out XB1.out XB2.out XB3.out
 have hlt_g_w1 : g < w1.heap.size := block_lt_of_cell xa0_w1
 clear htw1
 go_wp2_with fail
 refine Calls.mono ((ARGa.out) _ _ _ (PSt.fresh PSTw1.out (frA (Touch.refl _ _))) FITw1.out.left) ?_
 rintro _ w2 ⟨rfl, htw2⟩
 have PSTw2 := hid (PSt.add2 (PSt.fresh PSTw1.out (frA (Touch.refl _ _))) htw2)
 have ACCw2 := hid (PrAdd.app ACCw1.out (PrAdd.freshL (show Fresh w1 _ from (frA (Touch.refl _ _))) htw2))
 have FITw2 := hid (Fits.right2 FITw1.out)
 have B0_w2 : Blk w2 (w.heap.size) 24 #[kd, tx, cl, .slice (some ⟨g, o, none⟩) 2 cap] := PrAdd.blk htw2 (by first | exact blkN | assumption | exact blkA (by assumption)) (by have := PSt.lt PST0.out; have := PSt.hB PST0.out; omega) (by decide) (by decide)
 clear q0_0_w1 q0_1_w1 q0_2_w1 q0_3_w1 B0_w1
 obtain ⟨q0_0_w2, q0_1_w2, q0_2_w2, q0_3_w2, _⟩ := Blk.four B0_w2
 clear xa0_w1 xa1_w1 xa2_w1 xa3_w1 xb0_w1 xb1_w1 xb2_w1 xb3_w1
 obtain ⟨xa0_w2, xa1_w2, xa2_w2, xa3_w2⟩ := low4 (PSt.low PSTw2.out) XA0.out XA1.out XA2.out XA3.out
 obtain ⟨xb0_w2, xb1_w2, xb2_w2, xb3_w2⟩ := low4 (PSt.low PSTw2.out) XB0.out XB1.out XB2.out XB3.out
 have hlt_g_w2 : g < w2.heap.size := block_lt_of_cell xa0_w2
 clear htw2
 go_wp2_with fail
 refine Calls.mono ((ARGb.out) _ _ _ (PSt.fresh PSTw2.out (frA (Touch.refl _ _))) FITw2.out) ?_
 rintro _ w3 ⟨rfl, htw3⟩
 have PSTw3 := hid (PSt.add2 (PSt.fresh PSTw2.out (frA (Touch.refl _ _))) htw3)
 have ACCw3 := hid (PrAdd.app ACCw2.out (PrAdd.freshL (show Fresh w2 _ from (frA (Touch.refl _ _))) htw3))
 have B0_w3 : Blk w3 (w.heap.size) 24 #[kd, tx, cl, .slice (some ⟨g, o, none⟩) 2 cap] := PrAdd.blk htw3 (by first | exact blkN | assumption | exact blkA (by assumption)) (by have := PSt.lt PST0.out; have := PSt.hB PST0.out; omega) (by decide) (by decide)
 clear q0_0_w2 q0_1_w2 q0_2_w2 q0_3_w2 B0_w2
 obtain ⟨q0_0_w3, q0_1_w3, q0_2_w3, q0_3_w3, _⟩ := Blk.four B0_w3
 clear xa0_w2 xa1_w2 xa2_w2 xa3_w2 xb0_w2 xb1_w2 xb2_w2 xb3_w2
 obtain ⟨xa0_w3, xa1_w3, xa2_w3, xa3_w3⟩ := low4 (PSt.low PSTw3.out) XA0.out XA1.out XA2.out XA3.out
 obtain ⟨xb0_w3, xb1_w3, xb2_w3, xb3_w3⟩ := low4 (PSt.low PSTw3.out) XB0.out XB1.out XB2.out XB3.out
 have hlt_g_w3 : g < w3.heap.size := block_lt_of_cell xa0_w3
 clear htw3
 go_wp2_with fail
 first | go_end0 | refine bodyPost_ret (v := .tuple #[]) (results_none rfl _ _ _) rfl ?_
 exact ⟨rfl, PrAdd.cast ACCw3.out (by first | rfl | (simp only [List.append_assoc] <;> rfl))⟩
set_option maxRecDepth 100000 in
set_option maxHeartbeats 1000000 in
theorem root_full (W0 : World) (p B : Nat) (kd tx cl : Value) (a b : Nd) (hk : a.kids ≠ []) (ha : RowE W0 p B a) (hb : ArgE W0 p B b) (sl : Value) (hsl : RepL W0 [a, b] sl) : Emits 129 #[pp p, .agg #[kd, tx, cl, sl]] W0 p B ([Tr.name Tr.sRoot] ++ ([Tr.mk7 91] ++ (rowT a.kids ++ ([Tr.mk7 93] ++ argT b)))) := by
 intro w toks txt hp hf
 obtain ⟨g, o, cap, sa, sb, rfl, a0, a1, a2, a3, hra, b0, b1, b2, b3, hrb⟩ := hsl.two
 obtain ⟨Aa, capa, rfl⟩ := hra.slice
 have ROWa := hid (ha _ hra)
 clear ha
 have ARGb := hid (hb sb hrb)
 have PST0 := hid hp
 have FIT0 := hid hf
 have hpos : 0 < a.kids.length := by exact List.length_pos_iff.2 hk
 have d1 : decide ((0 : Int) < (a.kids.length : Int)) = true := by simp only [decide_eq_true_eq]; omega
 have d1n : decide (0 < a.kids.length) = true := by simp only [decide_eq_true_eq]; omega
 have d1' : (0 : Int) < (a.kids.length : Int) := by omega
 clear hpos
 clear hp hf hb hsl hra hrb hk
 have XA0 := hid a0
 have XA1 := hid a1
 have XA2 := hid a2
 have XA3 := hid a3
 have XB0 := hid b0
 have XB1 := hid b1
 have XB2 := hid b2
 have XB3 := hid b3
 clear a0 a1 a2 a3 b0 b1 b2 b3
 obtain ⟨xa0_w, xa1_w, xa2_w, xa3_w⟩ := low4 (PSt.low PST0.out) XA0.out XA1.out XA2.out XA3.out
 obtain ⟨xb0_w, xb1_w, xb2_w, xb3_w⟩ := low4 (PSt.low PST0.out) XB0.out XB1.out XB2.out XB3.out
 have hlt_g_w : g < w.heap.size := block_lt_of_cell xa0_w
 go_enter Tryz.func129, Tryz.ntmps129
 go_wp2_with fail
 refine Calls.mono ((add_em W0 p B 4 [114, 111, 111, 116]) _ _ _ (PSt.fresh PST0.out (frA (Touch.refl _ _))) FIT0.out.left) ?_
 rintro _ w1 ⟨rfl, htw1⟩
 have PSTw1 := hid (PSt.add (PSt.fresh PST0.out (frA (Touch.refl _ _))) htw1)
 have ACCw1 := hid (PrAdd.freshL (show Fresh w _ from (frA (Touch.refl _ _))) htw1)
 have FITw1 := hid (Fits.right FIT0.out)
 have B0_w1 : Blk w1 (w.heap.size) 24 #[kd, tx, cl, .slice (some ⟨g, o, none⟩) 2 cap] := PrAdd.blk htw1 (by first | exact blkN | assumption | exact blkA (by assumption)) (by have := PSt.lt PST0.out; have := PSt.hB PST0.out; omega) (by decide) (by decide)
 obtain ⟨q0_0_w1, q0_1_w1, q0_2_w1, q0_3_w1, _⟩ := Blk.four B0_w1
 clear xa0_w xa1_w xa2_w xa3_w xb0_w xb1_w xb2_w xb3_w
 obtain ⟨xa0_w1, xa1_w1, xa2_w1, xa3_w1⟩ := low4 (PSt.low PSTw1.out) XA0.out XA1.out XA2.out XA3.out
 obtain ⟨xb0_w1, xb1_w1, xb2_w1, xb3_w1⟩ := low4 (PSt.low PSTw1.out) XB0.out XB1.out XB2.out XB3.out
 have hlt_g_w1 : g < w1.heap.size := block_lt_of_cell xa0_w1
 clear htw1
 go_wp2_with fail
 refine Calls.mono ((mark_em W0 p B [91]) _ _ _ (PSt.fresh PSTw1.out (frA (Touch.refl _ _))) FITw1.out.left) ?_
 rintro _ w2 ⟨rfl, htw2⟩
 have PSTw2 := hid (PSt.add2 (PSt.fresh PSTw1.out (frA (Touch.refl _ _))) htw2)
 have ACCw2 := hid (PrAdd.app ACCw1.out (PrAdd.freshL (show Fresh w1 _ from (frA (Touch.refl _ _))) htw2))
 have FITw2 := hid (Fits.right2 FITw1.out)
 have B0_w2 : Blk w2 (w.heap.size) 24 #[kd, tx, cl, .slice (some ⟨g, o, none⟩) 2 cap] := PrAdd.blk htw2 (by first | exact blkN | assumption | exact blkA (by assumption)) (by have := PSt.lt PST0.out; have := PSt.hB PST0.out; omega) (by decide) (by decide)
 clear q0_0_w1 q0_1_w1 q0_2_w1 q0_3_w1 B0_w1
 obtain ⟨q0_0_w2, q0_1_w2, q0_2_w2, q0_3_w2, _⟩ := Blk.four B0_w2
 clear xa0_w1 xa1_w1 xa2_w1 xa3_w1 xb0_w1 xb1_w1 xb2_w1 xb3_w1
 obtain ⟨xa0_w2, xa1_w2, xa2_w2, xa3_w2⟩ := low4 (PSt.low PSTw2.out) XA0.out XA1.out XA2.out XA3.out
 obtain ⟨xb0_w2, xb1_w2, xb2_w2, xb3_w2⟩ := low4 (PSt.low PSTw2.out) XB0.out XB1.out XB2.out XB3.out
 have hlt_g_w2 : g < w2.heap.size := block_lt_of_cell xa0_w2
 clear htw2
 go_wp2_with fail
 refine Calls.mono ((ROWa.out) _ _ _ (PSt.fresh PSTw2.out (frA (Touch.refl _ _))) FITw2.out.left) ?_
 rintro _ w3 ⟨rfl, htw3⟩
 have PSTw3 := hid (PSt.add2 (PSt.fresh PSTw2.out (frA (Touch.refl _ _))) htw3)
 have ACCw3 := hid (PrAdd.app ACCw2.out (PrAdd.freshL (show Fresh w2 _ from (frA (Touch.refl _ _))) htw3))
 have FITw3 := hid (Fits.right2 FITw2.out)
 have B0_w3 : Blk w3 (w.heap.size) 24 #[kd, tx, cl, .slice (some ⟨g, o, none⟩) 2 cap] := PrAdd.blk htw3 (by first | exact blkN | assumption | exact blkA (by assumption)) (by have := PSt.lt PST0.out; have := PSt.hB PST0.out; omega) (by decide) (by decide)
 clear q0_0_w2 q0_1_w2 q0_2_w2 q0_3_w2 B0_w2
 obtain ⟨q0_0_w3, q0_1_w3, q0_2_w3, q0_3_w3, _⟩ := Blk.four B0_w3
 clear xa0_w2 xa1_w2 xa2_w2 xa3_w2 xb0_w2 xb1_w2 xb2_w2 xb3_w2
 obtain ⟨xa0_w3, xa1_w3, xa2_w3, xa3_w3⟩ := low4 (PSt.low PSTw3.out) XA0.out XA1.out XA2.out XA3.out
 obtain ⟨xb0_w3, xb1_w3, xb2_w3, xb3_w3⟩ := low4 (PSt.low PSTw3.out) XB0.out XB1.out XB2.out XB3.out
 have hlt_g_w3 : g < w3.heap.size := block_lt_of_cell xa0_w3
 clear htw3
 go_wp2_with fail
 refine Calls.mono ((mark_em W0 p B [93]) _ _ _ (PSt.fresh PSTw3.out (frA (Touch.refl _ _))) FITw3.out.left) ?_
 rintro _ w4 ⟨rfl, htw4⟩
 have PSTw4 := hid (PSt.add2 (PSt.fresh PSTw3.out (frA (Touch.refl _ _))) htw4)
 have ACCw4 := hid (PrAdd.app ACCw3.out (PrAdd.freshL (show Fresh w3 _ from (frA (Touch.refl _ _))) htw4))
 have FITw4 := hid (Fits.right2 FITw3.out)
 have B0_w4 : Blk w4 (w.heap.size) 24 #[kd, tx, cl, .slice (some ⟨g, o, none⟩) 2 cap] := PrAdd.blk htw4 (by first | exact blkN | assumption | exact blkA (by assumption)) (by have := PSt.lt PST0.out; have := PSt.hB PST0.out; omega) (by decide) (by decide)
 clear q0_0_w3 q0_1_w3 q0_2_w3 q0_3_w3 B0_w3
 obtain ⟨q0_0_w4, q0_1_w4, q0_2_w4, q0_3_w4, _⟩ := Blk.four B0_w4
 clear xa0_w3 xa1_w3 xa2_w3 xa3_w3 xb0_w3 xb1_w3 xb2_w3 xb3_w3
 obtain ⟨xa0_w4, xa1_w4, xa2_w4, xa3_w4⟩ := low4 (PSt.low PSTw4.out) XA0.out XA1.out XA2.out XA3.out
 obtain ⟨xb0_w4, xb1_w4, xb2_w4, xb3_w4⟩ := low4 (PSt.low PSTw4.out) XB0.out XB1.out XB2.out XB3.out
 have hlt_g_w4 : g < w4.heap.size := block_lt_of_cell xa0_w4
 clear htw4
 go_wp2_with fail
 refine Calls.mono ((ARGb.out) _ _ _ (PSt.fresh PSTw4.out (frA (Touch.refl _ _))) FITw4.out) ?_
 rintro _ w5 ⟨rfl, htw5⟩
 have PSTw5 := hid (PSt.add2 (PSt.fresh PSTw4.out (frA (Touch.refl _ _))) htw5)
 have ACCw5 := hid (PrAdd.app ACCw4.out (PrAdd.freshL (show Fresh w4 _ from (frA (Touch.refl _ _))) htw5))
 have B0_w5 : Blk w5 (w.heap.size) 24 #[kd, tx, cl, .slice (some ⟨g, o, none⟩) 2 cap] := PrAdd.blk htw5 (by first | exact blkN | assumption | exact blkA (by assumption)) (by have := PSt.lt PST0.out; have := PSt.hB PST0.out; omega) (by decide) (by decide)
 clear q0_0_w4 q0_1_w4 q0_2_w4 q0_3_w4 B0_w4
 obtain ⟨q0_0_w5, q0_1_w5, q0_2_w5, q0_3_w5, _⟩ := Blk.four B0_w5
 clear xa0_w4 xa1_w4 xa2_w4 xa3_w4 xb0_w4 xb1_w4 xb2_w4 xb3_w4
 obtain ⟨xa0_w5, xa1_w5, xa2_w5, xa3_w5⟩ := low4 (PSt.low PSTw5.out) XA0.out XA1.out XA2.out XA3.out
 obtain ⟨xb0_w5, xb1_w5, xb2_w5, xb3_w5⟩ := low4 (PSt.low PSTw5.out) XB0.out XB1.out XB2.out XB3.out
 have hlt_g_w5 : g < w5.heap.size := block_lt_of_cell xa0_w5
 clear htw5
 go_wp2_with fail
 first | go_end0 | refine bodyPost_ret (v := .tuple #[]) (results_none rfl _ _ _) rfl ?_
 exact ⟨rfl, PrAdd.cast ACCw5.out (by first | rfl | (simp only [List.append_assoc] <;> rfl))⟩
set_option maxRecDepth 100000 in
set_option maxHeartbeats 1000000 in
theorem root_bare (W0 : World) (p B : Nat) (kd tx cl : Value) (a b : Nd) (hk : a.kids = []) (hb : ArgE W0 p B b) (sl : Value) (hsl : RepL W0 [a, b] sl) : Emits 129 #[pp p, .agg #[kd, tx, cl, sl]] W0 p B ([Tr.name Tr.sRoot] ++ argT b) := by
 intro w toks txt hp hf
 obtain ⟨g, o, cap, sa, sb, rfl, a0, a1, a2, a3, hra, b0, b1, b2, b3, hrb⟩ := hsl.two
 obtain ⟨Aa, capa, rfl⟩ := hra.slice
 have ARGb := hid (hb sb hrb)
 have PST0 := hid hp
 have FIT0 := hid hf
 have hpos : a.kids.length = 0 := by rw [hk]; rfl
 have d1 : decide ((0 : Int) < (a.kids.length : Int)) = false := by simp only [decide_eq_false_iff_not]; omega
 have d1n : decide (0 < a.kids.length) = false := by simp only [decide_eq_false_iff_not]; omega
 have HPOS := hid hpos
 clear hpos
 clear hp hf hb hsl hra hrb hk
 have XA0 := hid a0
 have XA1 := hid a1
 have XA2 := hid a2
 have XA3 := hid a3
 have XB0 := hid b0
 have XB1 := hid b1
 have XB2 := hid b2
 have XB3 := hid b3
 clear a0 a1 a2 a3 b0 b1 b2 b3
 obtain ⟨xa0_w, xa1_w, xa2_w, xa3_w⟩ := low4 (PSt.low PST0.out) XA0.out XA1.out XA2.out XA3.out
 obtain ⟨xb0_w, xb1_w, xb2_w, xb3_w⟩ := low4 (PSt.low PST0.out) XB0.out XB1.out XB2.out XB3.out
 have hlt_g_w : g < w.heap.size := block_lt_of_cell xa0_w
 go_enter Tryz.func129, Tryz.ntmps129
 go_wp2_with fail
 refine Calls.mono ((add_em W0 p B 4 [114, 111, 111, 116]) _ _ _ (PSt.fresh PST0.out (frA (Touch.refl _ _))) FIT0.out.left) ?_
 rintro _ w1 ⟨rfl, htw1⟩
 have PSTw1 := hid (PSt.add (PSt.fresh PST0.out (frA (Touch.refl _ _))) htw1)
 have ACCw1 := hid (PrAdd.freshL (show Fresh w _ from (frA (Touch.refl _ _))) htw1)
 have FITw1 := hid (Fits.right FIT0.out)
 have B0_w1 : Blk w1 (w.heap.size) 24 #[kd, tx, cl, .slice (some ⟨g, o, none⟩) 2 cap] := PrAdd.blk htw1 (by first | exact blkN | assumption | exact blkA (by assumption)) (by have := PSt.lt PST0.out; have := PSt.hB PST0.out; omega) (by decide) (by decide)
 obtain ⟨q0_0_w1, q0_1_w1, q0_2_w1, q0_3_w1, _⟩ := Blk.four B0_w1
 clear xa0_w xa1_w xa2_w xa3_w xb0_w xb1_w xb2_w xb3_w
 obtain ⟨xa0_w1, xa1_w1, xa2_w1, xa3_w1⟩ := low4 (PSt.low PSTw1.out) XA0.out XA1.out XA2.out XA3.out
 obtain ⟨xb0_w1, xb1_w1, xb2_w1, xb3_w1⟩ := low4 (PSt.low PSTw1.out) XB0.out XB1.out XB2.out XB3.out
 have hlt_g_w1 : g < w1.heap.size := block_lt_of_cell xa0_w1
 clear htw1
 go_wp2_with fail
 refine Calls.mono ((ARGb.out) _ _ _ (PSt.fresh PSTw1.out (frA (Touch.refl _ _))) FITw1.out) ?_
 rintro _ w2 ⟨rfl, htw2⟩
 have PSTw2 := hid (PSt.add2 (PSt.fresh PSTw1.out (frA (Touch.refl _ _))) htw2)
 have ACCw2 := hid (PrAdd.app ACCw1.out (PrAdd.freshL (show Fresh w1 _ from (frA (Touch.refl _ _))) htw2))
 have B0_w2 : Blk w2 (w.heap.size) 24 #[kd, tx, cl, .slice (some ⟨g, o, none⟩) 2 cap] := PrAdd.blk htw2 (by first | exact blkN | assumption | exact blkA (by assumption)) (by have := PSt.lt PST0.out; have := PSt.hB PST0.out; omega) (by decide) (by decide)
 clear q0_0_w1 q0_1_w1 q0_2_w1 q0_3_w1 B0_w1
 obtain ⟨q0_0_w2, q0_1_w2, q0_2_w2, q0_3_w2, _⟩ := Blk.four B0_w2
 clear xa0_w1 xa1_w1 xa2_w1 xa3_w1 xb0_w1 xb1_w1 xb2_w1 xb3_w1
 obtain ⟨xa0_w2, xa1_w2, xa2_w2, xa3_w2⟩ := low4 (PSt.low PSTw2.out) XA0.out XA1.out XA2.out XA3.out
 obtain ⟨xb0_w2, xb1_w2, xb2_w2, xb3_w2⟩ := low4 (PSt.low PSTw2.out) XB0.out XB1.out XB2.out XB3.out
 have hlt_g_w2 : g < w2.heap.size := block_lt_of_cell xa0_w2
 clear htw2
 go_wp2_with fail
 first | go_end0 | refine bodyPost_ret (v := .tuple #[]) (results_none rfl _ _ _) rfl ?_
 exact ⟨rfl, PrAdd.cast ACCw2.out (by first | rfl | (simp only [List.append_assoc] <;> rfl))⟩
set_option maxRecDepth 100000 in
set_option maxHeartbeats 1000000 in
theorem accent_em (W0 : World) (p B : Nat) (kd cl : Value) (t : List UInt8) (a : Nd) (ha : ArgE W0 p B a) (sl : Value) (hsl : RepL W0 [a] sl) : Emits 131 #[pp p, .agg #[kd, .string ⟨t.toArray⟩, cl, sl]] W0 p B ([Tr.name t] ++ argT a) := by
 intro w toks txt hp hf
 obtain ⟨g, o, cap, sa, rfl, a0, a1, a2, a3, hra⟩ := hsl.one
 have ARGa := hid (ha sa hra)
 have PST0 := hid hp
 have FIT0 := hid hf
 clear hp hf ha hsl hra
 have XA0 := hid a0
 have XA1 := hid a1
 have XA2 := hid a2
 have XA3 := hid a3
 clear a0 a1 a2 a3
 obtain ⟨xa0_w, xa1_w, xa2_w, xa3_w⟩ := low4 (PSt.low PST0.out) XA0.out XA1.out XA2.out XA3.out
 have hlt_g_w : g < w.heap.size := block_lt_of_cell xa0_w
 go_enter Tryz.func131, Tryz.ntmps131
 go_wp2_with fail
 refine Calls.mono ((add_em W0 p B 4 t) _ _ _ (PSt.fresh PST0.out (frA (Touch.refl _ _))) FIT0.out.left) ?_
 rintro _ w1 ⟨rfl, htw1⟩
 have PSTw1 := hid (PSt.add (PSt.fresh PST0.out (frA (Touch.refl _ _))) htw1)
 have ACCw1 := hid (PrAdd.freshL (show Fresh w _ from (frA (Touch.refl _ _))) htw1)
 have FITw1 := hid (Fits.right FIT0.out)
 have B0_w1 : Blk w1 (w.heap.size) 24 #[kd, .string (⟨t.toArray⟩ : ByteArray), cl, .slice (some ⟨g, o, none⟩) 1 cap] := PrAdd.blk htw1 (by first | exact blkN | assumption | exact blkA (by assumption)) (by have := PSt.lt PST0.out; have := PSt.hB PST0.out; omega) (by decide) (by decide)
 obtain ⟨q0_0_w1, q0_1_w1, q0_2_w1, q0_3_w1, _⟩ := Blk.four B0_w1
 clear xa0_w xa1_w xa2_w xa3_w
 obtain ⟨xa0_w1, xa1_w1, xa2_w1, xa3_w1⟩ := low4 (PSt.low PSTw1.out) XA0.out XA1.out XA2.out XA3.out
 have hlt_g_w1 : g < w1.heap.size := block_lt_of_cell xa0_w1
 clear htw1
 go_wp2_with fail
 refine Calls.mono ((ARGa.out) _ _ _ (PSt.fresh PSTw1.out (frA (Touch.refl _ _))) FITw1.out) ?_
 rintro _ w2 ⟨rfl, htw2⟩
 have PSTw2 := hid (PSt.add2 (PSt.fresh PSTw1.out (frA (Touch.refl _ _))) htw2)
 have ACCw2 := hid (PrAdd.app ACCw1.out (PrAdd.freshL (show Fresh w1 _ from (frA (Touch.refl _ _))) htw2))
 have B0_w2 : Blk w2 (w.heap.size) 24 #[kd, .string (⟨t.toArray⟩ : ByteArray), cl, .slice (some ⟨g, o, none⟩) 1 cap] := PrAdd.blk htw2 (by first | exact blkN | assumption | exact blkA (by assumption)) (by have := PSt.lt PST0.out; have := PSt.hB PST0.out; omega) (by decide) (by decide)
 clear q0_0_w1 q0_1_w1 q0_2_w1 q0_3_w1 B0_w1
 obtain ⟨q0_0_w2, q0_1_w2, q0_2_w2, q0_3_w2, _⟩ := Blk.four B0_w2
 clear xa0_w1 xa1_w1 xa2_w1 xa3_w1
 obtain ⟨xa0_w2, xa1_w2, xa2_w2, xa3_w2⟩ := low4 (PSt.low PSTw2.out) XA0.out XA1.out XA2.out XA3.out
 have hlt_g_w2 : g < w2.heap.size := block_lt_of_cell xa0_w2
 clear htw2
 go_wp2_with fail
 first | go_end0 | refine bodyPost_ret (v := .tuple #[]) (results_none rfl _ _ _) rfl ?_
 exact ⟨rfl, PrAdd.cast ACCw2.out (by first | rfl | (simp only [List.append_assoc] <;> rfl))⟩
set_option maxRecDepth 100000 in
set_option maxHeartbeats 1000000 in
theorem scripted_any (n : Nd) (sl : Value) (w : World) : Calls Tryz.prog 170 #[nv n sl] w fun e w' => e = .returned (.bool (Tr.scripted n)) ∧ Fresh w w' := by
 cases k7 : (n.kind == 7) with
 | true =>
  go_enter Tryz.func170, Tryz.ntmps170
  go_wp2_with fail
  go_ret
  exact ⟨ret_bool' _ _ (by simp [Tr.scripted, k7]), (Touch.refl _ _).alloc _⟩
 | false =>
  cases k8 : (n.kind == 8) with
  | true =>
   go_enter Tryz.func170, Tryz.ntmps170
   go_wp2_with fail
   go_ret
   exact ⟨ret_bool' _ _ (by simp [Tr.scripted, k8]), (Touch.refl _ _).alloc _⟩
  | false =>
   go_enter Tryz.func170, Tryz.ntmps170
   go_wp2_with fail
   go_ret
   exact ⟨ret_bool' _ _ (by simp [Tr.scripted, k7, k8]), (Touch.refl _ _).alloc _⟩
end Go.Proofs.YtdacpbdamliafaaGreat

/- The reference printer's Argument and base. -/
namespace Go.Proofs.YtdacpbdamliafaaGreat
open Go.RowKit
open Tr (Nd argT baseT rowT itemT)
def RowR (n : Nd) : Prop := ∀ (w : World) (sl : Value), RepL w n.kids sl → Calls Tryz.prog 76 #[nv n sl] w (TokRes w (rowT n.kids))
def ItemR (n : Nd) : Prop := ∀ (w : World) (sl : Value), RepL w n.kids sl → Calls Tryz.prog 102 #[nv n sl] w (TokRes w (itemT n))
def ArgR (n : Nd) : Prop := ∀ (w : World) (sl : Value), RepL w n.kids sl → Calls Tryz.prog 139 #[nv n sl] w (TokRes w (argT n))
def BaseR (n : Nd) : Prop := ∀ (w : World) (sl : Value), RepL w n.kids sl → Calls Tryz.prog 173 #[nv n sl] w (TokRes w (baseT n))
theorem itemT_row (n x : Nd) (h : n.kids = [x]) : rowT n.kids = itemT x := by rw [h, Tr.rowT_cons, Tr.rowT_nil, List.append_nil]
set_option maxRecDepth 100000 in
set_option maxHeartbeats 2000000 in
theorem argument_one_r (n x : Nd) (hx : n.kids = [x]) (hl : Tr.leaf x = true) (hi : ItemR x) : ArgR n := by
 intro w sl hsl
 rw [argT_leaf n x hx hl, itemT_row n x hx]
 rw [hx] at hsl
 obtain ⟨g, o, cap, sx, rfl, x0, x1, x2, x3, hrx⟩ := hsl.one
 have ITMx := hid hi
 have HRx := hid hrx
 clear hi hsl hrx
 have XX0 := hid x0
 have XX1 := hid x1
 have XX2 := hid x2
 have XX3 := hid x3
 clear x0 x1 x2 x3
 simp only [Tr.leaf, Bool.or_eq_true, beq_iff_eq] at hl
 rcases hl with (hl | hl) | hl
 ·have k2 : x.kind = 2 := hl
  clear hl
  have d2 : (x.kind == (2 : Int)) = true := by rw [k2]; rfl
  have d3 : (x.kind == (3 : Int)) = false := by rw [k2]; rfl
  have d4 : (x.kind == (4 : Int)) = false := by rw [k2]; rfl
  clear k2
  have xx0_w : World.cell? w ⟨g, o, none⟩ = some (.int .i64 x.kind) := XX0.out
  have xx1_w : World.cell? w ⟨g, o + 1, none⟩ = some (.string (⟨x.text.toArray⟩ : ByteArray)) := XX1.out
  have xx2_w : World.cell? w ⟨g, o + 2, none⟩ = some (.int .i64 x.cols) := XX2.out
  have xx3_w : World.cell? w ⟨g, o + 3, none⟩ = some (sx) := XX3.out
  have hlt_g_w : g < w.heap.size := block_lt_of_cell xx0_w
  go_enter Tryz.func139, Tryz.ntmps139
  go_wp2_with fail
  refine Calls.mono (ITMx.out _ _ (HRx.out.fresh (frA (Touch.refl _ _)))) ?_
  rintro _ w1 ⟨v1, rfl, how1, hfw1⟩
  have O1_w1 := hid (ownsRow_base (B' := w.heap.size) how1 (by first | exact Nat.le_refl _ | assumption | (simp only [World.size_alloc]; omega)))
  clear how1
  have HF1 := hid (show Fresh w w1 from preA hfw1)
  have B0_w1 : Blk w1 (w.heap.size) 24 #[.int .i64 n.kind, .string (⟨n.text.toArray⟩ : ByteArray), .int .i64 n.cols, .slice (some ⟨g, o, none⟩) 1 cap] := Touch.blk hfw1 (by first | exact blkN | assumption | exact blkA (by assumption)) (fun h => h)
  obtain ⟨q0_0_w1, q0_1_w1, q0_2_w1, q0_3_w1, _⟩ := Blk.four B0_w1
  have hltb0_w1 : w.heap.size < w1.heap.size := Blk.lt B0_w1
  obtain ⟨xx0_w1, xx1_w1, xx2_w1, xx3_w1⟩ := mv4 HF1.out xx0_w xx1_w xx2_w xx3_w
  clear xx0_w xx1_w xx2_w xx3_w
  have hsz_w1 : w.heap.size ≤ w1.heap.size := Touch.size HF1.out
  clear hfw1
  go_wp2_with fail
  go_ret
  exact ⟨v1, rfl, ownCast (O1_w1.out) (by first | rfl | (simp only [List.append_assoc] <;> rfl) | (simp <;> rfl)), (frA HF1.out)⟩
 ·have k2 : x.kind = 3 := hl
  clear hl
  have d2 : (x.kind == (2 : Int)) = false := by rw [k2]; rfl
  have d3 : (x.kind == (3 : Int)) = true := by rw [k2]; rfl
  have d4 : (x.kind == (4 : Int)) = false := by rw [k2]; rfl
  clear k2
  have xx0_w : World.cell? w ⟨g, o, none⟩ = some (.int .i64 x.kind) := XX0.out
  have xx1_w : World.cell? w ⟨g, o + 1, none⟩ = some (.string (⟨x.text.toArray⟩ : ByteArray)) := XX1.out
  have xx2_w : World.cell? w ⟨g, o + 2, none⟩ = some (.int .i64 x.cols) := XX2.out
  have xx3_w : World.cell? w ⟨g, o + 3, none⟩ = some (sx) := XX3.out
  have hlt_g_w : g < w.heap.size := block_lt_of_cell xx0_w
  go_enter Tryz.func139, Tryz.ntmps139
  go_wp2_with fail
  refine Calls.mono (ITMx.out _ _ (HRx.out.fresh (frA (Touch.refl _ _)))) ?_
  rintro _ w1 ⟨v1, rfl, how1, hfw1⟩
  have O1_w1 := hid (ownsRow_base (B' := w.heap.size) how1 (by first | exact Nat.le_refl _ | assumption | (simp only [World.size_alloc]; omega)))
  clear how1
  have HF1 := hid (show Fresh w w1 from preA hfw1)
  have B0_w1 : Blk w1 (w.heap.size) 24 #[.int .i64 n.kind, .string (⟨n.text.toArray⟩ : ByteArray), .int .i64 n.cols, .slice (some ⟨g, o, none⟩) 1 cap] := Touch.blk hfw1 (by first | exact blkN | assumption | exact blkA (by assumption)) (fun h => h)
  obtain ⟨q0_0_w1, q0_1_w1, q0_2_w1, q0_3_w1, _⟩ := Blk.four B0_w1
  have hltb0_w1 : w.heap.size < w1.heap.size := Blk.lt B0_w1
  obtain ⟨xx0_w1, xx1_w1, xx2_w1, xx3_w1⟩ := mv4 HF1.out xx0_w xx1_w xx2_w xx3_w
  clear xx0_w xx1_w xx2_w xx3_w
  have hsz_w1 : w.heap.size ≤ w1.heap.size := Touch.size HF1.out
  clear hfw1
  go_wp2_with fail
  go_ret
  exact ⟨v1, rfl, ownCast (O1_w1.out) (by first | rfl | (simp only [List.append_assoc] <;> rfl) | (simp <;> rfl)), (frA HF1.out)⟩
 ·have k2 : x.kind = 4 := hl
  clear hl
  have d2 : (x.kind == (2 : Int)) = false := by rw [k2]; rfl
  have d3 : (x.kind == (3 : Int)) = false := by rw [k2]; rfl
  have d4 : (x.kind == (4 : Int)) = true := by rw [k2]; rfl
  clear k2
  have xx0_w : World.cell? w ⟨g, o, none⟩ = some (.int .i64 x.kind) := XX0.out
  have xx1_w : World.cell? w ⟨g, o + 1, none⟩ = some (.string (⟨x.text.toArray⟩ : ByteArray)) := XX1.out
  have xx2_w : World.cell? w ⟨g, o + 2, none⟩ = some (.int .i64 x.cols) := XX2.out
  have xx3_w : World.cell? w ⟨g, o + 3, none⟩ = some (sx) := XX3.out
  have hlt_g_w : g < w.heap.size := block_lt_of_cell xx0_w
  go_enter Tryz.func139, Tryz.ntmps139
  go_wp2_with fail
  refine Calls.mono (ITMx.out _ _ (HRx.out.fresh (frA (Touch.refl _ _)))) ?_
  rintro _ w1 ⟨v1, rfl, how1, hfw1⟩
  have O1_w1 := hid (ownsRow_base (B' := w.heap.size) how1 (by first | exact Nat.le_refl _ | assumption | (simp only [World.size_alloc]; omega)))
  clear how1
  have HF1 := hid (show Fresh w w1 from preA hfw1)
  have B0_w1 : Blk w1 (w.heap.size) 24 #[.int .i64 n.kind, .string (⟨n.text.toArray⟩ : ByteArray), .int .i64 n.cols, .slice (some ⟨g, o, none⟩) 1 cap] := Touch.blk hfw1 (by first | exact blkN | assumption | exact blkA (by assumption)) (fun h => h)
  obtain ⟨q0_0_w1, q0_1_w1, q0_2_w1, q0_3_w1, _⟩ := Blk.four B0_w1
  have hltb0_w1 : w.heap.size < w1.heap.size := Blk.lt B0_w1
  obtain ⟨xx0_w1, xx1_w1, xx2_w1, xx3_w1⟩ := mv4 HF1.out xx0_w xx1_w xx2_w xx3_w
  clear xx0_w xx1_w xx2_w xx3_w
  have hsz_w1 : w.heap.size ≤ w1.heap.size := Touch.size HF1.out
  clear hfw1
  go_wp2_with fail
  go_ret
  exact ⟨v1, rfl, ownCast (O1_w1.out) (by first | rfl | (simp only [List.append_assoc] <;> rfl) | (simp <;> rfl)), (frA HF1.out)⟩
set_option maxRecDepth 100000 in
set_option maxHeartbeats 2000000 in
theorem argument_grp_r (n x : Nd) (hx : n.kids = [x]) (hl : Tr.leaf x = false) (hi : RowR n) (hn : (rowT n.kids).length ≤ 50000) : ArgR n := by
 intro w sl hsl
 rw [argT_grp n x hx hl]
 have HRn := hid hsl
 rw [hx] at hsl
 obtain ⟨g, o, cap, sx, rfl, x0, x1, x2, x3, hrx⟩ := hsl.one
 have ROWn := hid hi
 have HLEN := hid hn
 obtain ⟨i0, hi, hz0, hz1, hz2⟩ := info_parts infoRTok
 clear hi hsl hrx hn
 have XX0 := hid x0
 have XX1 := hid x1
 have XX2 := hid x2
 have XX3 := hid x3
 clear x0 x1 x2 x3
 simp only [Tr.leaf, Bool.or_eq_false_iff] at hl
 obtain ⟨⟨d2, d3⟩, d4⟩ := hl
 have xx0_w : World.cell? w ⟨g, o, none⟩ = some (.int .i64 x.kind) := XX0.out
 have xx1_w : World.cell? w ⟨g, o + 1, none⟩ = some (.string (⟨x.text.toArray⟩ : ByteArray)) := XX1.out
 have xx2_w : World.cell? w ⟨g, o + 2, none⟩ = some (.int .i64 x.cols) := XX2.out
 have xx3_w : World.cell? w ⟨g, o + 3, none⟩ = some (sx) := XX3.out
 have hlt_g_w : g < w.heap.size := block_lt_of_cell xx0_w
 go_enter Tryz.func139, Tryz.ntmps139
 go_wp2_with fail
 refine Calls.mono (ROWn.out _ _ (HRn.out.fresh (frA (Touch.refl _ _)))) ?_
 rintro _ w1 ⟨v1, rfl, how1, hfw1⟩
 have O1_w1 := hid (ownsRow_base (B' := w.heap.size) how1 (by first | exact Nat.le_refl _ | assumption | (simp only [World.size_alloc]; omega)))
 clear how1
 have HF1 := hid (show Fresh w w1 from preA hfw1)
 have B0_w1 : Blk w1 (w.heap.size) 24 #[.int .i64 n.kind, .string (⟨n.text.toArray⟩ : ByteArray), .int .i64 n.cols, .slice (some ⟨g, o, none⟩) 1 cap] := Touch.blk hfw1 (by first | exact blkN | assumption | exact blkA (by assumption)) (fun h => h)
 obtain ⟨q0_0_w1, q0_1_w1, q0_2_w1, q0_3_w1, _⟩ := Blk.four B0_w1
 have hltb0_w1 : w.heap.size < w1.heap.size := Blk.lt B0_w1
 obtain ⟨xx0_w1, xx1_w1, xx2_w1, xx3_w1⟩ := mv4 HF1.out xx0_w xx1_w xx2_w xx3_w
 clear xx0_w xx1_w xx2_w xx3_w
 have hsz_w1 : w.heap.size ≤ w1.heap.size := Touch.size HF1.out
 clear hfw1
 go_wp2_with fail
 refine Calls.mono (rin_any [123] [125] ((rowT n.kids)) _ _ (Src.of_own O1_w1.out) (by have := HLEN.out; (try simp at this); (try simp); omega)) ?_
 rintro _ w2 ⟨v2, rfl, how2, hfw2⟩
 have O2_w2 := hid (ownsRow_base (B' := w.heap.size) how2 (by first | exact Nat.le_refl _ | assumption | (simp only [World.size_alloc]; omega)))
 clear how2
 have HF2 := hid (show Fresh w1 w2 from preA hfw2)
 have B0_w2 := Touch.blk hfw2 (blkA B0_w1) (fun h => h)
 clear q0_0_w1 q0_1_w1 q0_2_w1 q0_3_w1 B0_w1
 obtain ⟨q0_0_w2, q0_1_w2, q0_2_w2, q0_3_w2, _⟩ := Blk.four B0_w2
 have hltb0_w2 : w.heap.size < w2.heap.size := Blk.lt B0_w2
 obtain ⟨xx0_w2, xx1_w2, xx2_w2, xx3_w2⟩ := mv4 HF2.out xx0_w1 xx1_w1 xx2_w1 xx3_w1
 clear xx0_w1 xx1_w1 xx2_w1 xx3_w1
 have hsz_w2 : w.heap.size ≤ w2.heap.size := Touch.size (HF1.out.trans HF2.out)
 clear hfw2
 go_wp2_with fail
 go_ret
 exact ⟨v2, rfl, ownCast (O2_w2.out) (by first | rfl | (simp only [List.append_assoc] <;> rfl) | (simp <;> rfl)), (frA (HF1.out.trans HF2.out))⟩
set_option maxRecDepth 100000 in
set_option maxHeartbeats 2000000 in
theorem argument_len_r (n : Nd) (hx : n.kids.length ≠ 1) (hi : RowR n) (hn : (rowT n.kids).length ≤ 50000) : ArgR n := by
 intro w sl hsl
 rw [argT_len1 n hx]
 have HRn := hid hsl
 obtain ⟨A, cap, rfl⟩ := hsl.slice
 have ROWn := hid hi
 have HLEN := hid hn
 obtain ⟨i0, hi, hz0, hz1, hz2⟩ := info_parts infoRTok
 have d1 : ((n.kids.length : Int) == 1) = false := by simp only [beq_eq_false_iff_ne]; omega
 have d2 : ¬ (n.kids.length : Int) = 1 := by omega
 clear hi hsl hn
 go_enter Tryz.func139, Tryz.ntmps139
 go_wp2_with fail
 refine Calls.mono (ROWn.out _ _ (HRn.out.fresh (frA (Touch.refl _ _)))) ?_
 rintro _ w1 ⟨v1, rfl, how1, hfw1⟩
 have O1_w1 := hid (ownsRow_base (B' := w.heap.size) how1 (by first | exact Nat.le_refl _ | assumption | (simp only [World.size_alloc]; omega)))
 clear how1
 have HF1 := hid (show Fresh w w1 from preA hfw1)
 have B0_w1 : Blk w1 (w.heap.size) 24 #[.int .i64 n.kind, .string (⟨n.text.toArray⟩ : ByteArray), .int .i64 n.cols, .slice A n.kids.length cap] := Touch.blk hfw1 (by first | exact blkN | assumption | exact blkA (by assumption)) (fun h => h)
 obtain ⟨q0_0_w1, q0_1_w1, q0_2_w1, q0_3_w1, _⟩ := Blk.four B0_w1
 have hltb0_w1 : w.heap.size < w1.heap.size := Blk.lt B0_w1
 have hsz_w1 : w.heap.size ≤ w1.heap.size := Touch.size HF1.out
 clear hfw1
 go_wp2_with fail
 refine Calls.mono (rin_any [123] [125] ((rowT n.kids)) _ _ (Src.of_own O1_w1.out) (by have := HLEN.out; (try simp at this); (try simp); omega)) ?_
 rintro _ w2 ⟨v2, rfl, how2, hfw2⟩
 have O2_w2 := hid (ownsRow_base (B' := w.heap.size) how2 (by first | exact Nat.le_refl _ | assumption | (simp only [World.size_alloc]; omega)))
 clear how2
 have HF2 := hid (show Fresh w1 w2 from preA hfw2)
 have B0_w2 := Touch.blk hfw2 (blkA B0_w1) (fun h => h)
 clear q0_0_w1 q0_1_w1 q0_2_w1 q0_3_w1 B0_w1
 obtain ⟨q0_0_w2, q0_1_w2, q0_2_w2, q0_3_w2, _⟩ := Blk.four B0_w2
 have hltb0_w2 : w.heap.size < w2.heap.size := Blk.lt B0_w2
 have hsz_w2 : w.heap.size ≤ w2.heap.size := Touch.size (HF1.out.trans HF2.out)
 clear hfw2
 go_wp2_with fail
 go_ret
 exact ⟨v2, rfl, ownCast (O2_w2.out) (by first | rfl | (simp only [List.append_assoc] <;> rfl) | (simp <;> rfl)), (frA (HF1.out.trans HF2.out))⟩
theorem argument_r (n : Nd) (hr : RowR n) (hi : ∀ x ∈ n.kids, ItemR x) (hn : (rowT n.kids).length ≤ 50000) : ArgR n := by
 by_cases h1 : n.kids.length = 1
 ·obtain ⟨x, hx⟩ := List.length_eq_one_iff.1 h1
  cases hl : Tr.leaf x with
  | true => exact argument_one_r n x hx hl (hi x (by simp [hx]))
  | false => exact argument_grp_r n x hx hl hr hn
 ·exact argument_len_r n h1 hr hn
set_option maxRecDepth 100000 in
set_option maxHeartbeats 2000000 in
theorem base_one_r (n x : Nd) (hx : n.kids = [x]) (hl : Tr.scripted x = false) (hi : ItemR x) : BaseR n := by
 intro w sl hsl
 rw [baseT_row n x hx hl, itemT_row n x hx]
 rw [hx] at hsl
 obtain ⟨g, o, cap, sx, rfl, x0, x1, x2, x3, hrx⟩ := hsl.one
 obtain ⟨Ax, capx, rfl⟩ := hrx.slice
 have ITMx := hid hi
 have HRx := hid hrx
 clear hi hsl hrx
 have XX0 := hid x0
 have XX1 := hid x1
 have XX2 := hid x2
 have XX3 := hid x3
 clear x0 x1 x2 x3
 have xx0_w : World.cell? w ⟨g, o, none⟩ = some (.int .i64 x.kind) := XX0.out
 have xx1_w : World.cell? w ⟨g, o + 1, none⟩ = some (.string (⟨x.text.toArray⟩ : ByteArray)) := XX1.out
 have xx2_w : World.cell? w ⟨g, o + 2, none⟩ = some (.int .i64 x.cols) := XX2.out
 have xx3_w : World.cell? w ⟨g, o + 3, none⟩ = some (.slice Ax x.kids.length capx) := XX3.out
 have hlt_g_w : g < w.heap.size := block_lt_of_cell xx0_w
 go_enter Tryz.func173, Tryz.ntmps173
 go_wp2_with fail
 refine Calls.mono (rscript_any x (.slice Ax x.kids.length capx) _) ?_
 rintro _ w1 ⟨rfl, hfw1⟩
 have HF1 := hid (show Fresh w w1 from preA hfw1)
 have B0_w1 : Blk w1 (w.heap.size) 24 #[.int .i64 n.kind, .string (⟨n.text.toArray⟩ : ByteArray), .int .i64 n.cols, .slice (some ⟨g, o, none⟩) 1 cap] := Touch.blk hfw1 (by first | exact blkN | assumption | exact blkA (by assumption)) (fun h => h)
 obtain ⟨q0_0_w1, q0_1_w1, q0_2_w1, q0_3_w1, _⟩ := Blk.four B0_w1
 have hltb0_w1 : w.heap.size < w1.heap.size := Blk.lt B0_w1
 obtain ⟨xx0_w1, xx1_w1, xx2_w1, xx3_w1⟩ := mv4 HF1.out xx0_w xx1_w xx2_w xx3_w
 clear xx0_w xx1_w xx2_w xx3_w
 have hsz_w1 : w.heap.size ≤ w1.heap.size := Touch.size HF1.out
 clear hfw1
 go_wp2_with fail
 refine Calls.mono (ITMx.out _ _ (HRx.out.fresh (frA HF1.out))) ?_
 rintro _ w2 ⟨v1, rfl, how2, hfw2⟩
 have O1_w2 := hid (ownsRow_base (B' := w.heap.size) how2 (by first | exact Nat.le_refl _ | assumption | (simp only [World.size_alloc]; omega)))
 clear how2
 have HF2 := hid (show Fresh w1 w2 from preA hfw2)
 have B0_w2 := Touch.blk hfw2 (blkA B0_w1) (fun h => h)
 clear q0_0_w1 q0_1_w1 q0_2_w1 q0_3_w1 B0_w1
 obtain ⟨q0_0_w2, q0_1_w2, q0_2_w2, q0_3_w2, _⟩ := Blk.four B0_w2
 have hltb0_w2 : w.heap.size < w2.heap.size := Blk.lt B0_w2
 obtain ⟨xx0_w2, xx1_w2, xx2_w2, xx3_w2⟩ := mv4 HF2.out xx0_w1 xx1_w1 xx2_w1 xx3_w1
 clear xx0_w1 xx1_w1 xx2_w1 xx3_w1
 have hsz_w2 : w.heap.size ≤ w2.heap.size := Touch.size (HF1.out.trans HF2.out)
 clear hfw2
 go_wp2_with fail
 go_ret
 exact ⟨v1, rfl, ownCast (O1_w2.out) (by first | rfl | (simp only [List.append_assoc] <;> rfl) | (simp <;> rfl)), (frA (HF1.out.trans HF2.out))⟩
set_option maxRecDepth 100000 in
set_option maxHeartbeats 2000000 in
theorem base_grp_r (n x : Nd) (hx : n.kids = [x]) (hl : Tr.scripted x = true) (hi : RowR n) (hn : (rowT n.kids).length ≤ 50000) : BaseR n := by
 intro w sl hsl
 rw [baseT_grp n x hx hl]
 have HRn := hid hsl
 rw [hx] at hsl
 obtain ⟨g, o, cap, sx, rfl, x0, x1, x2, x3, hrx⟩ := hsl.one
 obtain ⟨Ax, capx, rfl⟩ := hrx.slice
 have ROWn := hid hi
 have HLEN := hid hn
 obtain ⟨i0, hi, hz0, hz1, hz2⟩ := info_parts infoRTok
 clear hi hsl hrx hn
 have XX0 := hid x0
 have XX1 := hid x1
 have XX2 := hid x2
 have XX3 := hid x3
 clear x0 x1 x2 x3
 have xx0_w : World.cell? w ⟨g, o, none⟩ = some (.int .i64 x.kind) := XX0.out
 have xx1_w : World.cell? w ⟨g, o + 1, none⟩ = some (.string (⟨x.text.toArray⟩ : ByteArray)) := XX1.out
 have xx2_w : World.cell? w ⟨g, o + 2, none⟩ = some (.int .i64 x.cols) := XX2.out
 have xx3_w : World.cell? w ⟨g, o + 3, none⟩ = some (.slice Ax x.kids.length capx) := XX3.out
 have hlt_g_w : g < w.heap.size := block_lt_of_cell xx0_w
 go_enter Tryz.func173, Tryz.ntmps173
 go_wp2_with fail
 refine Calls.mono (rscript_any x (.slice Ax x.kids.length capx) _) ?_
 rintro _ w1 ⟨rfl, hfw1⟩
 have HF1 := hid (show Fresh w w1 from preA hfw1)
 have B0_w1 : Blk w1 (w.heap.size) 24 #[.int .i64 n.kind, .string (⟨n.text.toArray⟩ : ByteArray), .int .i64 n.cols, .slice (some ⟨g, o, none⟩) 1 cap] := Touch.blk hfw1 (by first | exact blkN | assumption | exact blkA (by assumption)) (fun h => h)
 obtain ⟨q0_0_w1, q0_1_w1, q0_2_w1, q0_3_w1, _⟩ := Blk.four B0_w1
 have hltb0_w1 : w.heap.size < w1.heap.size := Blk.lt B0_w1
 obtain ⟨xx0_w1, xx1_w1, xx2_w1, xx3_w1⟩ := mv4 HF1.out xx0_w xx1_w xx2_w xx3_w
 clear xx0_w xx1_w xx2_w xx3_w
 have hsz_w1 : w.heap.size ≤ w1.heap.size := Touch.size HF1.out
 clear hfw1
 go_wp2_with fail
 refine Calls.mono (ROWn.out _ _ (HRn.out.fresh (frA HF1.out))) ?_
 rintro _ w2 ⟨v1, rfl, how2, hfw2⟩
 have O1_w2 := hid (ownsRow_base (B' := w.heap.size) how2 (by first | exact Nat.le_refl _ | assumption | (simp only [World.size_alloc]; omega)))
 clear how2
 have HF2 := hid (show Fresh w1 w2 from preA hfw2)
 have B0_w2 := Touch.blk hfw2 (blkA B0_w1) (fun h => h)
 clear q0_0_w1 q0_1_w1 q0_2_w1 q0_3_w1 B0_w1
 obtain ⟨q0_0_w2, q0_1_w2, q0_2_w2, q0_3_w2, _⟩ := Blk.four B0_w2
 have hltb0_w2 : w.heap.size < w2.heap.size := Blk.lt B0_w2
 obtain ⟨xx0_w2, xx1_w2, xx2_w2, xx3_w2⟩ := mv4 HF2.out xx0_w1 xx1_w1 xx2_w1 xx3_w1
 clear xx0_w1 xx1_w1 xx2_w1 xx3_w1
 have hsz_w2 : w.heap.size ≤ w2.heap.size := Touch.size (HF1.out.trans HF2.out)
 clear hfw2
 go_wp2_with fail
 refine Calls.mono (rin_any [123] [125] ((rowT n.kids)) _ _ (Src.of_own O1_w2.out) (by have := HLEN.out; (try simp at this); (try simp); omega)) ?_
 rintro _ w3 ⟨v2, rfl, how3, hfw3⟩
 have O2_w3 := hid (ownsRow_base (B' := w.heap.size) how3 (by first | exact Nat.le_refl _ | assumption | (simp only [World.size_alloc]; omega)))
 clear how3
 have HF3 := hid (show Fresh w2 w3 from preA hfw3)
 have B0_w3 := Touch.blk hfw3 (blkA B0_w2) (fun h => h)
 clear q0_0_w2 q0_1_w2 q0_2_w2 q0_3_w2 B0_w2
 obtain ⟨q0_0_w3, q0_1_w3, q0_2_w3, q0_3_w3, _⟩ := Blk.four B0_w3
 have hltb0_w3 : w.heap.size < w3.heap.size := Blk.lt B0_w3
 obtain ⟨xx0_w3, xx1_w3, xx2_w3, xx3_w3⟩ := mv4 HF3.out xx0_w2 xx1_w2 xx2_w2 xx3_w2
 clear xx0_w2 xx1_w2 xx2_w2 xx3_w2
 have hsz_w3 : w.heap.size ≤ w3.heap.size := Touch.size ((HF1.out.trans HF2.out).trans HF3.out)
 clear hfw3
 go_wp2_with fail
 go_ret
 exact ⟨v2, rfl, ownCast (O2_w3.out) (by first | rfl | (simp only [List.append_assoc] <;> rfl) | (simp <;> rfl)), (frA (HF1.out.trans (HF2.out.trans HF3.out)))⟩
set_option maxRecDepth 100000 in
set_option maxHeartbeats 2000000 in
theorem base_len_r (n : Nd) (hx : n.kids.length ≠ 1) (hi : RowR n) (hn : (rowT n.kids).length ≤ 50000) : BaseR n := by
 intro w sl hsl
 rw [baseT_len1 n hx]
 have HRn := hid hsl
 obtain ⟨A, cap, rfl⟩ := hsl.slice
 have ROWn := hid hi
 have HLEN := hid hn
 obtain ⟨i0, hi, hz0, hz1, hz2⟩ := info_parts infoRTok
 have d1 : ((n.kids.length : Int) == 1) = false := by simp only [beq_eq_false_iff_ne]; omega
 have d2 : ¬ (n.kids.length : Int) = 1 := by omega
 clear hi hsl hn
 go_enter Tryz.func173, Tryz.ntmps173
 go_wp2_with fail
 refine Calls.mono (ROWn.out _ _ (HRn.out.fresh (frA (Touch.refl _ _)))) ?_
 rintro _ w1 ⟨v1, rfl, how1, hfw1⟩
 have O1_w1 := hid (ownsRow_base (B' := w.heap.size) how1 (by first | exact Nat.le_refl _ | assumption | (simp only [World.size_alloc]; omega)))
 clear how1
 have HF1 := hid (show Fresh w w1 from preA hfw1)
 have B0_w1 : Blk w1 (w.heap.size) 24 #[.int .i64 n.kind, .string (⟨n.text.toArray⟩ : ByteArray), .int .i64 n.cols, .slice A n.kids.length cap] := Touch.blk hfw1 (by first | exact blkN | assumption | exact blkA (by assumption)) (fun h => h)
 obtain ⟨q0_0_w1, q0_1_w1, q0_2_w1, q0_3_w1, _⟩ := Blk.four B0_w1
 have hltb0_w1 : w.heap.size < w1.heap.size := Blk.lt B0_w1
 have hsz_w1 : w.heap.size ≤ w1.heap.size := Touch.size HF1.out
 clear hfw1
 go_wp2_with fail
 refine Calls.mono (rin_any [123] [125] ((rowT n.kids)) _ _ (Src.of_own O1_w1.out) (by have := HLEN.out; (try simp at this); (try simp); omega)) ?_
 rintro _ w2 ⟨v2, rfl, how2, hfw2⟩
 have O2_w2 := hid (ownsRow_base (B' := w.heap.size) how2 (by first | exact Nat.le_refl _ | assumption | (simp only [World.size_alloc]; omega)))
 clear how2
 have HF2 := hid (show Fresh w1 w2 from preA hfw2)
 have B0_w2 := Touch.blk hfw2 (blkA B0_w1) (fun h => h)
 clear q0_0_w1 q0_1_w1 q0_2_w1 q0_3_w1 B0_w1
 obtain ⟨q0_0_w2, q0_1_w2, q0_2_w2, q0_3_w2, _⟩ := Blk.four B0_w2
 have hltb0_w2 : w.heap.size < w2.heap.size := Blk.lt B0_w2
 have hsz_w2 : w.heap.size ≤ w2.heap.size := Touch.size (HF1.out.trans HF2.out)
 clear hfw2
 go_wp2_with fail
 go_ret
 exact ⟨v2, rfl, ownCast (O2_w2.out) (by first | rfl | (simp only [List.append_assoc] <;> rfl) | (simp <;> rfl)), (frA (HF1.out.trans HF2.out))⟩
theorem base_r (n : Nd) (hr : RowR n) (hi : ∀ x ∈ n.kids, ItemR x) (hn : (rowT n.kids).length ≤ 50000) : BaseR n := by
 by_cases h1 : n.kids.length = 1
 ·obtain ⟨x, hx⟩ := List.length_eq_one_iff.1 h1
  cases hl : Tr.scripted x with
  | false => exact base_one_r n x hx hl (hi x (by simp [hx]))
  | true => exact base_grp_r n x hx hl hr hn
 ·exact base_len_r n h1 hr hn
end Go.Proofs.YtdacpbdamliafaaGreat
