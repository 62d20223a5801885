/- Part 9 of 12 of a proof; its texts, joined: SnQ, SnY, SnA, RtC, RtD, SnD. No condition. -/
import Derived.Test.YtdacpbdamliafaaGreatRo8
import Derived.Test.YtdacpbdamliafaaGreatRo1
import Derived.Test.YtdacpbdamliafaaGreatRo2
import Derived.Test.YtdacpbdamliafaaGreatRo7

/- The tokens of a printed tree: their places in the text. The walks of all rows. -/
namespace Go.Proofs.YtdacpbdamliafaaGreat
open Go.RowKit
open Tr (Nd Clo runRow runSegs rowT itemT segs segsLen segLen IsRow View)
variable {σ κ : Type}
theorem placed_from (a : Nat) : ∀ W : List (Lx.Bytes × Lx.Tok), ∀ t ∈ Lx.placed a W, a ≤ t.from_ ∧ t.from_ ≤ t.to_ ∧ t.to_ ≤ a + (Lx.flat W).length := by
 intro W
 induction W generalizing a with
 | nil => intro t ht; cases ht
 | cons x W ih =>
  obtain ⟨g, x⟩ := x
  intro t ht
  simp only [Lx.placed, Lx.flat, List.length_append] at ht ⊢
  rcases List.mem_cons.1 ht with rfl | ht
  ·simp only; omega
  ·have := ih _ t ht
   omega
theorem placed_next (a : Nat) : ∀ (W : List (Lx.Bytes × Lx.Tok)) (i : Nat) (h : i + 1 < (Lx.placed a W).length), (Lx.placed a W)[i].to_ ≤ (Lx.placed a W)[i + 1].from_ := by
 intro W
 induction W generalizing a with
 | nil => intro i h; simp [Lx.placed] at h
 | cons x W ih =>
  obtain ⟨g, x⟩ := x
  intro i h
  cases i with
  | zero =>
   simp only [Lx.placed, List.getElem_cons_zero, List.getElem_cons_succ]
   exact (placed_from _ W _ (List.getElem_mem _)).1
  | succ i =>
   simp only [Lx.placed, List.getElem_cons_succ]
   exact ih _ i (by simpa [Lx.placed] using h)
theorem placed_mono (a : Nat) (W : List (Lx.Bytes × Lx.Tok)) : Tr.Mono (Lx.placed a W) :=
 ⟨fun _ h => (placed_from a W _ (List.getElem_mem h)).2.1, fun i h => placed_next a W i h⟩
theorem placed_len (a : Nat) : ∀ W : List (Lx.Bytes × Lx.Tok), (Lx.placed a W).length = W.length := by
 intro W
 have := congrArg List.length (Lx.placed_toks W a)
 simpa using this
theorem placed_last : ∀ (W : List (Lx.Bytes × Lx.Tok)) (a : Nat), W ≠ [] → Tr.endAt (Lx.placed a W) W.length = a + (Lx.flat W).length := by
 intro W
 induction W with
 | nil => intro a h; contradiction
 | cons x W ih =>
  obtain ⟨g, x⟩ := x
  intro a _
  cases W with
  | nil => simp [Tr.endAt, Lx.placed, Lx.flat]; omega
  | cons y W =>
   have := ih (a + g.length + (Lx.spell x).length) (by simp)
   unfold Tr.endAt at this ⊢
   simp only [Lx.placed, Lx.flat, List.length_append, List.length_cons] at this ⊢
   rw [if_neg (by omega)] at this ⊢
   simp only [Nat.add_sub_cancel] at this ⊢
   rw [List.getElem?_cons_succ]
   rw [this]
   omega
theorem sepd_len (l : List Lx.Tok) (o : Option Lx.Tok) : (Tr.sepd o l).length = l.length := by
 have := congrArg List.length (Tr.sepd_toks l o)
 simpa using this
theorem printT_len (n : Nd) (h : Tr.valid n = true) : (printT n).length = (rowT n.kids).length := by
 unfold printT
 rw [if_pos h, placed_len, sepd_len]
theorem printT_mono (n : Nd) : Tr.Mono (printT n) := by
 unfold printT
 split
 ·exact placed_mono _ _
 ·exact ⟨fun i h => by simp at h, fun i h => by simp at h⟩
theorem printT_place (n : Nd) (hc : Tr.count n ≤ 800) : ∀ t ∈ printT n, t.from_ ≤ 1000000 ∧ t.to_ ≤ 1000000 := by
 intro t ht
 unfold printT at ht
 split at ht
 ·rename_i h
  obtain ⟨h1, h2, h3⟩ := placed_from _ _ t ht
  have hf := (row_fits n (Tr.valid_row n h) hc).2
  rw [adds_wtext] at hf
  have hf' : (Lx.flat (Tr.sepd none (rowT n.kids))).length ≤ 1000000 := hf
  omega
 ·cases ht
theorem printS_len (n : Nd) (h : Tr.valid n = true) : Tr.endAt (printT n) (rowT n.kids).length = (printS n).length := by
 unfold printT printS
 rw [if_pos h, if_pos h]
 cases hr : rowT n.kids with
 | nil => rfl
 | cons x l =>
  rw [← hr]
  have := placed_last (Tr.sepd none (rowT n.kids)) 0 (by intro e; have := sepd_len (rowT n.kids) none; rw [e, hr] at this; simp at this)
  rw [sepd_len] at this
  rw [this, Nat.zero_add]
  rfl
theorem treeAs_of {k : Wk σ κ} {n : Nd} {m e : Nat} {L : List (Nat × Bool × Nd)} (h : k.TreeAs n m L e) (hl : (itemT n).length = m + segsLen L + e) (hr : ∀ p f s, runSegs k.C k.T (segs n) p 0 f s = runSegs k.C k.T L p 0 (f + m) s) : k.TreeS n := by
 intro S f s w p v sl h1 h2 h3 h4 h5 h6
 rw [hr] at h6
 have := h S f s w p v sl h1 h2 h3 h4 (by omega) h6
 rw [hr, show f + (itemT n).length = f + m + segsLen L + e by omega]
 exact this
theorem run_head (C : Clo σ κ) (T : List Lx.PTok) (k : Nat) (b : Bool) (a : Nd) (r : List (Nat × Bool × Nd)) : ∀ p f s, runSegs C T ((k + 1, b, a) :: r) p 0 f s = runSegs C T ((k, b, a) :: r) p 0 (f + 1) s := fun p f s => run_shift C T k b a r p 0 f s
theorem tree_any {k : Wk σ κ} (hk : k.Good) (n : Nd) (v : View n) (hrows : ∀ a ∈ n.kids, k.RowS a) : k.TreeS n := by
 have hi := Tr.item_segs n v
 cases v with
 | sym t ht => exact treeAs_of (tree_gen hk _ rfl rfl rfl rfl rfl rfl hrows) (by rw [Tr.itemT_sym]; rfl) (fun p f s => by rw [show segs (.mk 2 t 0 []) = [] from rfl, show L0 Tr.grp (Nd.kids (.mk 2 t 0 [])) = [] from rfl, run_nil, run_nil])
 | num t ht => exact treeAs_of (tree_gen hk _ rfl rfl rfl rfl rfl rfl hrows) (by rw [Tr.itemT_num]; rfl) (fun p f s => by rw [show segs (.mk 3 t 0 []) = [] from rfl, show L0 Tr.grp (Nd.kids (.mk 3 t 0 [])) = [] from rfl, run_nil, run_nil])
 | text t ht => exact treeAs_of (tree_gen hk _ rfl rfl rfl rfl rfl rfl hrows) (by rw [Tr.itemT_text]; rfl) (fun p f s => by rw [show segs (.mk 4 t 0 []) = [] from rfl, show L0 Tr.grp (Nd.kids (.mk 4 t 0 [])) = [] from rfl, run_nil, run_nil])
 | frac a b ha hb =>
  have hs : segs (.mk 5 [] 0 [a, b]) = (1, Tr.grp a, a) :: [(0, Tr.grp b, b)] := rfl
  have hL : L0 Tr.grp (Nd.kids (.mk 5 [] 0 [a, b])) = (0, Tr.grp a, a) :: [(0, Tr.grp b, b)] := rfl
  refine treeAs_of (tree_gen hk _ rfl rfl rfl rfl rfl rfl hrows) ?_ ?_
  ·rw [hi, hs, hL]; simp only [segsLen, segLen, Tr.tailN, Nd.kind, Nd.kids]; simp; omega
  ·rw [hs, hL]; exact run_head _ _ _ _ _ _
 | accent t a ht ha =>
  have hs : segs (.mk 10 t 0 [a]) = (1, Tr.grp a, a) :: [] := rfl
  have hL : L0 Tr.grp (Nd.kids (.mk 10 t 0 [a])) = (0, Tr.grp a, a) :: [] := rfl
  refine treeAs_of (tree_gen hk _ rfl rfl rfl rfl rfl rfl hrows) ?_ ?_
  ·rw [hi, hs, hL]; simp only [segsLen, segLen, Tr.tailN, Nd.kind, Nd.kids]; simp; omega
  ·rw [hs, hL]; exact run_head _ _ _ _ _ _
 | root a b ha hb =>
  have hs : segs (.mk 6 [] 0 [a, b]) = (1, !a.kids.isEmpty, a) :: [(0, Tr.grp b, b)] := rfl
  have hL : LI (fun _ => 0) rootB (Nd.kids (.mk 6 [] 0 [a, b])) = (0, !a.kids.isEmpty, a) :: [(0, Tr.grp b, b)] := rfl
  refine treeAs_of (tree_root hk _ rfl hrows) ?_ ?_
  ·rw [hi, hs, hL]; simp only [segsLen, segLen, Tr.tailN, Nd.kind, Nd.kids]; simp; omega
  ·rw [hs, hL]; exact run_head _ _ _ _ _ _
 | sub a b ha hb =>
  have hs : segs (.mk 7 [] 0 [a, b]) = LI scriptK scriptB (Nd.kids (.mk 7 [] 0 [a, b])) := rfl
  have h : k.TreeAs (.mk 7 [] 0 [a, b]) 0 (LI scriptK scriptB (Nd.kids (.mk 7 [] 0 [a, b]))) 0 := by
   by_cases h1 : a.kids.length = 1
   ·obtain ⟨x, hx⟩ := List.length_eq_one_iff.1 h1
    exact tree_scripts7_one hk _ rfl (by simp [Nd.kids]) x hx hrows
   ·exact tree_scripts7_more hk _ rfl (by simp [Nd.kids]) h1 hrows
  exact treeAs_of h (by rw [hi, hs]; simp [Tr.tailN, Nd.kind, Nd.kids]) (fun p f s => by rw [hs]; rfl)
 | sup a b ha hb =>
  have hs : segs (.mk 8 [] 0 [a, b]) = LI scriptK scriptB (Nd.kids (.mk 8 [] 0 [a, b])) := rfl
  have h : k.TreeAs (.mk 8 [] 0 [a, b]) 0 (LI scriptK scriptB (Nd.kids (.mk 8 [] 0 [a, b]))) 0 := by
   by_cases h1 : a.kids.length = 1
   ·obtain ⟨x, hx⟩ := List.length_eq_one_iff.1 h1
    exact tree_scripts8_one hk _ rfl rfl (by simp [Nd.kids]) x hx hrows
   ·exact tree_scripts8_more hk _ rfl rfl (by simp [Nd.kids]) h1 hrows
  exact treeAs_of h (by rw [hi, hs]; simp [Tr.tailN, Nd.kind, Nd.kids]) (fun p f s => by rw [hs]; rfl)
 | both a b d ha hb hd =>
  have hs : segs (.mk 9 [] 0 [a, b, d]) = LI scriptK scriptB (Nd.kids (.mk 9 [] 0 [a, b, d])) := rfl
  have h : k.TreeAs (.mk 9 [] 0 [a, b, d]) 0 (LI scriptK scriptB (Nd.kids (.mk 9 [] 0 [a, b, d]))) 0 := by
   by_cases h1 : a.kids.length = 1
   ·obtain ⟨x, hx⟩ := List.length_eq_one_iff.1 h1
    exact tree_scripts9_one hk _ rfl rfl rfl (by simp [Nd.kids]) x hx hrows
   ·exact tree_scripts9_more hk _ rfl rfl rfl (by simp [Nd.kids]) h1 hrows
  exact treeAs_of h (by rw [hi, hs]; simp [Tr.tailN, Nd.kind, Nd.kids]) (fun p f s => by rw [hs]; rfl)
 | fence t a ht ha =>
  by_cases hr : Tr.round 11 t = true
  ·have hs : segs (.mk 11 t 0 [a]) = [(0, true, a)] := by simp [segs, hr]
   have hL : LI (fun _ => 0) (fun _ _ => true) (Nd.kids (.mk 11 t 0 [a])) = [(0, true, a)] := rfl
   have h : k.TreeAs (.mk 11 t 0 [a]) 0 (LI (fun _ => 0) (fun _ _ => true) (Nd.kids (.mk 11 t 0 [a]))) 0 := by
    cases h1 : (t == [40, 41]) with
    | true => exact tree_round hk _ rfl rfl rfl rfl h1 rfl hrows
    | false =>
     refine tree_square hk _ rfl rfl rfl rfl h1 ?_ rfl hrows
     unfold Tr.round at hr
     rw [h1] at hr
     exact hr
   exact treeAs_of h (by rw [hi, hs, hL]; simp [Tr.tailN, Nd.kind, Nd.kids]) (fun p f s => by rw [hs, hL]; rfl)
  ·have hr' : Tr.round 11 t = false := by simpa using hr
   have hs : segs (.mk 11 t 0 [a]) = (1, Tr.grp a, a) :: [] := by simp [segs, hr']
   have hL : L0 Tr.grp (Nd.kids (.mk 11 t 0 [a])) = (0, Tr.grp a, a) :: [] := rfl
   have h12 : (t == [40, 41]) = false ∧ (t == [91, 93]) = false := by
    unfold Tr.round at hr'
    simpa using hr'
   refine treeAs_of (tree_fence hk _ rfl rfl rfl rfl rfl rfl h12.1 h12.2 hrows) ?_ ?_
   ·rw [hi, hs, hL]; simp only [segsLen, segLen, Tr.tailN, Nd.kind, Nd.kids]; simp; omega
   ·rw [hs, hL]; exact run_head _ _ _ _ _ _
 | matrix c ks hc hn hm h =>
  match ks, hn, h with
  | a :: l, _, _ =>
   have hL : LI (fun _ => 1) (fun _ _ => false) (Nd.kids (.mk 12 [] c (a :: l))) = (1, false, a) :: l.map fun b => (1, false, b) := by
    show LI (fun _ => 1) (fun _ _ => false) (a :: l) = _
    unfold LI
    exact List.ext_getElem (by simp) (by intro i h1 h2; cases i <;> simp)
   have hs : segs (.mk 12 [] c (a :: l)) = (2, false, a) :: l.map fun b => (1, false, b) := by simp [segs]
   refine treeAs_of (tree_matrix hk _ rfl hrows) ?_ ?_
   ·rw [hi, hs, hL]; simp only [segsLen, segLen, Tr.tailN, Nd.kind]; simp; omega
   ·rw [hs, hL]; exact run_head _ _ _ _ _ _
theorem rows_any {k : Wk σ κ} (hk : k.Good) (m : Nat) : ∀ a : Nd, Tr.count a ≤ m → IsRow a → k.RowS a := by
 induction m with
 | zero => intro a h; have := Tr.count_pos a; omega
 | succ m ih =>
  intro a hc ha
  have h1 := Tr.count_kids a
  refine row_any hk a (fun x hx => Tr.item_pos x (ha.views x hx)) fun x hx => tree_any hk x (ha.views x hx) fun b hb => ih b ?_ ((ha.views x hx).rows b hb)
  have h2 := Tr.count_mem hx
  have h3 := Tr.count_kids x
  have h4 := Tr.count_mem hb
  omega
end Go.Proofs.YtdacpbdamliafaaGreat

/- span.walk: the walk over a tree's printed tokens. -/
namespace Go.Proofs.YtdacpbdamliafaaGreat
open Go.RowKit
open Tr (Nd Clo runRow rowT)
variable {σ κ : Type}
structure Cls (σ κ : Type) where
 C : Clo σ κ
 fi : Nat
 ci : Array Value
 fo : Nat
 co : Array Value
 St : Nat → Nat → σ → (Nat → Prop) → World → Prop
 Dn : Nat → Nat → κ → (Nat → Prop) → World → Nat → Array Value → Prop
 Lim : σ → Prop
 Kp : κ → σ → Prop
def Cls.wk (c : Cls σ κ) (W0 : World) (g tg : Nat) (tv : Value) (T : List Lx.PTok) : Wk σ κ := ⟨W0, g, tg, tv, T, c.C, c.fi, c.ci, c.fo, c.co, c.St g tg, c.Dn g tg, c.Lim, c.Kp⟩
theorem built_walker (A : Option Addr) (n cap fi fo : Nat) (ci co : Array Value) : Tryz.prog.built 112 [(0, .slice A n cap), (2, .func (.func fi) #[] ci), (3, .func (.func fo) #[] co)] = some #[.slice A n cap, .int .i64 0, .func (.func fi) #[] ci, .func (.func fo) #[] co] := by kernel_rfl
theorem own_tokens {W : World} {B : Nat} {v : Value} {ts : List Lx.PTok} (h : W.ownsRow B 150 4 v ts.length (ts.flatMap ptokCellsP)) (hB0 : B ≤ W.heap.size) : ∃ tg A cap, B ≤ tg ∧ tg ≤ W.heap.size ∧ v = .slice A ts.length cap ∧
  ∀ i (h : i < ts.length), A = some ⟨tg, 0, none⟩ ∧ tg < W.heap.size ∧ W.cell? ⟨tg, i * 4 + 2, none⟩ = some (.int .i64 (ts[i].from_ : Nat)) ∧ W.cell? ⟨tg, i * 4 + 3, none⟩ = some (.int .i64 (ts[i].to_ : Nat)) := by
 rcases h.2 with ⟨h1, h2⟩ | ⟨g, cap, cur, hv, hB, _⟩
 ·exact ⟨B, none, 0, Nat.le_refl _, hB0, by rw [h1, h2], fun i hi => by omega⟩
 ·refine ⟨g, _, cap, hB, Nat.le_of_lt (h.lt g (by rw [hv]; rfl)).2, hv, fun i hi => ⟨rfl, (h.lt g (by rw [hv]; rfl)).2, ?_, ?_⟩⟩
  all_goals
   have hget : ∀ (l : List Lx.PTok) (i j : Nat) (hi : i < l.length), j < 4 → (l.flatMap ptokCellsP)[i * 4 + j]? = (ptokCellsP l[i])[j]? := by
    intro l
    induction l with
    | nil => intro i j hi; simp at hi
    | cons x l ih =>
     intro i j hi hj
     cases i with
     | zero => rw [List.flatMap_cons, List.getElem?_append_left (by simp [ptokCellsP]; omega)]; simp
     | succ i =>
      rw [List.flatMap_cons, List.getElem?_append_right (by simp [ptokCellsP]; omega), List.getElem_cons_succ, ← ih i j (by simpa using hi) hj]
      congr 1
      simp [ptokCellsP]; omega
  ·have := h.cells (g := g) (by rw [hv]; rfl) (i * 4 + 2) _ (by rw [hget ts i 2 hi (by decide)]; rfl)
   rw [Addr.add_mid, Nat.zero_add] at this
   exact this
  ·have := h.cells (g := g) (by rw [hv]; rfl) (i * 4 + 3) _ (by rw [hget ts i 3 hi (by decide)]; rfl)
   rw [Addr.add_mid, Nat.zero_add] at this
   exact this
set_option maxRecDepth 100000 in
set_option maxHeartbeats 1000000 in
theorem walk_err (n : Nd) (sl : Value) (fi fo : Nat) (ci co : Array Value) (w : World) (hr : RepL w n.kids sl) (ht : n.text.length ≤ maxLen) (hc : Tr.count n ≤ 800) (hv : Tr.valid n = false) :
  Calls Tryz.prog 41 #[nv n sl, .func (.func fi) #[] ci, .func (.func fo) #[] co] w fun e w' => e = .returned (.int .i64 1) ∧ Fresh w w' := by
 have HT := hid (fun (w : World) (hr : RepL w n.kids sl) => ptokens_any n sl w hr ht hc)
 have HR := hid hr
 have HE := hid (show printE n = 1 from by unfold printE; rw [hv]; rfl)
 clear hr hc hv
 go_enter Tryz.func41, Tryz.ntmps41
 go_wp2_with fail
 refine (HT.out _ (HR.out.fresh ((Touch.refl _ _).alloc _))).mono ?_
 rintro _ w1 ⟨v, rfl, ho, hf⟩
 have HF := hid (Touch.pre hf)
 rw [HE.out]
 clear hf ho
 go_wp2_with fail
 go_ret
 exact ⟨rfl, HF.out⟩
set_option maxRecDepth 100000 in
set_option maxHeartbeats 2000000 in
theorem walk_ok (c : Cls σ κ) (W0 : World) (n : Nd) (sl : Value) (w : World) (s : σ) (S : Nat → Prop) (hv : Tr.valid n = true) (hc : Tr.count n ≤ 800) (ht : n.text.length ≤ maxLen) (hl : Low W0 w) (hsl : RepL W0 n.kids sl)
  (hG : ∀ g tg tv, W0.heap.size ≤ g → (c.wk W0 g tg tv (printT n)).Good) (hst : ∀ g tg w', w.heap.size ≤ g → w.heap.size ≤ tg → g < w'.heap.size → tg < w'.heap.size → Fresh w w' → c.St g tg s S w') (hlim : c.Lim (runRow c.C (printT n) n.kids [] 0 0 s)) :
  Calls Tryz.prog 41 #[nv n sl, .func (.func c.fi) #[] c.ci, .func (.func c.fo) #[] c.co] w fun e w' => e = .returned (.int .i64 0) ∧ ∃ g tg S', w.heap.size ≤ g ∧ c.St g tg (runRow c.C (printT n) n.kids [] 0 0 s) S' w' ∧ Low W0 w' ∧ Mv g S S' w w' := by
 obtain ⟨A, cap, rfl⟩ := hsl.slice
 have HT := hid (fun (w : World) (hr : RepL w n.kids (.slice A n.kids.length cap)) => ptokens_any n _ w hr ht hc)
 have HSL := hid hsl
 have HLOW := hid hl
 have HE := hid (show printE n = 0 from by unfold printE; rw [hv]; rfl)
 have HV := hid hv
 have HC := hid hc
 have HG := hid hG
 have HST := hid hst
 have HLIM := hid hlim
 clear hlim
 clear hsl hl hv hc hG hst
 go_enter Tryz.func41, Tryz.ntmps41
 go_wp2_with fail
 refine (HT.out _ ((HSL.out.low HLOW.out).fresh ((Touch.refl _ _).alloc _))).mono ?_
 rintro _ w1 ⟨v, rfl, ho, hf⟩
 have HF := hid (Touch.pre hf)
 have hb1 := hf.blk (Blk.new _ _ _) (fun h => h)
 have HB := hid hb1
 obtain ⟨q0, q1, q2, q3, _, _, _, _, hg⟩ := Blk.four hb1
 obtain ⟨tg, At, capt, hB, hB2, rfl, htok⟩ := own_tokens ho hf.size
 have HTK := hid htok
 have hB' : w.heap.size ≤ tg := by simp at hB; omega
 rw [HE.out]
 clear hf hb1 ho htok
 go_wp2_with (refine wpList_build_kind [(0, .slice At (printT n).length capt), (2, .func (.func c.fi) #[] c.ci), (3, .func (.func c.fo) #[] c.co)] (built_walker At (printT n).length capt c.fi c.fo c.ci c.co) _ rfl rfl rfl (.agg #[.slice At (printT n).length capt, .int .i64 0, .func (.func c.fi) #[] c.ci, .func (.func c.fo) #[] c.co]) rfl ?_)
 have hfa : Fresh w (w1.alloc (.cells #[.slice At (printT n).length capt, .int .i64 0, .func (.func c.fi) #[] c.ci, .func (.func c.fo) #[] c.co] 112)) := HF.out.alloc _
 have HK := hid (HG.out w1.heap.size tg (.slice At (printT n).length capt) (Nat.le_trans HLOW.out.size HF.out.size))
 have HAT := hid (show (c.wk W0 w1.heap.size tg (.slice At (printT n).length capt) (printT n)).At S 0 s (w1.alloc (.cells #[.slice At (printT n).length capt, .int .i64 0, .func (.func c.fi) #[] c.ci, .func (.func c.fo) #[] c.co] 112)) from
  ⟨HLOW.out.fresh hfa, Blk.new _ _ _, ⟨At, capt, rfl, fun i hi => by
   obtain ⟨t1, t2, t3, t4⟩ := HTK.out i hi
   have hfn : Fresh w1 (w1.alloc (.cells #[.slice At (printT n).length capt, .int .i64 0, .func (.func c.fi) #[] c.ci, .func (.func c.fo) #[] c.co] 112)) := (Touch.refl _ _).alloc _
   exact ⟨t1, Nat.lt_of_lt_of_le t2 hfn.size, Nat.ne_of_lt t2, hfn.cell t3 (fun h => h), hfn.cell t4 (fun h => h)⟩⟩, HST.out _ _ _ HF.out.size hB' (by simp) (by simp; omega) hfa⟩)
 have hdep : Tr.depth n ≤ 24 := by
  have := HV.out
  unfold Tr.valid at this
  simp only [Bool.and_eq_true, decide_eq_true_eq] at this
  exact this.2
 refine (rows_any HK.out (Tr.count n) n (Nat.le_refl _) (Tr.valid_row n HV.out) S 0 s _ [] _ _ _ _ _ HAT.out HSL.out (PathIn.nil _ _ _) (by simp; omega) (by rw [show (c.wk W0 w1.heap.size tg (.slice At (printT n).length capt) (printT n)).T = printT n from rfl, printT_len n HV.out]; omega) HLIM.out).mono ?_
 rintro _ w2 ⟨rfl, S2, hat, hmv⟩
 have HST2 := hid hat.st
 have HL2 := hid hat.low
 have HMV2 := hid ((Mv.fresh hfa).trans hmv)
 have hgw : w.heap.size ≤ w1.heap.size := HF.out.size
 clear hat hmv hfa HAT HK q0 q1 q2 q3 hB hB2
 go_wp2_with fail
 go_ret
 exact ⟨rfl, _, _, S2, hgw, HST2.out, HL2.out, HMV2.out⟩
end Go.Proofs.YtdacpbdamliafaaGreat

/- span.Offset. -/
namespace Go.Proofs.YtdacpbdamliafaaGreat
open Go.RowKit
open Tr (Nd Clo runRow rowT offC offG posRow)
theorem noItem_any (v : Value) (pl : Nat) (w : World) : Calls Tryz.prog 42 (#[v, .int .i64 (pl : Int)] ++ #[]) w fun e w' => e = .returned (.func (.func 69) #[] #[]) ∧ w' = w := by
 have e : (#[v, .int .i64 (pl : Int)] ++ #[] : Array Value) = #[v, .int .i64 (pl : Int)] := by simp
 rw [e]
 go_enter Tryz.func42, Tryz.ntmps42
 go_wp2_with fail
 go_ret
 exact ⟨rfl, rfl⟩
theorem noItem1_any (pl : Nat) (w : World) : Calls Tryz.prog 69 (#[.int .i64 (pl : Int)] ++ #[]) w fun e w' => e = .returned (.tuple #[]) ∧ w' = w := by
 have e : (#[.int .i64 (pl : Int)] ++ #[] : Array Value) = #[.int .i64 (pl : Int)] := by simp
 rw [e]
 go_enter Tryz.func69, Tryz.ntmps69
 go_wp2_with fail
 first | go_end0 | refine bodyPost_ret (v := .tuple #[]) (results_none rfl _ _ _) rfl ?_
 exact ⟨rfl, rfl⟩
theorem Mc.refl (S : Nat → Prop) (w : World) : Mc S S w w := ⟨Touch.refl _ _, fun _ h => .inl h⟩
def IntsB (B : Nat) (w : World) (v : Value) (l : List Int) : Prop :=
 ∃ A cap, v = .slice A l.length cap ∧ (l = [] ∨ ∃ g o, A = some ⟨g, o, none⟩ ∧ g < B ∧ ∀ i (h : i < l.length), w.cell? ⟨g, o + i, none⟩ = some (.int .i64 l[i]))
theorem Ints.old {w : World} {v : Value} {l : List Int} (h : Ints w v l) {B : Nat} (hB : w.heap.size ≤ B) : IntsB B w v l := by
 obtain ⟨A, cap, h, h'⟩ := h
 exact ⟨A, cap, h, h'.imp id fun ⟨g, o, h1, h2, h3⟩ => ⟨g, o, h1, Nat.lt_of_lt_of_le h2 hB, h3⟩⟩
theorem IntsB.touch {B : Nat} {S : Nat → Prop} {w w' : World} {v : Value} {l : List Int} (h : IntsB B w v l) (ht : Touch S w w') (hS : ∀ b, S b → B ≤ b) : IntsB B w' v l := by
 obtain ⟨A, cap, h, h'⟩ := h
 exact ⟨A, cap, h, h'.imp id fun ⟨g, o, h1, h2, h3⟩ => ⟨g, o, h1, h2, fun i hi => ht.cell (h3 i hi) fun e => by have := hS _ e; have h2' : g < B := h2; simp only at this; omega⟩⟩
theorem IntsB.ints {B : Nat} {w : World} {v : Value} {l : List Int} (h : IntsB B w v l) : Ints w v l := by
 obtain ⟨A, cap, h, h'⟩ := h
 refine ⟨A, cap, h, ?_⟩
 rcases h' with h' | ⟨g, o, h1, h2, h3⟩
 ·exact .inl h'
 ·cases l with
  | nil => exact .inl rfl
  | cons x l => exact .inr ⟨g, o, h1, block_lt_of_cell (h3 0 (by simp)), h3⟩
def posIs (pos : List Int) (p : List Nat) : Bool := decide (up p = pos)
structure OffSt (W0 : World) (B rb fb pb : Nat) (posv : Value) (pos : List Int) (g tg : Nat) (s : Nat × Bool) (S : Nat → Prop) (w : World) : Prop where
 own : ∀ b, S b ↔ b = rb ∨ b = fb
 res : Blk w rb 3 #[.int .i64 (s.1 : Int)]
 found : Blk w fb 4 #[.bool s.2]
 posc : w.cell? ⟨pb, 0, none⟩ = some posv
 ints : IntsB W0.heap.size w posv pos
 lo : W0.heap.size ≤ rb ∧ W0.heap.size ≤ fb ∧ rb < B ∧ fb < B ∧ pb < B ∧ rb ≠ fb ∧ pb ≠ rb ∧ pb ≠ fb ∧ W0.heap.size ≤ B
 hg : B ≤ g
 htg : B ≤ tg
theorem OffSt.touch {W0 : World} {B rb fb pb : Nat} {posv : Value} {pos : List Int} {g tg : Nat} {s : Nat × Bool} {S : Nat → Prop} {w w' : World} (h : OffSt W0 B rb fb pb posv pos g tg s S w) {Q : Nat → Prop} (ht : Touch Q w w') (hQ : ∀ b, Q b → B ≤ b) : OffSt W0 B rb fb pb posv pos g tg s S w' := by
 obtain ⟨h1, h2, h3, h4, h5, h6, h7⟩ := h.lo
 refine ⟨h.own, ht.blk h.res fun e => by have := hQ _ e; omega, ht.blk h.found fun e => by have := hQ _ e; omega, ht.cell h.posc fun e => by have := hQ _ e; simp only at this; omega, h.ints.touch ht fun b hb => ?_, h.lo, h.hg, h.htg⟩
 have := hQ b hb
 omega
set_option maxRecDepth 100000 in
set_option maxHeartbeats 1000000 in
theorem off1_any {W0 : World} {B rb fb pb : Nat} {posv : Value} {pos : List Int} {g tg : Nat} {s : Nat × Bool} {S : Nat → Prop} {w : World} (h : OffSt W0 B rb fb pb posv pos g tg s S w) {p : List Nat} {v : Value} (pl : Nat) (hp : PathIn g S w v p) (hpl : p.length ≤ 1000) (hl : pos.length ≤ maxLen) :
  Calls Tryz.prog 39 (#[v, .int .i64 (pl : Int)] ++ #[.pointer (some ⟨fb, 0, none⟩), .pointer (some ⟨pb, 0, none⟩), .pointer (some ⟨rb, 0, none⟩)]) w
   fun e w' => e = .returned (.tuple #[]) ∧ ∃ S', OffSt W0 B rb fb pb posv pos g tg (offG (posIs pos) s p pl) S' w' ∧ Mc S S' w w' := by
 have e : (#[v, .int .i64 (pl : Int)] ++ #[.pointer (some ⟨fb, 0, none⟩), .pointer (some ⟨pb, 0, none⟩), .pointer (some ⟨rb, 0, none⟩)] : Array Value) = #[v, .int .i64 (pl : Int), .pointer (some ⟨fb, 0, none⟩), .pointer (some ⟨pb, 0, none⟩), .pointer (some ⟨rb, 0, none⟩)] := by simp
 rw [e]
 clear e
 obtain ⟨r, f⟩ := s
 have HS := hid h
 have q0 : w.cell? ⟨rb, 0, none⟩ = some (.int .i64 (r : Int)) := h.res.cell 0
 have z0 : w.frozen? ⟨rb, 0, none⟩ = false := h.res.frozen 0
 have q1 : w.cell? ⟨fb, 0, none⟩ = some (.bool f) := h.found.cell 0
 have z1 : w.frozen? ⟨fb, 0, none⟩ = false := h.found.frozen 0
 have q2 := h.posc
 obtain ⟨_, _, _, _, _, hne, _⟩ := h.lo
 obtain ⟨A, cap, rfl⟩ := h.ints.ints.slice
 have HP := hid hp
 have HPL := hid hpl
 have HL := hid hl
 obtain ⟨Ap, capp, rfl⟩ := hp.slice
 clear h hp hpl hl
 cases f with
 | true =>
  have HR := hid (show offG (posIs pos) (r, true) p pl = (r, true) from by unfold offG; rw [if_neg (by simp)])
  go_enter Tryz.func39, Tryz.ntmps39
  go_wp2_with fail
  go_end0
  exact ⟨rfl, S, by rw [HR.out]; exact HS.out, Mc.refl _ _⟩
 | false =>
  cases hd : posIs pos p with
  | false =>
   have HR := hid (show offG (posIs pos) (r, false) p pl = (r, false) from by unfold offG; rw [if_neg (by simp [hd])])
   have HD := hid (show decide (up p = pos) = false from hd)
   clear hd
   go_enter Tryz.func39, Tryz.ntmps39
   go_wp2_with fail
   refine (equal_ints (up p) pos _ _ _ HP.out.ints HS.out.ints.ints (by have := HPL.out; simp only [List.length_map]; unfold maxLen; omega) HL.out).mono ?_
   rintro _ w1 ⟨rfl, hf⟩
   rw [HD.out]
   have HF := hid hf
   clear hf
   go_wp2_with fail
   go_end0
   exact ⟨rfl, S, by rw [HR.out]; exact HS.out.touch HF.out (fun _ h => h.elim), ⟨HF.out.mono fun _ h => h.elim, fun _ h => .inl h⟩⟩
  | true =>
   have HR := hid (show offG (posIs pos) (r, false) p pl = (pl, true) from by unfold offG; rw [if_pos ⟨rfl, hd⟩])
   have HD := hid (show decide (up p = pos) = true from hd)
   clear hd
   go_enter Tryz.func39, Tryz.ntmps39
   go_wp2_with fail
   refine (equal_ints (up p) pos _ _ _ HP.out.ints HS.out.ints.ints (by have := HPL.out; simp only [List.length_map]; unfold maxLen; omega) HL.out).mono ?_
   rintro _ w1 ⟨rfl, hf⟩
   rw [HD.out]
   have HF := hid hf
   have HS1 := hid (HS.out.touch hf (fun _ h => h.elim))
   have r0 : w1.cell? ⟨rb, 0, none⟩ = some (.int .i64 (r : Int)) := HS1.out.res.cell 0
   have y0 : w1.frozen? ⟨rb, 0, none⟩ = false := HS1.out.res.frozen 0
   have r1 : w1.cell? ⟨fb, 0, none⟩ = some (.bool false) := HS1.out.found.cell 0
   have y1 : w1.frozen? ⟨fb, 0, none⟩ = false := HS1.out.found.frozen 0
   clear hf q0 q1 q2 z0 z1
   go_wp2_with fail
   go_end0
   refine ⟨rfl, S, ?_, ⟨((HF.out.mono fun _ h => h.elim).setCell (p := ⟨rb, 0, none⟩) (.inl ((HS.out.own _).2 (.inl rfl))) _).setCell (p := ⟨fb, 0, none⟩) (.inl ((HS.out.own _).2 (.inr rfl))) _, fun _ h => .inl h⟩⟩
   rw [HR.out]
   obtain ⟨l1, l2, l3, l4, l5, l6, l7, l8, l9⟩ := HS1.out.lo
   have ht : Touch (fun b => b = rb ∨ b = fb) w1 ((w1.setCell ⟨rb, 0, none⟩ (.int .i64 (pl : Int))).setCell ⟨fb, 0, none⟩ (.bool true)) := ((Touch.refl (fun b => b = rb ∨ b = fb) w1).setCell (p := ⟨rb, 0, none⟩) (.inl (.inl rfl)) _).setCell (p := ⟨fb, 0, none⟩) (.inl (.inr rfl)) _
   exact ⟨HS1.out.own, ((HS1.out.res.put 0 _).far (p := ⟨fb, 0, none⟩) l6 _), ((HS1.out.found.far (p := ⟨rb, 0, none⟩) (Ne.symm l6) _).put 0 _), ht.cell HS1.out.posc (fun e => e.elim l7 l8), HS1.out.ints.touch ht (fun b hb => by rcases hb with rfl | rfl <;> assumption), HS1.out.lo, HS1.out.hg, HS1.out.htg⟩
def offCls (W0 : World) (B rb fb pb : Nat) (posv : Value) (pos : List Int) : Cls (Nat × Bool) Unit :=
 ⟨offC (offG (posIs pos)), 42, #[], 39, #[.pointer (some ⟨fb, 0, none⟩), .pointer (some ⟨pb, 0, none⟩), .pointer (some ⟨rb, 0, none⟩)], OffSt W0 B rb fb pb posv pos, fun _ _ _ _ _ d cd => d = 69 ∧ cd = #[], fun _ => True, fun _ _ => True⟩
theorem printT_len_le (n : Nd) (hc : Tr.count n ≤ 800) : (printT n).length ≤ 100000 := by
 cases h : Tr.valid n with
 | true =>
  rw [printT_len n h]
  have := row_len n (Tr.valid_row n h)
  omega
 | false =>
  unfold printT
  rw [h]
  exact Nat.zero_le _
set_option maxRecDepth 100000 in
theorem offCls_good (W0 : World) (B rb fb pb : Nat) (posv : Value) (pos : List Int) (hl : pos.length ≤ maxLen) (n : Nd) (hc : Tr.count n ≤ 800) (g tg : Nat) (tv : Value) (hg : W0.heap.size ≤ g) : ((offCls W0 B rb fb pb posv pos).wk W0 g tg tv (printT n)).Good where
 len := printT_len_le n hc
 place := printT_place n hc
 far := hg
 lt := fun s S w b h hb => by
  have h' : OffSt W0 B rb fb pb posv pos g tg s S w := h
  obtain ⟨l1, l2, l3, l4, _⟩ := h'.lo
  have h1 := h'.res.lt
  have h2 := h'.found.lt
  have h3 := h'.hg
  have h4 := h'.htg
  show W0.heap.size ≤ b ∧ b < w.heap.size ∧ b ≠ g ∧ b ≠ tg
  rcases (h'.own b).1 hb with rfl | rfl <;> omega
 stmv := fun s S w w' h ht => by
  have h' : OffSt W0 B rb fb pb posv pos g tg s S w := h
  exact h'.touch ht fun b hb => by have : b = g := hb; have := h'.hg; omega
 dnmv := fun q S S' w w' d cd h _ => h
 off := fun s S w p v pl h hp hpl _ _ => off1_any h pl hp hpl hl
 item := fun s S w p v pl h hp hpl _ _ => (noItem_any v pl w).mono fun e w' ⟨he, hw⟩ => by
  subst hw
  exact ⟨_, _, S, he, h, Mc.refl _ _, rfl, rfl⟩
 done := fun s S w q d cd pl h hd _ _ _ => by
  obtain ⟨rfl, rfl⟩ := hd
  exact (noItem1_any pl w).mono fun e w' ⟨he, hw⟩ => by subst hw; exact ⟨he, S, h, Mc.refl _ _⟩
 kp0 := fun _ _ _ => trivial
 kpo := fun _ _ _ _ _ => trivial
 kpi := fun _ _ _ _ _ => trivial
 kpd := fun _ _ _ _ _ => trivial
 limo := fun _ _ _ _ => trivial
 limi := fun _ _ _ _ => trivial
 limd := fun _ _ _ _ => trivial
 callo := fun _ _ => by kernel_rfl
 calli := fun _ _ => by kernel_rfl
 calld := fun q S w d cd hd => by
  obtain ⟨rfl, rfl⟩ := hd
  exact fun _ _ => by kernel_rfl
def offR (n : Nd) (pos : List Int) : Nat × Int :=
 if Tr.valid n then match (posRow (printT n) n.kids [] 0 0).find? fun x => posIs pos x.1 with | some x => (x.2, 0) | none => (0, 2) else (0, 1)
theorem low_fresh {W0 w : World} (h : Low W0 w) : Fresh W0 w := ⟨h.os, h.tape, h.output, h.size, fun k hk _ => h.block k hk (by omega)⟩
theorem Blk.new4 (w : World) (o o' o'' : Obj) (t : TypeId) (cs : Array Value) : Blk ((((w.alloc o).alloc o').alloc o'').alloc (.cells cs t)) (w.heap.size + 1 + 1 + 1) t cs := by
 have := Blk.new3 (w.alloc o) o' o'' t cs
 simpa using this
set_option maxRecDepth 100000 in
set_option maxHeartbeats 2000000 in
theorem offset_any (n : Nd) (sl posv : Value) (pos : List Int) (w : World) (hsl : RepL w n.kids sl) (ht : n.text.length ≤ maxLen) (hc : Tr.count n ≤ 800) (hpos : Ints w posv pos) (hl : pos.length ≤ maxLen) :
  Calls Tryz.prog 14 #[nv n sl, posv] w fun e w' => e = .returned (.tuple #[.int .i64 ((offR n pos).1 : Nat), .int .i64 (offR n pos).2]) ∧ Fresh w w' := by
 obtain ⟨A, cap, rfl⟩ := hsl.slice
 obtain ⟨Ap, capp, rfl⟩ := hpos.slice
 have HSL := hid hsl
 have HP := hid hpos
 have HL := hid hl
 have HC := hid hc
 clear hsl hpos hl hc
 have hmf : ∀ (fn : Fn) (first cap : Array Value) (w : World), (Instr.makeFunc fn first cap).run Tryz.prog w = .ok (.func fn first cap) w := fun _ _ _ _ => rfl
 cases hv : Tr.valid n with
 | false =>
  have HR := hid (show offR n pos = (0, 1) from by unfold offR; rw [hv]; rfl)
  have HV := hid hv
  clear hv
  go_enter Tryz.func14, Tryz.ntmps14
  go_wp2_with fail
  have hf1 : Fresh w ((((w.alloc (.cells #[.int .i64 n.kind, .string ⟨n.text.toArray⟩, .int .i64 n.cols, .slice A n.kids.length cap] 24)).alloc (.cells #[.slice Ap pos.length capp] 25)).alloc (.cells #[.int .i64 0] 3)).alloc (.cells #[.bool false] 4)) := ((((Touch.refl _ _).alloc _).alloc _).alloc _).alloc _
  generalize ((((w.alloc (.cells #[.int .i64 n.kind, .string ⟨n.text.toArray⟩, .int .i64 n.cols, .slice A n.kids.length cap] 24)).alloc (.cells #[.slice Ap pos.length capp] 25)).alloc (.cells #[.int .i64 0] 3)).alloc (.cells #[.bool false] 4)) = W1 at hf1 ⊢
  have HF1 := hid hf1
  clear hf1
  refine (walk_err n _ 42 39 #[] _ W1 (HSL.out.fresh HF1.out) ht HC.out HV.out).mono ?_
  rintro _ w2 ⟨rfl, hf⟩
  have HF2 := hid (HF1.out.trans hf)
  clear hf
  go_wp2_with fail
  go_ret2
  exact ⟨by rw [HR.out]; rfl, HF2.out⟩
 | true =>
  have HV := hid hv
  clear hv
  go_enter Tryz.func14, Tryz.ntmps14
  go_wp2_with fail
  have hf1 : Fresh w ((((w.alloc (.cells #[.int .i64 n.kind, .string ⟨n.text.toArray⟩, .int .i64 n.cols, .slice A n.kids.length cap] 24)).alloc (.cells #[.slice Ap pos.length capp] 25)).alloc (.cells #[.int .i64 0] 3)).alloc (.cells #[.bool false] 4)) := ((((Touch.refl _ _).alloc _).alloc _).alloc _).alloc _
  have hbf : Blk ((((w.alloc (.cells #[.int .i64 n.kind, .string ⟨n.text.toArray⟩, .int .i64 n.cols, .slice A n.kids.length cap] 24)).alloc (.cells #[.slice Ap pos.length capp] 25)).alloc (.cells #[.int .i64 0] 3)).alloc (.cells #[.bool false] 4)) (w.heap.size + 1 + 1 + 1) 4 #[.bool false] := Blk.new4 _ _ _ _ _ _
  have hbr : Blk ((((w.alloc (.cells #[.int .i64 n.kind, .string ⟨n.text.toArray⟩, .int .i64 n.cols, .slice A n.kids.length cap] 24)).alloc (.cells #[.slice Ap pos.length capp] 25)).alloc (.cells #[.int .i64 0] 3)).alloc (.cells #[.bool false] 4)) (w.heap.size + 1 + 1) 3 #[.int .i64 0] := (Blk.new3 _ _ _ _ _).alloc _
  have hbp : Blk ((((w.alloc (.cells #[.int .i64 n.kind, .string ⟨n.text.toArray⟩, .int .i64 n.cols, .slice A n.kids.length cap] 24)).alloc (.cells #[.slice Ap pos.length capp] 25)).alloc (.cells #[.int .i64 0] 3)).alloc (.cells #[.bool false] 4)) (w.heap.size + 1) 25 #[.slice Ap pos.length capp] := ((Blk.new2 _ _ _ _).alloc _).alloc _
  generalize ((((w.alloc (.cells #[.int .i64 n.kind, .string ⟨n.text.toArray⟩, .int .i64 n.cols, .slice A n.kids.length cap] 24)).alloc (.cells #[.slice Ap pos.length capp] 25)).alloc (.cells #[.int .i64 0] 3)).alloc (.cells #[.bool false] 4)) = W1 at hf1 hbf hbr hbp ⊢
  have HF1 := hid hf1
  have HOS := hid (fun (g tg : Nat) (w' : World) (h1 : W1.heap.size ≤ g) (h2 : W1.heap.size ≤ tg) (hf : Fresh W1 w') => (show OffSt w W1.heap.size (w.heap.size + 1 + 1) (w.heap.size + 1 + 1 + 1) (w.heap.size + 1) (.slice Ap pos.length capp) pos g tg (0, false) (fun b => b = w.heap.size + 1 + 1 ∨ b = w.heap.size + 1 + 1 + 1) w' from
   ⟨fun b => Iff.rfl, hf.blk hbr (fun h => h), hf.blk hbf (fun h => h), (hf.blk hbp (fun h => h)).cell 0, (HP.out.old (Nat.le_refl _)).touch (HF1.out.trans hf) (fun _ h => h.elim), by have := hbf.lt; refine ⟨?_, ?_, ?_, ?_, ?_, ?_, ?_, ?_, ?_⟩ <;> omega, h1, h2⟩))
  clear hf1 hbf hbr hbp
  refine (walk_ok (offCls w W1.heap.size (w.heap.size + 1 + 1) (w.heap.size + 1 + 1 + 1) (w.heap.size + 1) (.slice Ap pos.length capp) pos) w n _ W1 (0, false) _ HV.out HC.out ht ((Low.fresh (Touch.refl _ _) HF1.out)) HSL.out (fun g tg tv hg => offCls_good _ _ _ _ _ _ _ HL.out n HC.out g tg tv hg) (fun g tg w' h1 h2 _ _ hf => HOS.out g tg w' h1 h2 hf) trivial).mono ?_
  rintro _ w2 ⟨rfl, g, tg, S2, hg, hst, hlow, hmv⟩
  have hst' : OffSt w W1.heap.size (w.heap.size + 1 + 1) (w.heap.size + 1 + 1 + 1) (w.heap.size + 1) (.slice Ap pos.length capp) pos g tg (runRow (offC (offG (posIs pos))) (printT n) n.kids [] 0 0 (0, false)) S2 w2 := hst
  rw [(Tr.off_run (offG (posIs pos)) (printT n)).1, Tr.off_fold] at hst'
  have HF2 := hid (low_fresh hlow)
  cases hfd : (posRow (printT n) n.kids [] 0 0).find? fun x => posIs pos x.1 with
  | none =>
   rw [hfd] at hst'
   have HR := hid (show offR n pos = (0, 2) from by unfold offR; rw [if_pos HV.out, hfd])
   have r0 : w2.cell? ⟨w.heap.size + 1 + 1, 0, none⟩ = some (.int .i64 0) := hst'.res.cell 0
   have r1 : w2.cell? ⟨w.heap.size + 1 + 1 + 1, 0, none⟩ = some (.bool false) := hst'.found.cell 0
   clear hst' hst hmv hlow hfd
   go_wp2_with fail
   go_ret2
   exact ⟨by rw [HR.out]; rfl, HF2.out⟩
  | some x =>
   rw [hfd] at hst'
   have HR := hid (show offR n pos = (x.2, 0) from by unfold offR; rw [if_pos HV.out, hfd])
   have r0 : w2.cell? ⟨w.heap.size + 1 + 1, 0, none⟩ = some (.int .i64 (x.2 : Int)) := hst'.res.cell 0
   have r1 : w2.cell? ⟨w.heap.size + 1 + 1 + 1, 0, none⟩ = some (.bool true) := hst'.found.cell 0
   clear hst' hst hmv hlow hfd
   go_wp2_with fail
   go_ret2
   exact ⟨by rw [HR.out]; rfl, HF2.out⟩
end Go.Proofs.YtdacpbdamliafaaGreat

/- The reference's braced and slots. -/
namespace Go.Proofs.YtdacpbdamliafaaGreat
open Go.RowKit
open Tr (Nd View IsRow grp bgrp rowT argT baseT itemT slotAt segs argAt scAt cellAt)
attribute [local go_sem] stillV stillUpon
theorem itemOf (x : Nd) (v : View x) (hc : Tr.count x ≤ 10000) : ItemR x := (rows_items_r (Tr.count x)).1 x (Nat.le_refl _) hc v
theorem argOf (a : Nd) (ha : IsRow a) (hc : Tr.count a ≤ 800) : ArgR a :=
 argument_r a (rowR a ha (by omega)) (fun x hx => itemOf x (ha.views x hx) (by have := Tr.count_mem hx; have := Tr.count_kids a; omega)) (by have := row_len a ha; omega)
theorem argT_le (a : Nd) (ha : IsRow a) : (argT a).length ≤ 3 * Tr.count a - 1 := argT_len a fun x hx => item_len _ x (Nat.le_refl _) (ha.views x hx)
theorem slice_owned {W : World} {B e size n : Nat} {v : Value} {xs : List Value} (h : W.ownsRow B e size v n xs) : ∃ A c, v = .slice A n c := by
 rcases h.2 with ⟨h1, h2⟩ | ⟨g, cap, cur, h1, _⟩
 ·exact ⟨none, 0, by rw [h1, h2]⟩
 ·exact ⟨_, _, h1⟩
theorem up_snoc (L : List Nat) (x : Nat) (y : Int) (h : y = (x : Int)) : intVs (up L) ++ [.int .i64 y] = intVs (up (L ++ [x])) := by simp [h]
set_option maxRecDepth 100000 in
set_option maxHeartbeats 400000 in
theorem braced_any (a : Nd) (ha : IsRow a) (hc : Tr.count a ≤ 800) (sl : Value) (w : World) (hr : RepL w a.kids sl) :
  Calls Tryz.prog 143 #[nv a sl] w fun e w' => e = .returned (.int .i64 ((grp a).toNat : Int)) ∧ Fresh w w' := by
 have HARG := hid (argOf a ha hc)
 have HROW := hid (rowR a ha (by omega))
 have hl := Tr.argT_grpLen a
 have hl1 := row_len a ha
 obtain ⟨A, cap, rfl⟩ := hr.slice
 have HR := hid hr
 clear hr ha
 have hb : grp a = decide ((rowT a.kids).length < (argT a).length) := by
  rw [hl]
  cases grp a with
  | false => symm; simp
  | true => symm; simp
 have HB := hid hb
 have HL2 := hid hl1
 clear hl hb hl1
 go_enter Tryz.func143, Tryz.ntmps143
 go_wp2_with fail
 have hb1 : Blk (w.alloc (.cells #[.int .i64 a.kind, .string ⟨a.text.toArray⟩, .int .i64 a.cols, .slice A a.kids.length cap] 24)) w.heap.size 24 #[.int .i64 a.kind, .string ⟨a.text.toArray⟩, .int .i64 a.cols, .slice A a.kids.length cap] := Blk.new _ _ _
 have hf1 : Fresh w (w.alloc (.cells #[.int .i64 a.kind, .string ⟨a.text.toArray⟩, .int .i64 a.cols, .slice A a.kids.length cap] 24)) := (Touch.refl _ _).alloc _
 generalize (w.alloc (.cells #[.int .i64 a.kind, .string ⟨a.text.toArray⟩, .int .i64 a.cols, .slice A a.kids.length cap] 24)) = W1 at hf1 hb1 ⊢
 have HF1 := hid hf1
 have g0 := cell_regrown (hb1.cell 0)
 have g1 := cell_regrown (hb1.cell 1)
 have g2 := cell_regrown (hb1.cell 2)
 have g3 := cell_regrown (hb1.cell 3)
 have hlt := hb1.lt
 clear hf1 hb1
 refine wp_region_mix [] [(0, true), (3, true), (1, false), (2, true), (4, false), (5, true), (6, true)] (by kernel_rfl) (fun _ _ d _ _ h => by cases d <;> exact h) (by kernel_rfl) ?_
 refine wpMix_last ?_
 repeat (refine wpSeq_plain rfl (fun K hK => ?_); go_simp; refine hK _ ?_; clear hK K)
 refine wpSeq_lone rfl (fun K hK => ?_)
 go_wp2_with fail
 refine (HARG.out _ _ (HR.out.fresh (HF1.out.drewN _))).mono ?_
 rintro _ W3 ⟨v, rfl, ho, hf⟩
 have HF3 := hid (show Fresh W1 W3 from Touch.ofN hf)
 obtain ⟨Av, cv, rfl⟩ := slice_owned ho
 clear ho hf
 go_wp2_with fail
 refine hK _ _ (growing_fresh HF3.out) ?_
 clear hK K
 repeat (refine wpSeq_plain rfl (fun K hK => ?_); go_simp; refine hK _ ?_; clear hK K)
 refine wpSeq_lone rfl (fun K hK => ?_)
 go_wp2_with fail
 refine (HROW.out _ _ (HR.out.fresh (HF1.out.trans HF3.out))).mono ?_
 rintro _ W4 ⟨v, rfl, ho, hf⟩
 have HF4 := hid (HF3.out.trans hf)
 obtain ⟨Ar, cr, rfl⟩ := slice_owned ho
 clear ho hf
 go_wp2_with fail
 refine hK _ _ (growing_fresh HF4.out) ?_
 clear hK K
 repeat (refine wpSeq_plain rfl (fun K hK => ?_); go_simp; refine hK _ ?_; clear hK K)
 refine wpSeq_end ?_
 cases hg : decide ((rowT a.kids).length < (argT a).length) with
 | false =>
  have HE := hid (show grp a = false from by rw [HB.out]; exact hg)
  go_wp2_with fail
  go_ret
  exact ⟨by rw [HE.out]; rfl, HF1.out.trans HF4.out⟩
 | true =>
  have HE := hid (show grp a = true from by rw [HB.out]; exact hg)
  go_wp2_with fail
  go_ret
  exact ⟨by rw [HE.out]; rfl, HF1.out.trans HF4.out⟩
def SlotsOf (n : Nd) (w : World) (e : Ending) (w' : World) : Prop :=
 ∃ v, e = .returned v ∧ w'.ownsRow w.heap.size 3 1 v (slotAt (segs n) 0).length (intVs (up (slotAt (segs n) 0))) ∧ Fresh w w'
theorem arg_bound (ks : List Nd) (h : ∀ b ∈ ks, IsRow b) (j : Nat) (hj : j < ks.length) {f : Nat} (hf : f ≤ 2 + 3 * Tr.countL (ks.take j)) : f + (argT ks[j]).length + 1 ≤ 2 + 3 * Tr.countL (ks.take (j + 1)) := by
 have h1 := argT_le ks[j] (h _ (List.getElem_mem hj))
 have h2 := Tr.count_pos ks[j]
 rw [Tr.countL_take ks j hj]
 omega
theorem row_bound (ks : List Nd) (h : ∀ b ∈ ks, IsRow b) (j : Nat) (hj : j < ks.length) {f : Nat} (hf : f ≤ 2 + 3 * Tr.countL (ks.take j)) : f + (rowT ks[j].kids).length ≤ 2 + 3 * Tr.countL (ks.take (j + 1)) := by
 have h1 := row_len ks[j] (h _ (List.getElem_mem hj))
 rw [Tr.countL_take ks j hj]
 omega
theorem row_less (a : Nd) (ha : IsRow a) : (rowT a.kids).length + 3 ≤ 3 * Tr.count a := by
 have := rowT_len a.kids fun x hx => item_len _ x (Nat.le_refl _) (ha.views x hx)
 have := Tr.count_kids a
 omega
theorem argAt_drop (ks : List Nd) (j f : Nat) (hj : j < ks.length) : argAt (ks.drop j) f = (f + (grp ks[j]).toNat) :: argAt (ks.drop (j + 1)) (f + (argT ks[j]).length) := by rw [List.drop_eq_getElem_cons hj, argAt]
theorem scAt_drop (ks : List Nd) (j f : Nat) (hj : j < ks.length) : scAt (ks.drop j) f = (f + 1 + (grp ks[j]).toNat) :: scAt (ks.drop (j + 1)) (f + 1 + (argT ks[j]).length) := by rw [List.drop_eq_getElem_cons hj, scAt]
theorem cellAt_drop (ks : List Nd) (j f : Nat) (hj : j < ks.length) : cellAt (ks.drop j) f = f :: cellAt (ks.drop (j + 1)) (f + (rowT ks[j].kids).length + 1) := by rw [List.drop_eq_getElem_cons hj, cellAt]
theorem argAt_end (ks : List Nd) (f : Nat) : argAt (ks.drop ks.length) f = [] := by rw [List.drop_length]; rfl
theorem scAt_end (ks : List Nd) (f : Nat) : scAt (ks.drop ks.length) f = [] := by rw [List.drop_length]; rfl
theorem cellAt_end (ks : List Nd) (f : Nat) : cellAt (ks.drop ks.length) f = [] := by rw [List.drop_length]; rfl
theorem argAt_len : ∀ (r : List Nd) (f : Nat), (argAt r f).length = r.length
 | [], _ => rfl
 | _ :: r, f => by rw [argAt, List.length_cons, List.length_cons, argAt_len r]
theorem slots_len (n : Nd) : (slotAt (segs n) 0).length = n.kids.length := by
 rw [Tr.slotAt_len]
 have := Tr.segs_rows n
 unfold Tr.rowsOf at this
 have h := congrArg List.length this
 rw [List.length_map] at h
 exact h
set_option maxRecDepth 100000 in
set_option maxHeartbeats 400000 in
theorem slots_plain (n : Nd) (sl : Value) (w : World) (hr : RepL w n.kids sl) (hrows : ∀ b ∈ n.kids, IsRow b) (hc : Tr.count n ≤ 800) (k12 : (n.kind == 12) = false) (k11 : (n.kind == 11) = false) (k6 : (n.kind == 6) = false) (k7 : (n.kind == 7) = false) (k8 : (n.kind == 8) = false) (k9 : (n.kind == 9) = false) :
  Calls Tryz.prog 103 #[nv n sl] w (SlotsOf n w) := by
 obtain ⟨A, cap, rfl⟩ := hr.slice
 obtain ⟨i, hi, hz0, hz1, hz2⟩ := info_parts infoInt
 have HR := hid hr
 have HROWS := hid hrows
 have HC := hid hc
 have HLN := hid (show n.kids.length ≤ 800 from by have := Tr.count_kids n; have := Tr.countL_len n.kids; omega)
 have HLK := hid (slots_len n)
 have HCN := hid (show Tr.countL n.kids ≤ 800 from by have := Tr.count_kids n; omega)
 clear hr hrows hc
 have HS := hid (show [] ++ argAt (n.kids.drop 0) 1 = slotAt (segs n) 0 from by
  rw [Tr.slot_args n (by simpa using k6) (by simpa using k7) (by simpa using k8) (by simpa using k9) (by simpa using k12) (by unfold Tr.round; rw [k11]; rfl)]; rfl)
 go_enter Tryz.func103, Tryz.ntmps103
 go_wp2_with fail
 have hf1 : Fresh w (w.alloc (.cells #[.int .i64 n.kind, .string ⟨n.text.toArray⟩, .int .i64 n.cols, .slice A n.kids.length cap] 24)) := (Touch.refl _ _).alloc _
 have hb1 : Blk (w.alloc (.cells #[.int .i64 n.kind, .string ⟨n.text.toArray⟩, .int .i64 n.cols, .slice A n.kids.length cap] 24)) w.heap.size 24 #[.int .i64 n.kind, .string ⟨n.text.toArray⟩, .int .i64 n.cols, .slice A n.kids.length cap] := Blk.new _ _ _
 generalize (w.alloc (.cells #[.int .i64 n.kind, .string ⟨n.text.toArray⟩, .int .i64 n.cols, .slice A n.kids.length cap] 24)) = W1 at hf1 hb1 ⊢
 have HF1 := hid hf1
 have HB1 := hid hb1
 clear hf1 hb1
 go_loopw [3, 4, 8] (fun o at_ i wr => ∃ (j f : Nat) (L : List Nat), i = .int .i64 j ∧ at_ = .int .i64 f ∧ j ≤ n.kids.length ∧ Hid (L ++ argAt (n.kids.drop j) f = slotAt (segs n) 0) ∧ Hid (f ≤ 2 + 3 * Tr.countL (n.kids.take j)) ∧ Hid (wr.ownsRow W1.heap.size 3 1 o L.length (intVs (up L))) ∧ Hid (Fresh W1 wr)) (fun _ _ i _ => n.kids.length - (intOf i).toNat)
 case atStart => exact ⟨0, 1, [], rfl, rfl, Nat.zero_le _, HS.out, by unfold Hid; omega, World.ownsRow_nil _ _ _ _, Touch.refl _ _⟩
 case round =>
  obtain ⟨j, f, L, rfl, rfl, hj, HL, HFB, HO, HF⟩ := hrel
  obtain ⟨Ao, co, rfl⟩ := slice_owned HO.out
  have HLL := hid (show L.length ≤ 800 from by have h1 := congrArg List.length HL.out; rw [HLK.out, List.length_append] at h1; have := HLN.out; omega)
  have HCT := hid (show Tr.countL (n.kids.take j) ≤ 800 from Nat.le_trans (Tr.countL_le n.kids j) HCN.out)
  by_cases c1 : j < n.kids.length
  ·have d1 : decide ((j : Int) < (n.kids.length : Int)) = true := by simp; omega
   have d1' : (j : Int) < (n.kids.length : Int) := by omega
   have d1n : decide (j < n.kids.length) = true := by simp; omega
   have hj8 : n.kids.length ≤ 800 := HLN.out
   have HCT2 := hid (show Tr.countL (n.kids.take (j + 1)) ≤ 800 from Nat.le_trans (Tr.countL_le n.kids (j + 1)) HCN.out)
   obtain ⟨g, o', sj, hAe, hg, m0, m1, m2, m3, hrj⟩ := HR.out.get j c1
   cases hAe
   have HRW := hid (HROWS.out _ (List.getElem_mem c1))
   have HCA := hid (show Tr.count n.kids[j] ≤ 800 from by have h1 := Tr.count_mem (List.getElem_mem c1); have h2 := Tr.count_kids n; have h3 := HC.out; omega)
   have HDR := hid (argAt_drop n.kids j f c1)
   have HBD := hid (arg_bound n.kids HROWS.out j c1 HFB.out)
   generalize n.kids[j] = a at m0 m1 m2 m3 hrj HRW HCA HDR HBD
   obtain ⟨Aj, cj, rfl⟩ := hrj.slice
   have HRJ := hid hrj
   have M0 := hid m0
   have M1 := hid m1
   have M2 := hid m2
   have M3 := hid m3
   clear m0 m1 m2 m3 hrj hg
   have qx := HF.out.cell (HB1.out.cell 3) (fun h => h)
   have a0x := (HF1.out.trans HF.out).cell M0.out (fun h => h)
   have a1x := (HF1.out.trans HF.out).cell M1.out (fun h => h)
   have a2x := (HF1.out.trans HF.out).cell M2.out (fun h => h)
   have a3x := (HF1.out.trans HF.out).cell M3.out (fun h => h)
   have hfb : f ≤ 10000 := by have h1 := HFB.out; have h2 := HCT.out; omega
   go_wp2_with fail
   refine (braced_any a HRW.out HCA.out _ _ (HRJ.out.fresh (HF1.out.trans HF.out))).mono ?_
   rintro _ W3 ⟨rfl, hf3⟩
   have HF3 := hid hf3
   have hgb : (grp a).toNat ≤ 1 := by cases grp a <;> simp
   generalize (grp a).toNat = gb at hgb HDR ⊢
   clear hf3 qx a0x a1x a2x a3x
   have qy := (HF.out.trans HF3.out).cell (HB1.out.cell 3) (fun h => h)
   have a0y := (HF1.out.trans (HF.out.trans HF3.out)).cell M0.out (fun h => h)
   have a1y := (HF1.out.trans (HF.out.trans HF3.out)).cell M1.out (fun h => h)
   have a2y := (HF1.out.trans (HF.out.trans HF3.out)).cell M2.out (fun h => h)
   have a3y := (HF1.out.trans (HF.out.trans HF3.out)).cell M3.out (fun h => h)
   go_wp2_with (at_builtin; refine wpList_append_src _ rfl (.tmp 147) (.tmp 156) 25 rfl W1.heap.size 3 i _ 1 8 rfl hi hz0 hz1 hz2 rfl (by decide) (.slice Ao L.length co) L.length (intVs (up L)) (by simp [Act.eval]) (ownsRow_touch HO.out (HF3.out.alloc _) (fun _ _ h => h)) (.slice (some ⟨W3.heap.size, 0, none⟩) 1 1) 1 [.int .i64 ((f : Int) + (gb : Int))] (by simp [Act.eval]) (Src.of_blk (Blk.new _ _ _) rfl) (by intro u hu; simp at hu; rw [hu]; rfl) (by have := HLL.out; unfold maxLen; omega) (by have := HLL.out; omega) (by have := HF3.out.size; have := HF.out.size; simp; omega) ?_; intro v8 W8 ho8 hg8 _; refine Stay.mk ?_)
   rw [up_snoc L (f + gb) _ (by simp)] at ho8
   have HF8 := hid (show Fresh W1 W8 from touch_grown (HF.out.trans (HF3.out.alloc _)) (ownsRow_touch HO.out (HF3.out.alloc _) (fun _ _ h => h)) (Nat.le_refl _) hg8)
   have HO8 := hid (show W8.ownsRow W1.heap.size 3 1 v8 (L ++ [f + gb]).length (intVs (up (L ++ [f + gb]))) from by rw [List.length_append]; exact ho8)
   obtain ⟨A8, c8, rfl⟩ := slice_owned ho8
   clear ho8 hg8
   refine Stay.go ?_
   clear qy a0y a1y a2y a3y
   have qz := HF8.out.cell (HB1.out.cell 3) (fun h => h)
   have a0z := (HF1.out.trans HF8.out).cell M0.out (fun h => h)
   have a1z := (HF1.out.trans HF8.out).cell M1.out (fun h => h)
   have a2z := (HF1.out.trans HF8.out).cell M2.out (fun h => h)
   have a3z := (HF1.out.trans HF8.out).cell M3.out (fun h => h)
   go_wp2_with fail
   refine (argOf a HRW.out HCA.out _ _ (HRJ.out.fresh (HF1.out.trans HF8.out))).mono ?_
   rintro _ W9 ⟨v9, rfl, ho9, hf9⟩
   have HF9 := hid (HF8.out.trans hf9)
   have HO9 := hid (ownsRow_touch HO8.out hf9 (fun _ _ h => h))
   obtain ⟨A9, c9, rfl⟩ := slice_owned ho9
   have HAL := hid (show (argT a).length ≤ 10000 from by have h1 := HBD.out; have h2 := HCT2.out; omega)
   have hal := HAL.out
   clear ho9 hf9 qz a0z a1z a2z a3z
   have qz := HF9.out.cell (HB1.out.cell 3) (fun h => h)
   go_wp2_with fail
   go_roundw
   case rel => exact ⟨j + 1, f + (argT a).length, L ++ [f + gb], by first | go_num | simp, by simp <;> omega, by omega, by unfold Hid; have h1 := HL.out; rw [HDR.out] at h1; rw [← h1]; simp, by have h1 := HBD.out; unfold Hid; omega, HO9, HF9⟩
   case measure => first | (simp [intOf]; omega) | (simp [intOf]; done)
  ·have d1 : decide ((j : Int) < (n.kids.length : Int)) = false := by simp; omega
   have d1n : decide (j < n.kids.length) = false := by simp; omega
   obtain rfl : j = n.kids.length := by omega
   have HE := hid (show L = slotAt (segs n) 0 from by have := HL.out; rwa [argAt_end, List.append_nil] at this)
   have qe := HF.out.cell (HB1.out.cell 3) (fun h => h)
   go_wp2_with fail
   go_ret
   refine ⟨_, rfl, ?_, HF1.out.trans HF.out⟩
   rw [← HE.out]
   exact ownsRow_low HO.out HF1.out.size
set_option maxRecDepth 100000 in
set_option maxHeartbeats 400000 in
theorem slots_fence (n : Nd) (sl : Value) (w : World) (hr : RepL w n.kids sl) (hrows : ∀ b ∈ n.kids, IsRow b) (hc : Tr.count n ≤ 800) (k11 : n.kind = 11) (t1 : (n.text == [40, 41]) = false) (t2 : (n.text == [91, 93]) = false) :
  Calls Tryz.prog 103 #[nv n sl] w (SlotsOf n w) := by
 obtain ⟨A, cap, rfl⟩ := hr.slice
 obtain ⟨i, hi, hz0, hz1, hz2⟩ := info_parts infoInt
 have HR := hid hr
 have HROWS := hid hrows
 have HC := hid hc
 have HLN := hid (show n.kids.length ≤ 800 from by have := Tr.count_kids n; have := Tr.countL_len n.kids; omega)
 have HLK := hid (slots_len n)
 have HCN := hid (show Tr.countL n.kids ≤ 800 from by have := Tr.count_kids n; omega)
 clear hr hrows hc
 have HS := hid (show [] ++ argAt (n.kids.drop 0) 1 = slotAt (segs n) 0 from by
  rw [Tr.slot_args n (by omega) (by omega) (by omega) (by omega) (by omega) (by unfold Tr.round; rw [t1, t2]; simp)]; rfl)
 have k1 : (n.kind == 12) = false := by rw [k11]; rfl
 have k2 : (n.kind == 11) = true := by rw [k11]; rfl
 have s1 : ((⟨n.text.toArray⟩ : ByteArray) == (⟨#[40, 41]⟩ : ByteArray)) = false := by rw [str_eq']; exact t1
 have s2 : ((⟨n.text.toArray⟩ : ByteArray) == (⟨#[91, 93]⟩ : ByteArray)) = false := by rw [str_eq']; exact t2
 have s3 : (ByteArray.toList ⟨n.text.toArray⟩ == [40, 41]) = false := by rw [ByteArray.toList_eq]; exact t1
 have s4 : (ByteArray.toList ⟨n.text.toArray⟩ == [91, 93]) = false := by rw [ByteArray.toList_eq]; exact t2
 clear k11
 go_enter Tryz.func103, Tryz.ntmps103
 go_wp2_with fail
 have hf1 : Fresh w (w.alloc (.cells #[.int .i64 n.kind, .string ⟨n.text.toArray⟩, .int .i64 n.cols, .slice A n.kids.length cap] 24)) := (Touch.refl _ _).alloc _
 have hb1 : Blk (w.alloc (.cells #[.int .i64 n.kind, .string ⟨n.text.toArray⟩, .int .i64 n.cols, .slice A n.kids.length cap] 24)) w.heap.size 24 #[.int .i64 n.kind, .string ⟨n.text.toArray⟩, .int .i64 n.cols, .slice A n.kids.length cap] := Blk.new _ _ _
 generalize (w.alloc (.cells #[.int .i64 n.kind, .string ⟨n.text.toArray⟩, .int .i64 n.cols, .slice A n.kids.length cap] 24)) = W1 at hf1 hb1 ⊢
 have HF1 := hid hf1
 have HB1 := hid hb1
 clear hf1 hb1
 go_loopw [3, 4, 8] (fun o at_ i wr => ∃ (j f : Nat) (L : List Nat), i = .int .i64 j ∧ at_ = .int .i64 f ∧ j ≤ n.kids.length ∧ Hid (L ++ argAt (n.kids.drop j) f = slotAt (segs n) 0) ∧ Hid (f ≤ 2 + 3 * Tr.countL (n.kids.take j)) ∧ Hid (wr.ownsRow W1.heap.size 3 1 o L.length (intVs (up L))) ∧ Hid (Fresh W1 wr)) (fun _ _ i _ => n.kids.length - (intOf i).toNat)
 case atStart => exact ⟨0, 1, [], rfl, rfl, Nat.zero_le _, HS.out, by unfold Hid; omega, World.ownsRow_nil _ _ _ _, Touch.refl _ _⟩
 case round =>
  obtain ⟨j, f, L, rfl, rfl, hj, HL, HFB, HO, HF⟩ := hrel
  obtain ⟨Ao, co, rfl⟩ := slice_owned HO.out
  have HLL := hid (show L.length ≤ 800 from by have h1 := congrArg List.length HL.out; rw [HLK.out, List.length_append] at h1; have := HLN.out; omega)
  have HCT := hid (show Tr.countL (n.kids.take j) ≤ 800 from Nat.le_trans (Tr.countL_le n.kids j) HCN.out)
  by_cases c1 : j < n.kids.length
  ·have d1 : decide ((j : Int) < (n.kids.length : Int)) = true := by simp; omega
   have d1' : (j : Int) < (n.kids.length : Int) := by omega
   have d1n : decide (j < n.kids.length) = true := by simp; omega
   have hj8 : n.kids.length ≤ 800 := HLN.out
   have HCT2 := hid (show Tr.countL (n.kids.take (j + 1)) ≤ 800 from Nat.le_trans (Tr.countL_le n.kids (j + 1)) HCN.out)
   obtain ⟨g, o', sj, hAe, hg, m0, m1, m2, m3, hrj⟩ := HR.out.get j c1
   cases hAe
   have HRW := hid (HROWS.out _ (List.getElem_mem c1))
   have HCA := hid (show Tr.count n.kids[j] ≤ 800 from by have h1 := Tr.count_mem (List.getElem_mem c1); have h2 := Tr.count_kids n; have h3 := HC.out; omega)
   have HDR := hid (argAt_drop n.kids j f c1)
   have HBD := hid (arg_bound n.kids HROWS.out j c1 HFB.out)
   generalize n.kids[j] = a at m0 m1 m2 m3 hrj HRW HCA HDR HBD
   obtain ⟨Aj, cj, rfl⟩ := hrj.slice
   have HRJ := hid hrj
   have M0 := hid m0
   have M1 := hid m1
   have M2 := hid m2
   have M3 := hid m3
   clear m0 m1 m2 m3 hrj hg
   have qx := HF.out.cell (HB1.out.cell 3) (fun h => h)
   have a0x := (HF1.out.trans HF.out).cell M0.out (fun h => h)
   have a1x := (HF1.out.trans HF.out).cell M1.out (fun h => h)
   have a2x := (HF1.out.trans HF.out).cell M2.out (fun h => h)
   have a3x := (HF1.out.trans HF.out).cell M3.out (fun h => h)
   have hfb : f ≤ 10000 := by have h1 := HFB.out; have h2 := HCT.out; omega
   go_wp2_with fail
   refine (braced_any a HRW.out HCA.out _ _ (HRJ.out.fresh (HF1.out.trans HF.out))).mono ?_
   rintro _ W3 ⟨rfl, hf3⟩
   have HF3 := hid hf3
   have hgb : (grp a).toNat ≤ 1 := by cases grp a <;> simp
   generalize (grp a).toNat = gb at hgb HDR ⊢
   clear hf3 qx a0x a1x a2x a3x
   have qy := (HF.out.trans HF3.out).cell (HB1.out.cell 3) (fun h => h)
   have a0y := (HF1.out.trans (HF.out.trans HF3.out)).cell M0.out (fun h => h)
   have a1y := (HF1.out.trans (HF.out.trans HF3.out)).cell M1.out (fun h => h)
   have a2y := (HF1.out.trans (HF.out.trans HF3.out)).cell M2.out (fun h => h)
   have a3y := (HF1.out.trans (HF.out.trans HF3.out)).cell M3.out (fun h => h)
   go_wp2_with (at_builtin; refine wpList_append_src _ rfl (.tmp 147) (.tmp 156) 25 rfl W1.heap.size 3 i _ 1 8 rfl hi hz0 hz1 hz2 rfl (by decide) (.slice Ao L.length co) L.length (intVs (up L)) (by simp [Act.eval]) (ownsRow_touch HO.out (HF3.out.alloc _) (fun _ _ h => h)) (.slice (some ⟨W3.heap.size, 0, none⟩) 1 1) 1 [.int .i64 ((f : Int) + (gb : Int))] (by simp [Act.eval]) (Src.of_blk (Blk.new _ _ _) rfl) (by intro u hu; simp at hu; rw [hu]; rfl) (by have := HLL.out; unfold maxLen; omega) (by have := HLL.out; omega) (by have := HF3.out.size; have := HF.out.size; simp; omega) ?_; intro v8 W8 ho8 hg8 _; refine Stay.mk ?_)
   rw [up_snoc L (f + gb) _ (by simp)] at ho8
   have HF8 := hid (show Fresh W1 W8 from touch_grown (HF.out.trans (HF3.out.alloc _)) (ownsRow_touch HO.out (HF3.out.alloc _) (fun _ _ h => h)) (Nat.le_refl _) hg8)
   have HO8 := hid (show W8.ownsRow W1.heap.size 3 1 v8 (L ++ [f + gb]).length (intVs (up (L ++ [f + gb]))) from by rw [List.length_append]; exact ho8)
   obtain ⟨A8, c8, rfl⟩ := slice_owned ho8
   clear ho8 hg8
   refine Stay.go ?_
   clear qy a0y a1y a2y a3y
   have qz := HF8.out.cell (HB1.out.cell 3) (fun h => h)
   have a0z := (HF1.out.trans HF8.out).cell M0.out (fun h => h)
   have a1z := (HF1.out.trans HF8.out).cell M1.out (fun h => h)
   have a2z := (HF1.out.trans HF8.out).cell M2.out (fun h => h)
   have a3z := (HF1.out.trans HF8.out).cell M3.out (fun h => h)
   go_wp2_with fail
   refine (argOf a HRW.out HCA.out _ _ (HRJ.out.fresh (HF1.out.trans HF8.out))).mono ?_
   rintro _ W9 ⟨v9, rfl, ho9, hf9⟩
   have HF9 := hid (HF8.out.trans hf9)
   have HO9 := hid (ownsRow_touch HO8.out hf9 (fun _ _ h => h))
   obtain ⟨A9, c9, rfl⟩ := slice_owned ho9
   have HAL := hid (show (argT a).length ≤ 10000 from by have h1 := HBD.out; have h2 := HCT2.out; omega)
   have hal := HAL.out
   clear ho9 hf9 qz a0z a1z a2z a3z
   have qz := HF9.out.cell (HB1.out.cell 3) (fun h => h)
   go_wp2_with fail
   go_roundw
   case rel => exact ⟨j + 1, f + (argT a).length, L ++ [f + gb], by first | go_num | simp, by simp <;> omega, by omega, by unfold Hid; have h1 := HL.out; rw [HDR.out] at h1; rw [← h1]; simp, by have h1 := HBD.out; unfold Hid; omega, HO9, HF9⟩
   case measure => first | (simp [intOf]; omega) | (simp [intOf]; done)
  ·have d1 : decide ((j : Int) < (n.kids.length : Int)) = false := by simp; omega
   have d1n : decide (j < n.kids.length) = false := by simp; omega
   obtain rfl : j = n.kids.length := by omega
   have HE := hid (show L = slotAt (segs n) 0 from by have := HL.out; rwa [argAt_end, List.append_nil] at this)
   have qe := HF.out.cell (HB1.out.cell 3) (fun h => h)
   go_wp2_with fail
   go_ret
   refine ⟨_, rfl, ?_, HF1.out.trans HF.out⟩
   rw [← HE.out]
   exact ownsRow_low HO.out HF1.out.size
set_option maxRecDepth 100000 in
set_option maxHeartbeats 400000 in
theorem slots_matrix (n : Nd) (sl : Value) (w : World) (hr : RepL w n.kids sl) (hrows : ∀ b ∈ n.kids, IsRow b) (hc : Tr.count n ≤ 800) (k12 : n.kind = 12) :
  Calls Tryz.prog 103 #[nv n sl] w (SlotsOf n w) := by
 obtain ⟨A, cap, rfl⟩ := hr.slice
 obtain ⟨i, hi, hz0, hz1, hz2⟩ := info_parts infoInt
 have HR := hid hr
 have HROWS := hid hrows
 have HC := hid hc
 have HLN := hid (show n.kids.length ≤ 800 from by have := Tr.count_kids n; have := Tr.countL_len n.kids; omega)
 have HLK := hid (slots_len n)
 have HCN := hid (show Tr.countL n.kids ≤ 800 from by have := Tr.count_kids n; omega)
 clear hr hrows hc
 have HS := hid (show [] ++ cellAt (n.kids.drop 0) 2 = slotAt (segs n) 0 from by rw [Tr.slot_matrix n k12]; rfl)
 have k1 : (n.kind == 12) = true := by rw [k12]; rfl
 clear k12
 go_enter Tryz.func103, Tryz.ntmps103
 go_wp2_with fail
 have hf1 : Fresh w (w.alloc (.cells #[.int .i64 n.kind, .string ⟨n.text.toArray⟩, .int .i64 n.cols, .slice A n.kids.length cap] 24)) := (Touch.refl _ _).alloc _
 have hb1 : Blk (w.alloc (.cells #[.int .i64 n.kind, .string ⟨n.text.toArray⟩, .int .i64 n.cols, .slice A n.kids.length cap] 24)) w.heap.size 24 #[.int .i64 n.kind, .string ⟨n.text.toArray⟩, .int .i64 n.cols, .slice A n.kids.length cap] := Blk.new _ _ _
 generalize (w.alloc (.cells #[.int .i64 n.kind, .string ⟨n.text.toArray⟩, .int .i64 n.cols, .slice A n.kids.length cap] 24)) = W1 at hf1 hb1 ⊢
 have HF1 := hid hf1
 have HB1 := hid hb1
 clear hf1 hb1
 go_loopw [3, 4, 5] (fun o at_ i wr => ∃ (j f : Nat) (L : List Nat), i = .int .i64 j ∧ at_ = .int .i64 f ∧ j ≤ n.kids.length ∧ Hid (L ++ cellAt (n.kids.drop j) f = slotAt (segs n) 0) ∧ Hid (f ≤ 2 + 3 * Tr.countL (n.kids.take j)) ∧ Hid (wr.ownsRow W1.heap.size 3 1 o L.length (intVs (up L))) ∧ Hid (Fresh W1 wr)) (fun _ _ i _ => n.kids.length - (intOf i).toNat)
 case atStart => exact ⟨0, 2, [], rfl, rfl, Nat.zero_le _, HS.out, by unfold Hid; omega, World.ownsRow_nil _ _ _ _, Touch.refl _ _⟩
 case round =>
  obtain ⟨j, f, L, rfl, rfl, hj, HL, HFB, HO, HF⟩ := hrel
  obtain ⟨Ao, co, rfl⟩ := slice_owned HO.out
  have HLL := hid (show L.length ≤ 800 from by have h1 := congrArg List.length HL.out; rw [HLK.out, List.length_append] at h1; have := HLN.out; omega)
  have HCT := hid (show Tr.countL (n.kids.take j) ≤ 800 from Nat.le_trans (Tr.countL_le n.kids j) HCN.out)
  by_cases c1 : j < n.kids.length
  ·have d1 : decide ((j : Int) < (n.kids.length : Int)) = true := by simp; omega
   have d1' : (j : Int) < (n.kids.length : Int) := by omega
   have d1n : decide (j < n.kids.length) = true := by simp; omega
   have hj8 : n.kids.length ≤ 800 := HLN.out
   have HCT2 := hid (show Tr.countL (n.kids.take (j + 1)) ≤ 800 from Nat.le_trans (Tr.countL_le n.kids (j + 1)) HCN.out)
   obtain ⟨g, o', sj, hAe, hg, m0, m1, m2, m3, hrj⟩ := HR.out.get j c1
   cases hAe
   have HRW := hid (HROWS.out _ (List.getElem_mem c1))
   have HCA := hid (show Tr.count n.kids[j] ≤ 800 from by have h1 := Tr.count_mem (List.getElem_mem c1); have h2 := Tr.count_kids n; have h3 := HC.out; omega)
   have HDR := hid (cellAt_drop n.kids j f c1)
   have HBD := hid (row_bound n.kids HROWS.out j c1 HFB.out)
   have HCX := hid (Tr.countL_take n.kids j c1)
   have HCP := hid (Tr.count_pos n.kids[j])
   have HRL := hid (row_less n.kids[j] (HROWS.out _ (List.getElem_mem c1)))
   generalize n.kids[j] = a at m0 m1 m2 m3 hrj HRW HCA HDR HBD HCX HCP HRL
   obtain ⟨Aj, cj, rfl⟩ := hrj.slice
   have HRJ := hid hrj
   have M0 := hid m0
   have M1 := hid m1
   have M2 := hid m2
   have M3 := hid m3
   clear m0 m1 m2 m3 hrj hg
   have qx := HF.out.cell (HB1.out.cell 3) (fun h => h)
   have a0x := (HF1.out.trans HF.out).cell M0.out (fun h => h)
   have a1x := (HF1.out.trans HF.out).cell M1.out (fun h => h)
   have a2x := (HF1.out.trans HF.out).cell M2.out (fun h => h)
   have a3x := (HF1.out.trans HF.out).cell M3.out (fun h => h)
   have hfb : f ≤ 10000 := by have h1 := HFB.out; have h2 := HCT.out; omega
   go_wp2_with (at_builtin; refine wpList_append_src _ rfl (.tmp 20) (.tmp 22) 25 rfl W1.heap.size 3 i _ 1 8 rfl hi hz0 hz1 hz2 rfl (by decide) (.slice Ao L.length co) L.length (intVs (up L)) (by simp [Act.eval]) (ownsRow_touch HO.out ((Touch.refl (fun _ => False) wr).alloc _) (fun _ _ h => h)) (.slice (some ⟨wr.heap.size, 0, none⟩) 1 1) 1 [.int .i64 ((f : Int))] (by simp [Act.eval]) (Src.of_blk (Blk.new _ _ _) rfl) (by intro u hu; simp at hu; rw [hu]; rfl) (by have := HLL.out; unfold maxLen; omega) (by have := HLL.out; omega) (by have := (Touch.refl (fun _ => False) wr).size; have := HF.out.size; simp; omega) ?_; intro v8 W8 ho8 hg8 _; refine Stay.mk ?_)
   rw [up_snoc L (f) _ (by simp)] at ho8
   have HF8 := hid (show Fresh W1 W8 from touch_grown (HF.out.trans ((Touch.refl (fun _ => False) wr).alloc _)) (ownsRow_touch HO.out ((Touch.refl (fun _ => False) wr).alloc _) (fun _ _ h => h)) (Nat.le_refl _) hg8)
   have HO8 := hid (show W8.ownsRow W1.heap.size 3 1 v8 (L ++ [f]).length (intVs (up (L ++ [f]))) from by rw [List.length_append]; exact ho8)
   obtain ⟨A8, c8, rfl⟩ := slice_owned ho8
   clear ho8 hg8
   refine Stay.go ?_
   clear qx a0x a1x a2x a3x
   have qz := HF8.out.cell (HB1.out.cell 3) (fun h => h)
   have a0z := (HF1.out.trans HF8.out).cell M0.out (fun h => h)
   have a1z := (HF1.out.trans HF8.out).cell M1.out (fun h => h)
   have a2z := (HF1.out.trans HF8.out).cell M2.out (fun h => h)
   have a3z := (HF1.out.trans HF8.out).cell M3.out (fun h => h)
   go_wp2_with fail
   refine (rowR a HRW.out (by have := HCA.out; omega) _ _ (HRJ.out.fresh (HF1.out.trans HF8.out))).mono ?_
   rintro _ W9 ⟨v9, rfl, ho9, hf9⟩
   have HF9 := hid (HF8.out.trans hf9)
   have HO9 := hid (ownsRow_touch HO8.out hf9 (fun _ _ h => h))
   obtain ⟨A9, c9, rfl⟩ := slice_owned ho9
   have hal : (rowT a.kids).length ≤ 10000 := by have h1 := HBD.out; have h2 := HCT2.out; omega
   clear ho9 hf9 qz a0z a1z a2z a3z
   have qz := HF9.out.cell (HB1.out.cell 3) (fun h => h)
   go_wp2_with fail
   go_roundw
   case rel => exact ⟨j + 1, f + (rowT a.kids).length + 1, L ++ [f], by first | go_num | simp, by simp <;> omega, by omega, by unfold Hid; have h1 := HL.out; rw [HDR.out] at h1; rw [← h1]; simp, by have h1 := HFB.out; have h2 := HCX.out; have h3 := HRL.out; unfold Hid; omega, HO9, HF9⟩
   case measure => first | (simp [intOf]; omega) | (simp [intOf]; done)
  ·have d1 : decide ((j : Int) < (n.kids.length : Int)) = false := by simp; omega
   have d1n : decide (j < n.kids.length) = false := by simp; omega
   obtain rfl : j = n.kids.length := by omega
   have HE := hid (show L = slotAt (segs n) 0 from by have := HL.out; rwa [cellAt_end, List.append_nil] at this)
   have qe := HF.out.cell (HB1.out.cell 3) (fun h => h)
   go_wp2_with fail
   go_ret
   refine ⟨_, rfl, ?_, HF1.out.trans HF.out⟩
   rw [← HE.out]
   exact ownsRow_low HO.out HF1.out.size
end Go.Proofs.YtdacpbdamliafaaGreat

/- The reference's slots of any item. -/
namespace Go.Proofs.YtdacpbdamliafaaGreat
open Go.RowKit
open Tr (Nd View IsRow grp bgrp rowT argT baseT itemT slotAt segs argAt scAt cellAt)
attribute [local go_sem] stillV stillUpon
theorem baseT_le (a : Nd) (ha : IsRow a) : (baseT a).length ≤ 3 * Tr.count a - 1 := baseT_len a fun x hx => item_len _ x (Nat.le_refl _) (ha.views x hx)
theorem own_ints {B i : Nat} (W : World) (l : List Nat) (hi : W.heap.size = i) (hB : B ≤ W.heap.size) (hl : l.length ≤ maxLen) : (W.alloc (.cells (intVs (up l)).toArray 3)).ownsRow B 3 1 (.slice (some ⟨i, 0, none⟩) l.length l.length) l.length (intVs (up l)) := by
 have := World.ownsRow_lit (base := B) (size := 1) (e := 3) W (intVs (up l)).toArray l.length hB hl (by simp)
 rw [hi] at this
 exact this
theorem bgrp_more (a : Nd) (h : a.kids.length ≠ 1) : bgrp a = true := by
 unfold bgrp
 split
 ·rename_i x hx; rw [hx] at h; simp at h
 ·rfl
theorem baseT_two (a : Nd) : (baseT a).length = 2 * (bgrp a).toNat + (rowT a.kids).length := by rw [Tr.baseT_grpLen]; cases bgrp a <;> simp
set_option maxRecDepth 100000 in
set_option maxHeartbeats 400000 in
theorem slots_sone (n : Nd) (sl : Value) (w : World) (hr : RepL w n.kids sl) (hrows : ∀ b ∈ n.kids, IsRow b) (hc : Tr.count n ≤ 800) (hk : n.kind = 7 ∨ n.kind = 8 ∨ n.kind = 9) (a0 : Nd) (r : List Nd) (hkr : n.kids = a0 :: r) (x : Nd) (hx : a0.kids = [x]) :
  Calls Tryz.prog 103 #[nv n sl] w (SlotsOf n w) := by
 obtain ⟨A, cap, rfl⟩ := hr.slice
 obtain ⟨i, hi, hz0, hz1, hz2⟩ := info_parts infoInt
 have HR := hid hr
 have HROWS := hid hrows
 have HC := hid hc
 have HLN := hid (show n.kids.length ≤ 800 from by have := Tr.count_kids n; have := Tr.countL_len n.kids; omega)
 have HLK := hid (slots_len n)
 have HCN := hid (show Tr.countL n.kids ≤ 800 from by have := Tr.count_kids n; omega)
 clear hr hrows hc
 have c0 : 0 < n.kids.length := by rw [hkr]; simp
 have hz : n.kids[0] = a0 := by simp [hkr]
 have c0' : (0 : Int) < (n.kids.length : Int) := by omega
 obtain ⟨g, o', sz, rfl, hg, z0, z1, z2, z3, hrz⟩ := HR.out.get 0 c0
 rw [hz] at z0 z1 z2 hrz
 simp only [Nat.zero_mul, Nat.add_zero] at z0 z1 z2 z3
 have HRW0 := hid (HROWS.out a0 (by rw [hkr]; simp))
 have HCA0 := hid (show Tr.count a0 ≤ 800 from by have h1 := Tr.count_mem (show a0 ∈ n.kids by rw [hkr]; simp); have h2 := Tr.count_kids n; have h3 := HC.out; omega)
 have HS := hid (show (bgrp a0).toNat :: scAt (n.kids.drop 1) (baseT a0).length = slotAt (segs n) 0 from by rw [Tr.slot_scripts n a0 r hkr hk, hkr]; rfl)
 have HBL := hid (baseT_two a0)
 have HT1 := hid (show (baseT a0).length ≤ 2 + 3 * Tr.countL (n.kids.take 1) from by have h1 := baseT_le a0 HRW0.out; rw [hkr]; simp only [List.take_succ_cons, List.take_zero, Tr.countL]; omega)
 have HRB := hid (show (rowT a0.kids).length ≤ 2400 from by have h1 := row_len a0 HRW0.out; have h2 := HCA0.out; omega)
 have e12 : (n.kind == 12) = false := by rcases hk with h | h | h <;> rw [h] <;> rfl
 have e11 : (n.kind == 11) = false := by rcases hk with h | h | h <;> rw [h] <;> rfl
 have e6 : (n.kind == 6) = false := by rcases hk with h | h | h <;> rw [h] <;> rfl
 have hk3 : (n.kind == 7) = true ∨ ((n.kind == 7) = false ∧ (n.kind == 8) = true) ∨ ((n.kind == 7) = false ∧ (n.kind == 8) = false ∧ (n.kind == 9) = true) := by rcases hk with h | h | h <;> simp [h]
 obtain ⟨gx, ox, capx, sx, rfl, x0, x1, x2, x3, hrx⟩ := (show RepL w [x] sz by rw [← hx]; exact hrz).one
 obtain ⟨Ax, cx, rfl⟩ := hrx.slice
 have hgx : gx < w.heap.size := block_lt_of_cell x0
 have hal : a0.kids.length = 1 := by rw [hx]; rfl
 have X0 := hid x0
 have X1 := hid x1
 have X2 := hid x2
 have X3 := hid x3
 have hgz : g < w.heap.size := block_lt_of_cell z0
 have Z0 := hid z0
 have Z1 := hid z1
 have Z2 := hid z2
 have Z3 := hid z3
 have HRZ := hid hrz
 have HX := hid hx
 clear hkr hz hg hrz hk hrx hx
 rcases hk3 with e7 | ⟨e7, e8⟩ | ⟨e7, e8, e9⟩
 all_goals
  go_enter Tryz.func103, Tryz.ntmps103
  go_wp2_with fail
  refine (rscript_any x (.slice Ax x.kids.length cx) _).mono ?_
  rintro _ W0 ⟨rfl, hf⟩
  have HF0 := hid (show Fresh w W0 from Touch.pre hf)
  have HB0 := hid (show Blk W0 w.heap.size 24 #[.int .i64 n.kind, .string ⟨n.text.toArray⟩, .int .i64 n.cols, .slice (some ⟨g, o', none⟩) n.kids.length cap] from hf.blk (Blk.new _ _ _) (fun h => h))
  clear hf x0 x1 x2 x3 z0 z1 z2 z3
  have qb := HB0.out.cell 3
  have z0b := HF0.out.cell Z0.out (fun h => h)
  have z1b := HF0.out.cell Z1.out (fun h => h)
  have z2b := HF0.out.cell Z2.out (fun h => h)
  have z3b := HF0.out.cell Z3.out (fun h => h)
  cases hsx : Tr.scripted x with
  | false =>
   have HBG := hid (show bgrp a0 = false from by unfold bgrp; rw [HX.out]; exact hsx)
   clear hsx
   have HE := hid (show bgrp a0 = false from HBG.out)
   go_wp2_with fail
   refine (rowR a0 HRW0.out (by have := HCA0.out; omega) _ _ (HRZ.out.fresh HF0.out)).mono ?_
   rintro _ W1 ⟨v1, rfl, ho1, hfr1⟩
   have HF1 := hid (show Fresh w W1 from HF0.out.trans hfr1)
   have HB1 := hid (show Blk W1 w.heap.size 24 #[.int .i64 n.kind, .string ⟨n.text.toArray⟩, .int .i64 n.cols, .slice (some ⟨g, o', none⟩) n.kids.length cap] from hfr1.blk HB0.out (fun h => h))
   obtain ⟨A1, c1, rfl⟩ := slice_owned ho1
   clear ho1 hfr1 qb z0b z1b z2b z3b
   have qq := HB1.out.cell 3
   have hbl := HRB.out
   go_wp2_with fail
   have HFX := hid (show (rowT a0.kids).length = (baseT a0).length from by have h1 := HBL.out; rw [HE.out] at h1; rw [h1]; simp only [Bool.toNat_false]; omega)
   go_loopw [3, 4, 7] (fun o at_ i wr => ∃ (j f : Nat) (L : List Nat), i = .int .i64 j ∧ at_ = .int .i64 f ∧ j ≤ n.kids.length ∧ Hid (L ++ scAt (n.kids.drop j) f = slotAt (segs n) 0) ∧ Hid (f ≤ 2 + 3 * Tr.countL (n.kids.take j)) ∧ Hid (wr.ownsRow W1.heap.size 3 1 o L.length (intVs (up L))) ∧ Hid (Fresh W1 wr)) (fun _ _ i _ => n.kids.length - (intOf i).toNat)
   case atStart => exact ⟨1, (baseT a0).length, [0], rfl, by rw [← HFX.out], by omega, by unfold Hid; have h1 := HS.out; rw [HE.out] at h1; exact h1, HT1, World.ownsRow_lit W1 #[.int .i64 (0 : Int)] 1 (Nat.le_refl _) (by decide) rfl, (Touch.refl _ _).alloc _⟩
   case round =>
    obtain ⟨j, f, L, rfl, rfl, hj, HL, HFB, HO, HF⟩ := hrel
    obtain ⟨Ao, co, rfl⟩ := slice_owned HO.out
    have HLL := hid (show L.length ≤ 800 from by have h1 := congrArg List.length HL.out; rw [HLK.out, List.length_append] at h1; have := HLN.out; omega)
    have HCT := hid (show Tr.countL (n.kids.take j) ≤ 800 from Nat.le_trans (Tr.countL_le n.kids j) HCN.out)
    by_cases c1 : j < n.kids.length
    ·have d1 : decide ((j : Int) < (n.kids.length : Int)) = true := by simp; omega
     have d1' : (j : Int) < (n.kids.length : Int) := by omega
     have d1n : decide (j < n.kids.length) = true := by simp; omega
     have hj8 : n.kids.length ≤ 800 := HLN.out
     have HCT2 := hid (show Tr.countL (n.kids.take (j + 1)) ≤ 800 from Nat.le_trans (Tr.countL_le n.kids (j + 1)) HCN.out)
     obtain ⟨g, o', sj, hAe, hg, m0, m1, m2, m3, hrj⟩ := HR.out.get j c1
     cases hAe
     have HRW := hid (HROWS.out _ (List.getElem_mem c1))
     have HCA := hid (show Tr.count n.kids[j] ≤ 800 from by have h1 := Tr.count_mem (List.getElem_mem c1); have h2 := Tr.count_kids n; have h3 := HC.out; omega)
     have HDR := hid (scAt_drop n.kids j f c1)
     have HBD := hid (arg_bound n.kids HROWS.out j c1 HFB.out)
     generalize n.kids[j] = a at m0 m1 m2 m3 hrj HRW HCA HDR HBD
     obtain ⟨Aj, cj, rfl⟩ := hrj.slice
     have HRJ := hid hrj
     have M0 := hid m0
     have M1 := hid m1
     have M2 := hid m2
     have M3 := hid m3
     clear m0 m1 m2 m3 hrj hg
     have qx := HF.out.cell (HB1.out.cell 3) (fun h => h)
     have a0x := (HF1.out.trans HF.out).cell M0.out (fun h => h)
     have a1x := (HF1.out.trans HF.out).cell M1.out (fun h => h)
     have a2x := (HF1.out.trans HF.out).cell M2.out (fun h => h)
     have a3x := (HF1.out.trans HF.out).cell M3.out (fun h => h)
     have hfb : f ≤ 10000 := by have h1 := HFB.out; have h2 := HCT.out; omega
     go_wp2_with fail
     refine (braced_any a HRW.out HCA.out _ _ (HRJ.out.fresh (HF1.out.trans HF.out))).mono ?_
     rintro _ W3 ⟨rfl, hf3⟩
     have HF3 := hid hf3
     have hgb : (grp a).toNat ≤ 1 := by cases grp a <;> simp
     generalize (grp a).toNat = gb at hgb HDR ⊢
     clear hf3 qx a0x a1x a2x a3x
     have qy := (HF.out.trans HF3.out).cell (HB1.out.cell 3) (fun h => h)
     have a0y := (HF1.out.trans (HF.out.trans HF3.out)).cell M0.out (fun h => h)
     have a1y := (HF1.out.trans (HF.out.trans HF3.out)).cell M1.out (fun h => h)
     have a2y := (HF1.out.trans (HF.out.trans HF3.out)).cell M2.out (fun h => h)
     have a3y := (HF1.out.trans (HF.out.trans HF3.out)).cell M3.out (fun h => h)
     go_wp2_with (at_builtin; refine wpList_append_src _ rfl (.tmp 117) (.tmp 127) 25 rfl W1.heap.size 3 i _ 1 8 rfl hi hz0 hz1 hz2 rfl (by decide) (.slice Ao L.length co) L.length (intVs (up L)) (by simp [Act.eval]) (ownsRow_touch HO.out (HF3.out.alloc _) (fun _ _ h => h)) (.slice (some ⟨W3.heap.size, 0, none⟩) 1 1) 1 [.int .i64 ((f : Int) + 1 + (gb : Int))] (by simp [Act.eval]) (Src.of_blk (Blk.new _ _ _) rfl) (by intro u hu; simp at hu; rw [hu]; rfl) (by have := HLL.out; unfold maxLen; omega) (by have := HLL.out; omega) (by have := HF3.out.size; have := HF.out.size; simp; omega) ?_; intro v8 W8 ho8 hg8 _; refine Stay.mk ?_)
     rw [up_snoc L (f + 1 + gb) _ (by simp)] at ho8
     have HF8 := hid (show Fresh W1 W8 from touch_grown (HF.out.trans (HF3.out.alloc _)) (ownsRow_touch HO.out (HF3.out.alloc _) (fun _ _ h => h)) (Nat.le_refl _) hg8)
     have HO8 := hid (show W8.ownsRow W1.heap.size 3 1 v8 (L ++ [f + 1 + gb]).length (intVs (up (L ++ [f + 1 + gb]))) from by rw [List.length_append]; exact ho8)
     obtain ⟨A8, c8, rfl⟩ := slice_owned ho8
     clear ho8 hg8
     refine Stay.go ?_
     clear qy a0y a1y a2y a3y
     have qz := HF8.out.cell (HB1.out.cell 3) (fun h => h)
     have a0z := (HF1.out.trans HF8.out).cell M0.out (fun h => h)
     have a1z := (HF1.out.trans HF8.out).cell M1.out (fun h => h)
     have a2z := (HF1.out.trans HF8.out).cell M2.out (fun h => h)
     have a3z := (HF1.out.trans HF8.out).cell M3.out (fun h => h)
     go_wp2_with fail
     refine (argOf a HRW.out HCA.out _ _ (HRJ.out.fresh (HF1.out.trans HF8.out))).mono ?_
     rintro _ W9 ⟨v9, rfl, ho9, hf9⟩
     have HF9 := hid (HF8.out.trans hf9)
     have HO9 := hid (ownsRow_touch HO8.out hf9 (fun _ _ h => h))
     obtain ⟨A9, c9, rfl⟩ := slice_owned ho9
     have HAL := hid (show (argT a).length ≤ 10000 from by have h1 := HBD.out; have h2 := HCT2.out; omega)
     have hal := HAL.out
     clear ho9 hf9 qz a0z a1z a2z a3z
     have qz := HF9.out.cell (HB1.out.cell 3) (fun h => h)
     go_wp2_with fail
     go_roundw
     case rel => exact ⟨j + 1, f + 1 + (argT a).length, L ++ [f + 1 + gb], by first | go_num | simp, by simp <;> omega, by omega, by unfold Hid; have h1 := HL.out; rw [HDR.out] at h1; rw [← h1]; simp, by have h1 := HBD.out; unfold Hid; omega, HO9, HF9⟩
     case measure => first | (simp [intOf]; omega) | (simp [intOf]; done)
    ·have d1 : decide ((j : Int) < (n.kids.length : Int)) = false := by simp; omega
     have d1n : decide (j < n.kids.length) = false := by simp; omega
     obtain rfl : j = n.kids.length := by omega
     have HE := hid (show L = slotAt (segs n) 0 from by have := HL.out; rwa [scAt_end, List.append_nil] at this)
     have qe := HF.out.cell (HB1.out.cell 3) (fun h => h)
     go_wp2_with fail
     go_ret
     refine ⟨_, rfl, ?_, HF1.out.trans HF.out⟩
     rw [← HE.out]
     exact ownsRow_low HO.out HF1.out.size
  | true =>
   have HBG := hid (show bgrp a0 = true from by unfold bgrp; rw [HX.out]; exact hsx)
   clear hsx
   have HE := hid (show bgrp a0 = true from HBG.out)
   go_wp2_with fail
   refine (rowR a0 HRW0.out (by have := HCA0.out; omega) _ _ (HRZ.out.fresh HF0.out)).mono ?_
   rintro _ W1 ⟨v1, rfl, ho1, hfr1⟩
   have HF1 := hid (show Fresh w W1 from HF0.out.trans hfr1)
   have HB1 := hid (show Blk W1 w.heap.size 24 #[.int .i64 n.kind, .string ⟨n.text.toArray⟩, .int .i64 n.cols, .slice (some ⟨g, o', none⟩) n.kids.length cap] from hfr1.blk HB0.out (fun h => h))
   obtain ⟨A1, c1, rfl⟩ := slice_owned ho1
   clear ho1 hfr1 qb z0b z1b z2b z3b
   have qq := HB1.out.cell 3
   have hbl := HRB.out
   go_wp2_with fail
   have HFX := hid (show (rowT a0.kids).length + 2 = (baseT a0).length from by have h1 := HBL.out; rw [HE.out] at h1; rw [h1]; simp only [Bool.toNat_true]; omega)
   go_loopw [3, 4, 7] (fun o at_ i wr => ∃ (j f : Nat) (L : List Nat), i = .int .i64 j ∧ at_ = .int .i64 f ∧ j ≤ n.kids.length ∧ Hid (L ++ scAt (n.kids.drop j) f = slotAt (segs n) 0) ∧ Hid (f ≤ 2 + 3 * Tr.countL (n.kids.take j)) ∧ Hid (wr.ownsRow W1.heap.size 3 1 o L.length (intVs (up L))) ∧ Hid (Fresh W1 wr)) (fun _ _ i _ => n.kids.length - (intOf i).toNat)
   case atStart => exact ⟨1, (baseT a0).length, [1], rfl, by rw [← HFX.out]; first | rfl | go_num | simp, by omega, by unfold Hid; have h1 := HS.out; rw [HE.out] at h1; exact h1, HT1, World.ownsRow_lit W1 #[.int .i64 (1 : Int)] 1 (Nat.le_refl _) (by decide) rfl, (Touch.refl _ _).alloc _⟩
   case round =>
    obtain ⟨j, f, L, rfl, rfl, hj, HL, HFB, HO, HF⟩ := hrel
    obtain ⟨Ao, co, rfl⟩ := slice_owned HO.out
    have HLL := hid (show L.length ≤ 800 from by have h1 := congrArg List.length HL.out; rw [HLK.out, List.length_append] at h1; have := HLN.out; omega)
    have HCT := hid (show Tr.countL (n.kids.take j) ≤ 800 from Nat.le_trans (Tr.countL_le n.kids j) HCN.out)
    by_cases c1 : j < n.kids.length
    ·have d1 : decide ((j : Int) < (n.kids.length : Int)) = true := by simp; omega
     have d1' : (j : Int) < (n.kids.length : Int) := by omega
     have d1n : decide (j < n.kids.length) = true := by simp; omega
     have hj8 : n.kids.length ≤ 800 := HLN.out
     have HCT2 := hid (show Tr.countL (n.kids.take (j + 1)) ≤ 800 from Nat.le_trans (Tr.countL_le n.kids (j + 1)) HCN.out)
     obtain ⟨g, o', sj, hAe, hg, m0, m1, m2, m3, hrj⟩ := HR.out.get j c1
     cases hAe
     have HRW := hid (HROWS.out _ (List.getElem_mem c1))
     have HCA := hid (show Tr.count n.kids[j] ≤ 800 from by have h1 := Tr.count_mem (List.getElem_mem c1); have h2 := Tr.count_kids n; have h3 := HC.out; omega)
     have HDR := hid (scAt_drop n.kids j f c1)
     have HBD := hid (arg_bound n.kids HROWS.out j c1 HFB.out)
     generalize n.kids[j] = a at m0 m1 m2 m3 hrj HRW HCA HDR HBD
     obtain ⟨Aj, cj, rfl⟩ := hrj.slice
     have HRJ := hid hrj
     have M0 := hid m0
     have M1 := hid m1
     have M2 := hid m2
     have M3 := hid m3
     clear m0 m1 m2 m3 hrj hg
     have qx := HF.out.cell (HB1.out.cell 3) (fun h => h)
     have a0x := (HF1.out.trans HF.out).cell M0.out (fun h => h)
     have a1x := (HF1.out.trans HF.out).cell M1.out (fun h => h)
     have a2x := (HF1.out.trans HF.out).cell M2.out (fun h => h)
     have a3x := (HF1.out.trans HF.out).cell M3.out (fun h => h)
     have hfb : f ≤ 10000 := by have h1 := HFB.out; have h2 := HCT.out; omega
     go_wp2_with fail
     refine (braced_any a HRW.out HCA.out _ _ (HRJ.out.fresh (HF1.out.trans HF.out))).mono ?_
     rintro _ W3 ⟨rfl, hf3⟩
     have HF3 := hid hf3
     have hgb : (grp a).toNat ≤ 1 := by cases grp a <;> simp
     generalize (grp a).toNat = gb at hgb HDR ⊢
     clear hf3 qx a0x a1x a2x a3x
     have qy := (HF.out.trans HF3.out).cell (HB1.out.cell 3) (fun h => h)
     have a0y := (HF1.out.trans (HF.out.trans HF3.out)).cell M0.out (fun h => h)
     have a1y := (HF1.out.trans (HF.out.trans HF3.out)).cell M1.out (fun h => h)
     have a2y := (HF1.out.trans (HF.out.trans HF3.out)).cell M2.out (fun h => h)
     have a3y := (HF1.out.trans (HF.out.trans HF3.out)).cell M3.out (fun h => h)
     go_wp2_with (at_builtin; refine wpList_append_src _ rfl (.tmp 117) (.tmp 127) 25 rfl W1.heap.size 3 i _ 1 8 rfl hi hz0 hz1 hz2 rfl (by decide) (.slice Ao L.length co) L.length (intVs (up L)) (by simp [Act.eval]) (ownsRow_touch HO.out (HF3.out.alloc _) (fun _ _ h => h)) (.slice (some ⟨W3.heap.size, 0, none⟩) 1 1) 1 [.int .i64 ((f : Int) + 1 + (gb : Int))] (by simp [Act.eval]) (Src.of_blk (Blk.new _ _ _) rfl) (by intro u hu; simp at hu; rw [hu]; rfl) (by have := HLL.out; unfold maxLen; omega) (by have := HLL.out; omega) (by have := HF3.out.size; have := HF.out.size; simp; omega) ?_; intro v8 W8 ho8 hg8 _; refine Stay.mk ?_)
     rw [up_snoc L (f + 1 + gb) _ (by simp)] at ho8
     have HF8 := hid (show Fresh W1 W8 from touch_grown (HF.out.trans (HF3.out.alloc _)) (ownsRow_touch HO.out (HF3.out.alloc _) (fun _ _ h => h)) (Nat.le_refl _) hg8)
     have HO8 := hid (show W8.ownsRow W1.heap.size 3 1 v8 (L ++ [f + 1 + gb]).length (intVs (up (L ++ [f + 1 + gb]))) from by rw [List.length_append]; exact ho8)
     obtain ⟨A8, c8, rfl⟩ := slice_owned ho8
     clear ho8 hg8
     refine Stay.go ?_
     clear qy a0y a1y a2y a3y
     have qz := HF8.out.cell (HB1.out.cell 3) (fun h => h)
     have a0z := (HF1.out.trans HF8.out).cell M0.out (fun h => h)
     have a1z := (HF1.out.trans HF8.out).cell M1.out (fun h => h)
     have a2z := (HF1.out.trans HF8.out).cell M2.out (fun h => h)
     have a3z := (HF1.out.trans HF8.out).cell M3.out (fun h => h)
     go_wp2_with fail
     refine (argOf a HRW.out HCA.out _ _ (HRJ.out.fresh (HF1.out.trans HF8.out))).mono ?_
     rintro _ W9 ⟨v9, rfl, ho9, hf9⟩
     have HF9 := hid (HF8.out.trans hf9)
     have HO9 := hid (ownsRow_touch HO8.out hf9 (fun _ _ h => h))
     obtain ⟨A9, c9, rfl⟩ := slice_owned ho9
     have HAL := hid (show (argT a).length ≤ 10000 from by have h1 := HBD.out; have h2 := HCT2.out; omega)
     have hal := HAL.out
     clear ho9 hf9 qz a0z a1z a2z a3z
     have qz := HF9.out.cell (HB1.out.cell 3) (fun h => h)
     go_wp2_with fail
     go_roundw
     case rel => exact ⟨j + 1, f + 1 + (argT a).length, L ++ [f + 1 + gb], by first | go_num | simp, by simp <;> omega, by omega, by unfold Hid; have h1 := HL.out; rw [HDR.out] at h1; rw [← h1]; simp, by have h1 := HBD.out; unfold Hid; omega, HO9, HF9⟩
     case measure => first | (simp [intOf]; omega) | (simp [intOf]; done)
    ·have d1 : decide ((j : Int) < (n.kids.length : Int)) = false := by simp; omega
     have d1n : decide (j < n.kids.length) = false := by simp; omega
     obtain rfl : j = n.kids.length := by omega
     have HE := hid (show L = slotAt (segs n) 0 from by have := HL.out; rwa [scAt_end, List.append_nil] at this)
     have qe := HF.out.cell (HB1.out.cell 3) (fun h => h)
     go_wp2_with fail
     go_ret
     refine ⟨_, rfl, ?_, HF1.out.trans HF.out⟩
     rw [← HE.out]
     exact ownsRow_low HO.out HF1.out.size
set_option maxRecDepth 100000 in
set_option maxHeartbeats 400000 in
theorem slots_smore (n : Nd) (sl : Value) (w : World) (hr : RepL w n.kids sl) (hrows : ∀ b ∈ n.kids, IsRow b) (hc : Tr.count n ≤ 800) (hk : n.kind = 7 ∨ n.kind = 8 ∨ n.kind = 9) (a0 : Nd) (r : List Nd) (hkr : n.kids = a0 :: r) (hx : a0.kids.length ≠ 1) :
  Calls Tryz.prog 103 #[nv n sl] w (SlotsOf n w) := by
 obtain ⟨A, cap, rfl⟩ := hr.slice
 obtain ⟨i, hi, hz0, hz1, hz2⟩ := info_parts infoInt
 have HR := hid hr
 have HROWS := hid hrows
 have HC := hid hc
 have HLN := hid (show n.kids.length ≤ 800 from by have := Tr.count_kids n; have := Tr.countL_len n.kids; omega)
 have HLK := hid (slots_len n)
 have HCN := hid (show Tr.countL n.kids ≤ 800 from by have := Tr.count_kids n; omega)
 clear hr hrows hc
 have c0 : 0 < n.kids.length := by rw [hkr]; simp
 have hz : n.kids[0] = a0 := by simp [hkr]
 have c0' : (0 : Int) < (n.kids.length : Int) := by omega
 obtain ⟨g, o', sz, rfl, hg, z0, z1, z2, z3, hrz⟩ := HR.out.get 0 c0
 rw [hz] at z0 z1 z2 hrz
 simp only [Nat.zero_mul, Nat.add_zero] at z0 z1 z2 z3
 have HRW0 := hid (HROWS.out a0 (by rw [hkr]; simp))
 have HCA0 := hid (show Tr.count a0 ≤ 800 from by have h1 := Tr.count_mem (show a0 ∈ n.kids by rw [hkr]; simp); have h2 := Tr.count_kids n; have h3 := HC.out; omega)
 have HS := hid (show (bgrp a0).toNat :: scAt (n.kids.drop 1) (baseT a0).length = slotAt (segs n) 0 from by rw [Tr.slot_scripts n a0 r hkr hk, hkr]; rfl)
 have HBL := hid (baseT_two a0)
 have HT1 := hid (show (baseT a0).length ≤ 2 + 3 * Tr.countL (n.kids.take 1) from by have h1 := baseT_le a0 HRW0.out; rw [hkr]; simp only [List.take_succ_cons, List.take_zero, Tr.countL]; omega)
 have HRB := hid (show (rowT a0.kids).length ≤ 2400 from by have h1 := row_len a0 HRW0.out; have h2 := HCA0.out; omega)
 have e12 : (n.kind == 12) = false := by rcases hk with h | h | h <;> rw [h] <;> rfl
 have e11 : (n.kind == 11) = false := by rcases hk with h | h | h <;> rw [h] <;> rfl
 have e6 : (n.kind == 6) = false := by rcases hk with h | h | h <;> rw [h] <;> rfl
 have hk3 : (n.kind == 7) = true ∨ ((n.kind == 7) = false ∧ (n.kind == 8) = true) ∨ ((n.kind == 7) = false ∧ (n.kind == 8) = false ∧ (n.kind == 9) = true) := by rcases hk with h | h | h <;> simp [h]
 have hal := hrz.len
 unfold maxLen at hal
 obtain ⟨Ay, cy, rfl⟩ := hrz.slice
 have b1 : ((a0.kids.length : Int) == (1 : Int)) = false := by rw [beq_eq_false_iff_ne]; omega
 have b2 : (a0.kids.length == 1) = false := by simpa using hx
 have hgz : g < w.heap.size := block_lt_of_cell z0
 have Z0 := hid z0
 have Z1 := hid z1
 have Z2 := hid z2
 have Z3 := hid z3
 have HRZ := hid hrz
 have HX := hid hx
 clear hkr hz hg hrz hk hx
 rcases hk3 with e7 | ⟨e7, e8⟩ | ⟨e7, e8, e9⟩
 all_goals
  go_enter Tryz.func103, Tryz.ntmps103
  go_wp2_with fail
  have HBG := hid (bgrp_more a0 HX.out)
  have HE := hid (show bgrp a0 = true from HBG.out)
  go_wp2_with fail
  refine (rowR a0 HRW0.out (by have := HCA0.out; omega) _ _ (HRZ.out.fresh ((Touch.refl _ _).alloc _))).mono ?_
  rintro _ W1 ⟨v1, rfl, ho1, hfr1⟩
  have HF1 := hid (show Fresh w W1 from ((Touch.refl _ _).alloc _).trans hfr1)
  have HB1 := hid (show Blk W1 w.heap.size 24 #[.int .i64 n.kind, .string ⟨n.text.toArray⟩, .int .i64 n.cols, .slice (some ⟨g, o', none⟩) n.kids.length cap] from hfr1.blk (Blk.new _ _ _) (fun h => h))
  obtain ⟨A1, c1, rfl⟩ := slice_owned ho1
  clear ho1 hfr1 z0 z1 z2 z3
  have qq := HB1.out.cell 3
  have hbl := HRB.out
  go_wp2_with fail
  have HFX := hid (show (rowT a0.kids).length + 2 = (baseT a0).length from by have h1 := HBL.out; rw [HE.out] at h1; rw [h1]; simp only [Bool.toNat_true]; omega)
  go_loopw [3, 4, 7] (fun o at_ i wr => ∃ (j f : Nat) (L : List Nat), i = .int .i64 j ∧ at_ = .int .i64 f ∧ j ≤ n.kids.length ∧ Hid (L ++ scAt (n.kids.drop j) f = slotAt (segs n) 0) ∧ Hid (f ≤ 2 + 3 * Tr.countL (n.kids.take j)) ∧ Hid (wr.ownsRow W1.heap.size 3 1 o L.length (intVs (up L))) ∧ Hid (Fresh W1 wr)) (fun _ _ i _ => n.kids.length - (intOf i).toNat)
  case atStart => exact ⟨1, (baseT a0).length, [1], rfl, by rw [← HFX.out]; first | rfl | go_num | simp, by omega, by unfold Hid; have h1 := HS.out; rw [HE.out] at h1; exact h1, HT1, World.ownsRow_lit W1 #[.int .i64 (1 : Int)] 1 (Nat.le_refl _) (by decide) rfl, (Touch.refl _ _).alloc _⟩
  case round =>
   obtain ⟨j, f, L, rfl, rfl, hj, HL, HFB, HO, HF⟩ := hrel
   obtain ⟨Ao, co, rfl⟩ := slice_owned HO.out
   have HLL := hid (show L.length ≤ 800 from by have h1 := congrArg List.length HL.out; rw [HLK.out, List.length_append] at h1; have := HLN.out; omega)
   have HCT := hid (show Tr.countL (n.kids.take j) ≤ 800 from Nat.le_trans (Tr.countL_le n.kids j) HCN.out)
   by_cases c1 : j < n.kids.length
   ·have d1 : decide ((j : Int) < (n.kids.length : Int)) = true := by simp; omega
    have d1' : (j : Int) < (n.kids.length : Int) := by omega
    have d1n : decide (j < n.kids.length) = true := by simp; omega
    have hj8 : n.kids.length ≤ 800 := HLN.out
    have HCT2 := hid (show Tr.countL (n.kids.take (j + 1)) ≤ 800 from Nat.le_trans (Tr.countL_le n.kids (j + 1)) HCN.out)
    obtain ⟨g, o', sj, hAe, hg, m0, m1, m2, m3, hrj⟩ := HR.out.get j c1
    cases hAe
    have HRW := hid (HROWS.out _ (List.getElem_mem c1))
    have HCA := hid (show Tr.count n.kids[j] ≤ 800 from by have h1 := Tr.count_mem (List.getElem_mem c1); have h2 := Tr.count_kids n; have h3 := HC.out; omega)
    have HDR := hid (scAt_drop n.kids j f c1)
    have HBD := hid (arg_bound n.kids HROWS.out j c1 HFB.out)
    generalize n.kids[j] = a at m0 m1 m2 m3 hrj HRW HCA HDR HBD
    obtain ⟨Aj, cj, rfl⟩ := hrj.slice
    have HRJ := hid hrj
    have M0 := hid m0
    have M1 := hid m1
    have M2 := hid m2
    have M3 := hid m3
    clear m0 m1 m2 m3 hrj hg
    have qx := HF.out.cell (HB1.out.cell 3) (fun h => h)
    have a0x := (HF1.out.trans HF.out).cell M0.out (fun h => h)
    have a1x := (HF1.out.trans HF.out).cell M1.out (fun h => h)
    have a2x := (HF1.out.trans HF.out).cell M2.out (fun h => h)
    have a3x := (HF1.out.trans HF.out).cell M3.out (fun h => h)
    have hfb : f ≤ 10000 := by have h1 := HFB.out; have h2 := HCT.out; omega
    go_wp2_with fail
    refine (braced_any a HRW.out HCA.out _ _ (HRJ.out.fresh (HF1.out.trans HF.out))).mono ?_
    rintro _ W3 ⟨rfl, hf3⟩
    have HF3 := hid hf3
    have hgb : (grp a).toNat ≤ 1 := by cases grp a <;> simp
    generalize (grp a).toNat = gb at hgb HDR ⊢
    clear hf3 qx a0x a1x a2x a3x
    have qy := (HF.out.trans HF3.out).cell (HB1.out.cell 3) (fun h => h)
    have a0y := (HF1.out.trans (HF.out.trans HF3.out)).cell M0.out (fun h => h)
    have a1y := (HF1.out.trans (HF.out.trans HF3.out)).cell M1.out (fun h => h)
    have a2y := (HF1.out.trans (HF.out.trans HF3.out)).cell M2.out (fun h => h)
    have a3y := (HF1.out.trans (HF.out.trans HF3.out)).cell M3.out (fun h => h)
    go_wp2_with (at_builtin; refine wpList_append_src _ rfl (.tmp 117) (.tmp 127) 25 rfl W1.heap.size 3 i _ 1 8 rfl hi hz0 hz1 hz2 rfl (by decide) (.slice Ao L.length co) L.length (intVs (up L)) (by simp [Act.eval]) (ownsRow_touch HO.out (HF3.out.alloc _) (fun _ _ h => h)) (.slice (some ⟨W3.heap.size, 0, none⟩) 1 1) 1 [.int .i64 ((f : Int) + 1 + (gb : Int))] (by simp [Act.eval]) (Src.of_blk (Blk.new _ _ _) rfl) (by intro u hu; simp at hu; rw [hu]; rfl) (by have := HLL.out; unfold maxLen; omega) (by have := HLL.out; omega) (by have := HF3.out.size; have := HF.out.size; simp; omega) ?_; intro v8 W8 ho8 hg8 _; refine Stay.mk ?_)
    rw [up_snoc L (f + 1 + gb) _ (by simp)] at ho8
    have HF8 := hid (show Fresh W1 W8 from touch_grown (HF.out.trans (HF3.out.alloc _)) (ownsRow_touch HO.out (HF3.out.alloc _) (fun _ _ h => h)) (Nat.le_refl _) hg8)
    have HO8 := hid (show W8.ownsRow W1.heap.size 3 1 v8 (L ++ [f + 1 + gb]).length (intVs (up (L ++ [f + 1 + gb]))) from by rw [List.length_append]; exact ho8)
    obtain ⟨A8, c8, rfl⟩ := slice_owned ho8
    clear ho8 hg8
    refine Stay.go ?_
    clear qy a0y a1y a2y a3y
    have qz := HF8.out.cell (HB1.out.cell 3) (fun h => h)
    have a0z := (HF1.out.trans HF8.out).cell M0.out (fun h => h)
    have a1z := (HF1.out.trans HF8.out).cell M1.out (fun h => h)
    have a2z := (HF1.out.trans HF8.out).cell M2.out (fun h => h)
    have a3z := (HF1.out.trans HF8.out).cell M3.out (fun h => h)
    go_wp2_with fail
    refine (argOf a HRW.out HCA.out _ _ (HRJ.out.fresh (HF1.out.trans HF8.out))).mono ?_
    rintro _ W9 ⟨v9, rfl, ho9, hf9⟩
    have HF9 := hid (HF8.out.trans hf9)
    have HO9 := hid (ownsRow_touch HO8.out hf9 (fun _ _ h => h))
    obtain ⟨A9, c9, rfl⟩ := slice_owned ho9
    have HAL := hid (show (argT a).length ≤ 10000 from by have h1 := HBD.out; have h2 := HCT2.out; omega)
    have hal := HAL.out
    clear ho9 hf9 qz a0z a1z a2z a3z
    have qz := HF9.out.cell (HB1.out.cell 3) (fun h => h)
    go_wp2_with fail
    go_roundw
    case rel => exact ⟨j + 1, f + 1 + (argT a).length, L ++ [f + 1 + gb], by first | go_num | simp, by simp <;> omega, by omega, by unfold Hid; have h1 := HL.out; rw [HDR.out] at h1; rw [← h1]; simp, by have h1 := HBD.out; unfold Hid; omega, HO9, HF9⟩
    case measure => first | (simp [intOf]; omega) | (simp [intOf]; done)
   ·have d1 : decide ((j : Int) < (n.kids.length : Int)) = false := by simp; omega
    have d1n : decide (j < n.kids.length) = false := by simp; omega
    obtain rfl : j = n.kids.length := by omega
    have HE := hid (show L = slotAt (segs n) 0 from by have := HL.out; rwa [scAt_end, List.append_nil] at this)
    have qe := HF.out.cell (HB1.out.cell 3) (fun h => h)
    go_wp2_with fail
    go_ret
    refine ⟨_, rfl, ?_, HF1.out.trans HF.out⟩
    rw [← HE.out]
    exact ownsRow_low HO.out HF1.out.size
set_option maxRecDepth 100000 in
set_option maxHeartbeats 400000 in
theorem slots_rootfull (n : Nd) (sl : Value) (w : World) (hr : RepL w n.kids sl) (hrows : ∀ b ∈ n.kids, IsRow b) (hc : Tr.count n ≤ 800) (k6 : n.kind = 6) (a b : Nd) (hkr : n.kids = [a, b]) (hx : a.kids ≠ []) :
  Calls Tryz.prog 103 #[nv n sl] w (SlotsOf n w) := by
 have HS := hid (Tr.slot_root n a b hkr k6)
 rw [if_neg hx] at HS
 have HRA := hid (hrows a (by rw [hkr]; simp))
 have HRB := hid (hrows b (by rw [hkr]; simp))
 have hca : Tr.count a + Tr.count b < Tr.count n := by have := Tr.count_kids n; rw [hkr] at this; simp only [Tr.countL] at this; omega
 have HCA := hid (show Tr.count a ≤ 800 from by omega)
 have HCB := hid (show Tr.count b ≤ 800 from by omega)
 obtain ⟨i, hi, hz0, hz1, hz2⟩ := info_parts infoInt
 obtain ⟨g, o', cap, sa, sb, rfl, a0, a1, a2, a3, hra, b0, b1, b2, b3, hrb⟩ := (show RepL w [a, b] sl by rw [← hkr]; exact hr).two
 obtain ⟨Aa, ca, rfl⟩ := hra.slice
 obtain ⟨Ab, cb, rfl⟩ := hrb.slice
 have hgz : g < w.heap.size := block_lt_of_cell a0
 have hal : a.kids.length ≤ 800 := by have h1 := Tr.count_kids a; have h2 := Tr.countL_len a.kids; omega
 have hpos : 0 < a.kids.length := by exact List.length_pos_iff.2 hx
 have d1 : ((a.kids.length : Int) == (0 : Int)) = false := by rw [beq_eq_false_iff_ne]; omega
 have d2 : (a.kids.length == 0) = false := by rw [beq_eq_false_iff_ne]; omega
 have e12 : (n.kind == 12) = false := by rw [k6]; rfl
 have e11 : (n.kind == 11) = false := by rw [k6]; rfl
 have e6 : (n.kind == 6) = true := by rw [k6]; rfl
 have HLR := hid (show (rowT a.kids).length ≤ 2400 from by have := row_len a HRA.out; have := HCA.out; omega)
 have HRZ := hid hra
 have HRY := hid hrb
 have M0 := hid b0
 have M1 := hid b1
 have M2 := hid b2
 have M3 := hid b3
 clear hr hrows hc hra hrb hx hpos k6 hkr
 go_enter Tryz.func103, Tryz.ntmps103
 go_wp2_with fail
 refine (rowR a HRA.out (by have := HCA.out; omega) _ _ (HRZ.out.fresh ((Touch.refl _ _).alloc _))).mono ?_
 rintro _ W1 ⟨v1, rfl, ho1, hfr1⟩
 have HF1 := hid (show Fresh w W1 from Touch.pre hfr1)
 have HB1 := hid (show Blk W1 w.heap.size 24 #[.int .i64 n.kind, .string ⟨n.text.toArray⟩, .int .i64 n.cols, .slice (some ⟨g, o', none⟩) 2 cap] from hfr1.blk (Blk.new _ _ _) (fun h => h))
 obtain ⟨A1, c1, rfl⟩ := slice_owned ho1
 clear ho1 hfr1 a0 a1 a2 a3 b0 b1 b2 b3
 have qq := HB1.out.cell 3
 have z0 := HF1.out.cell M0.out (fun h => h)
 have z1 := HF1.out.cell M1.out (fun h => h)
 have z2 := HF1.out.cell M2.out (fun h => h)
 have z3 := HF1.out.cell M3.out (fun h => h)
 have hlr := HLR.out
 go_wp2_with fail
 refine (braced_any b HRB.out HCB.out _ _ (HRY.out.fresh HF1.out)).mono ?_
 rintro _ W2 ⟨rfl, hf2⟩
 have HF2 := hid (show Fresh w W2 from HF1.out.trans hf2)
 have hgb : (grp b).toNat ≤ 1 := by cases grp b <;> simp
 generalize hgq : (grp b).toNat = gb at hgb HS ⊢
 clear hf2 hgq
 go_wp2_with fail
 go_ret
 refine ⟨_, rfl, ?_, HF2.out.trans ((Touch.refl _ _).alloc _)⟩
 rw [HS.out]
 exact ownsRow_low (World.ownsRow_lit W2 #[.int .i64 2, .int .i64 _] 2 (Nat.le_refl _) (by decide) rfl |> fun h => by simpa using h) HF2.out.size
set_option maxRecDepth 100000 in
set_option maxHeartbeats 400000 in
theorem slots_rootbare (n : Nd) (sl : Value) (w : World) (hr : RepL w n.kids sl) (hrows : ∀ b ∈ n.kids, IsRow b) (hc : Tr.count n ≤ 800) (k6 : n.kind = 6) (a b : Nd) (hkr : n.kids = [a, b]) (hx : a.kids = []) :
  Calls Tryz.prog 103 #[nv n sl] w (SlotsOf n w) := by
 have HS := hid (Tr.slot_root n a b hkr k6)
 rw [if_pos hx] at HS
 have HRA := hid (hrows a (by rw [hkr]; simp))
 have HRB := hid (hrows b (by rw [hkr]; simp))
 have hca : Tr.count a + Tr.count b < Tr.count n := by have := Tr.count_kids n; rw [hkr] at this; simp only [Tr.countL] at this; omega
 have HCA := hid (show Tr.count a ≤ 800 from by omega)
 have HCB := hid (show Tr.count b ≤ 800 from by omega)
 obtain ⟨i, hi, hz0, hz1, hz2⟩ := info_parts infoInt
 obtain ⟨g, o', cap, sa, sb, rfl, a0, a1, a2, a3, hra, b0, b1, b2, b3, hrb⟩ := (show RepL w [a, b] sl by rw [← hkr]; exact hr).two
 obtain ⟨Aa, ca, rfl⟩ := hra.slice
 obtain ⟨Ab, cb, rfl⟩ := hrb.slice
 have hgz : g < w.heap.size := block_lt_of_cell a0
 have hal : a.kids.length ≤ 800 := by have h1 := Tr.count_kids a; have h2 := Tr.countL_len a.kids; omega
 have hpos : a.kids.length = 0 := by rw [hx]; rfl
 have d1 : ((a.kids.length : Int) == (0 : Int)) = true := by rw [hpos]; rfl
 have d2 : (a.kids.length == 0) = true := by rw [hpos]; rfl
 have e12 : (n.kind == 12) = false := by rw [k6]; rfl
 have e11 : (n.kind == 11) = false := by rw [k6]; rfl
 have e6 : (n.kind == 6) = true := by rw [k6]; rfl
 have HLR := hid (show (rowT a.kids).length ≤ 2400 from by have := row_len a HRA.out; have := HCA.out; omega)
 have HRZ := hid hra
 have HRY := hid hrb
 have M0 := hid b0
 have M1 := hid b1
 have M2 := hid b2
 have M3 := hid b3
 clear hr hrows hc hra hrb hx hpos k6 hkr
 go_enter Tryz.func103, Tryz.ntmps103
 go_wp2_with fail
 refine (braced_any b HRB.out HCB.out _ _ (HRY.out.fresh ((Touch.refl _ _).alloc _))).mono ?_
 rintro _ W2 ⟨rfl, hf2⟩
 have HF2 := hid (show Fresh w W2 from Touch.pre hf2)
 have hgb : (grp b).toNat ≤ 1 := by cases grp b <;> simp
 generalize hgq : (grp b).toNat = gb at hgb HS ⊢
 clear hf2 hgq
 go_wp2_with fail
 go_ret
 refine ⟨_, rfl, ?_, HF2.out.trans ((Touch.refl _ _).alloc _)⟩
 rw [HS.out]
 exact ownsRow_low (World.ownsRow_lit W2 #[.int .i64 1, .int .i64 _] 2 (Nat.le_refl _) (by decide) rfl |> fun h => by simpa using h) HF2.out.size
set_option maxRecDepth 100000 in
set_option maxHeartbeats 400000 in
theorem slots_round0 (n : Nd) (sl : Value) (w : World) (hr : RepL w n.kids sl) (_hrows : ∀ b ∈ n.kids, IsRow b) (_hc : Tr.count n ≤ 800) (k11 : n.kind = 11) (a : Nd) (hkr : n.kids = [a]) (ht : n.text = [40, 41]) :
  Calls Tryz.prog 103 #[nv n sl] w (SlotsOf n w) := by
 have HS := hid (Tr.slot_round n a hkr (by unfold Tr.round; rw [k11, ht]; decide))
 obtain ⟨i, hi, hz0, hz1, hz2⟩ := info_parts infoInt
 obtain ⟨A, cap, rfl⟩ := hr.slice
 have k1 : (n.kind == 12) = false := by rw [k11]; rfl
 have k2 : (n.kind == 11) = true := by rw [k11]; rfl
 have t1 : (n.text == [40, 41]) = true := by rw [ht]; rfl
 have t2 : (n.text == [91, 93]) = false := by rw [ht]; rfl
 have s1 : ((⟨n.text.toArray⟩ : ByteArray) == (⟨#[40, 41]⟩ : ByteArray)) = true := by rw [str_eq']; exact t1
 have s2 : ((⟨n.text.toArray⟩ : ByteArray) == (⟨#[91, 93]⟩ : ByteArray)) = false := by rw [str_eq']; exact t2
 have s3 : (ByteArray.toList ⟨n.text.toArray⟩ == [40, 41]) = true := by rw [ByteArray.toList_eq]; exact t1
 have s4 : (ByteArray.toList ⟨n.text.toArray⟩ == [91, 93]) = false := by rw [ByteArray.toList_eq]; exact t2
 clear k11 ht hr hkr
 go_enter Tryz.func103, Tryz.ntmps103
 go_wp2_with fail
 go_ret
 refine ⟨_, rfl, ?_, ((Touch.refl _ _).alloc _).alloc _⟩
 rw [HS.out]
 exact own_ints (w.alloc _) [1] (by simp) (by simp) (by decide)
set_option maxRecDepth 100000 in
set_option maxHeartbeats 400000 in
theorem slots_round1 (n : Nd) (sl : Value) (w : World) (hr : RepL w n.kids sl) (_hrows : ∀ b ∈ n.kids, IsRow b) (_hc : Tr.count n ≤ 800) (k11 : n.kind = 11) (a : Nd) (hkr : n.kids = [a]) (ht : n.text = [91, 93]) :
  Calls Tryz.prog 103 #[nv n sl] w (SlotsOf n w) := by
 have HS := hid (Tr.slot_round n a hkr (by unfold Tr.round; rw [k11, ht]; decide))
 obtain ⟨i, hi, hz0, hz1, hz2⟩ := info_parts infoInt
 obtain ⟨A, cap, rfl⟩ := hr.slice
 have k1 : (n.kind == 12) = false := by rw [k11]; rfl
 have k2 : (n.kind == 11) = true := by rw [k11]; rfl
 have t1 : (n.text == [40, 41]) = false := by rw [ht]; rfl
 have t2 : (n.text == [91, 93]) = true := by rw [ht]; rfl
 have s1 : ((⟨n.text.toArray⟩ : ByteArray) == (⟨#[40, 41]⟩ : ByteArray)) = false := by rw [str_eq']; exact t1
 have s2 : ((⟨n.text.toArray⟩ : ByteArray) == (⟨#[91, 93]⟩ : ByteArray)) = true := by rw [str_eq']; exact t2
 have s3 : (ByteArray.toList ⟨n.text.toArray⟩ == [40, 41]) = false := by rw [ByteArray.toList_eq]; exact t1
 have s4 : (ByteArray.toList ⟨n.text.toArray⟩ == [91, 93]) = true := by rw [ByteArray.toList_eq]; exact t2
 clear k11 ht hr hkr
 go_enter Tryz.func103, Tryz.ntmps103
 go_wp2_with fail
 go_ret
 refine ⟨_, rfl, ?_, ((Touch.refl _ _).alloc _).alloc _⟩
 rw [HS.out]
 exact own_ints (w.alloc _) [1] (by simp) (by simp) (by decide)
theorem slots_any (n : Nd) (hv : View n) (sl : Value) (w : World) (hr : RepL w n.kids sl) (hc : Tr.count n ≤ 800) :
  Calls Tryz.prog 103 #[nv n sl] w (SlotsOf n w) := by
 have hrows := view_rows hv
 have bs : ∀ a : Nd, a.kids.length ≠ 1 ∨ ∃ x, a.kids = [x] := fun a => by
  match h : a.kids with
  | [] => exact .inl (by simp)
  | [x] => exact .inr ⟨x, rfl⟩
  | _ :: _ :: _ => exact .inl (by simp)
 cases hv with
 | sym t h => exact slots_plain _ sl w hr hrows hc rfl rfl rfl rfl rfl rfl
 | num t h => exact slots_plain _ sl w hr hrows hc rfl rfl rfl rfl rfl rfl
 | text t h => exact slots_plain _ sl w hr hrows hc rfl rfl rfl rfl rfl rfl
 | frac a b ha hb => exact slots_plain _ sl w hr hrows hc rfl rfl rfl rfl rfl rfl
 | root a b ha hb =>
  by_cases h : a.kids = []
  ·exact slots_rootbare _ sl w hr hrows hc rfl a b rfl h
  ·exact slots_rootfull _ sl w hr hrows hc rfl a b rfl h
 | sub a b ha hb =>
  rcases bs a with h | ⟨x, h⟩
  ·exact slots_smore _ sl w hr hrows hc (.inl rfl) a [b] rfl h
  ·exact slots_sone _ sl w hr hrows hc (.inl rfl) a [b] rfl x h
 | sup a b ha hb =>
  rcases bs a with h | ⟨x, h⟩
  ·exact slots_smore _ sl w hr hrows hc (.inr (.inl rfl)) a [b] rfl h
  ·exact slots_sone _ sl w hr hrows hc (.inr (.inl rfl)) a [b] rfl x h
 | both a b d ha hb hd =>
  rcases bs a with h | ⟨x, h⟩
  ·exact slots_smore _ sl w hr hrows hc (.inr (.inr rfl)) a [b, d] rfl h
  ·exact slots_sone _ sl w hr hrows hc (.inr (.inr rfl)) a [b, d] rfl x h
 | accent t a h ha => exact slots_plain _ sl w hr hrows hc rfl rfl rfl rfl rfl rfl
 | fence t a h ha =>
  by_cases h1 : t = [40, 41]
  ·exact slots_round0 _ sl w hr hrows hc rfl a rfl h1
  ·by_cases h2 : t = [91, 93]
   ·exact slots_round1 _ sl w hr hrows hc rfl a rfl h2
   ·exact slots_fence _ sl w hr hrows hc rfl (by simpa [Nd.text] using h1) (by simpa [Nd.text] using h2)
 | matrix c ks hc1 hn hm hk => exact slots_matrix _ sl w hr hrows hc rfl
end Go.Proofs.YtdacpbdamliafaaGreat

/- span.Items. -/
namespace Go.Proofs.YtdacpbdamliafaaGreat
open Go.RowKit
open Tr (Nd Clo runRow rowT itemsC spRow)
attribute [local go_sem] stillV stillUpon
abbrev Spn := List Nat × Nat × Nat
def Roomy (v : Value) (n : Nat) : Prop := ∃ A cap, v = .slice A n cap ∧ n ≤ cap ∧ cap ≤ maxLen
theorem Roomy.own {w : World} {B n k : Nat} {e : TypeId} {v : Value} {cs : List Value} (h : w.ownsRow B e k v n cs) : Roomy v n := by
 rcases h.2 with ⟨h1, h2⟩ | ⟨b, cap, cur, h1, _, _, h2, h3, _⟩
 ·exact ⟨none, 0, by rw [h1, h2], by omega, by decide⟩
 ·exact ⟨_, cap, h1, h2, h3⟩
structure PathR (g : Nat) (S : Nat → Prop) (w : World) (v : Value) (p : List Nat) : Prop where
 path : PathIn g S w v p
 room : Roomy v p.length
theorem PathR.mv {g : Nat} {S S' : Nat → Prop} {w w' : World} {v : Value} {p : List Nat} (h : PathR g S w v p) (m : Mv g S S' w w') : PathR g S' w' v p := ⟨h.path.mv m, h.room⟩
structure IntsR (w : World) (v : Value) (l : List Int) : Prop where
 ints : Ints w v l
 room : Roomy v l.length
theorem PathR.ints {g : Nat} {S : Nat → Prop} {w : World} {v : Value} {p : List Nat} (h : PathR g S w v p) : IntsR w v (up p) := ⟨h.path.ints, by rw [List.length_map]; exact h.room⟩
theorem IntsR.fresh {w w' : World} {v : Value} {l : List Int} (h : IntsR w v l) (hf : Fresh w w') : IntsR w' v l := ⟨h.ints.fresh hf, h.room⟩
def SpansAt (g : Nat) (S : Nat → Prop) (w : World) : List Spn → List Value → Prop
 | [], cs => cs = []
 | x :: xs, cs => ∃ pv ds, cs = pv :: .int .i64 (x.2.1 : Int) :: .int .i64 (x.2.2 : Int) :: ds ∧ PathR g S w pv x.1 ∧ SpansAt g S w xs ds
theorem SpansAt.mv {g : Nat} {S S' : Nat → Prop} {w w' : World} (m : Mv g S S' w w') : ∀ {s : List Spn} {cs : List Value}, SpansAt g S w s cs → SpansAt g S' w' s cs
 | [], _, h => h
 | _ :: _, _, ⟨pv, ds, h, hp, hd⟩ => ⟨pv, ds, h, hp.mv m, hd.mv m⟩
theorem SpansAt.snoc {g : Nat} {S : Nat → Prop} {w : World} {x : Spn} {pv : Value} (hp : PathR g S w pv x.1) : ∀ {s : List Spn} {cs : List Value}, SpansAt g S w s cs → SpansAt g S w (s ++ [x]) (cs ++ [pv, .int .i64 (x.2.1 : Int), .int .i64 (x.2.2 : Int)])
 | [], cs, h => by rw [show cs = [] from h]; exact ⟨pv, [], rfl, hp, rfl⟩
 | y :: s, cs, ⟨qv, ds, h, hq, hd⟩ => by
  subst h
  exact ⟨qv, ds ++ _, rfl, hq, hd.snoc hp⟩
theorem SpansAt.length {g : Nat} {S : Nat → Prop} {w : World} : ∀ {s : List Spn} {cs : List Value}, SpansAt g S w s cs → cs.length = s.length * 3
 | [], cs, h => by rw [show cs = [] from h]; rfl
 | _ :: s, _, ⟨pv, ds, h, hp, hd⟩ => by
  have := hd.length
  rw [h]
  simp only [List.length_cons]
  omega
theorem SpansAt.set {g : Nat} {S : Nat → Prop} {w : World} (pl : Nat) : ∀ {s : List Spn} {cs : List Value} (q : Nat), q < s.length → SpansAt g S w s cs → SpansAt g S w (s.modify q fun x => (x.1, x.2.1, pl)) (cs.set (q * 3 + 2) (.int .i64 (pl : Int)))
 | [], _, q, hq, _ => by simp at hq
 | x :: s, cs, q, hq, ⟨pv, ds, h, hp, hd⟩ => by
  subst h
  cases q with
  | zero => exact ⟨pv, ds, rfl, hp, hd⟩
  | succ q =>
   refine ⟨pv, ds.set (q * 3 + 2) (.int .i64 (pl : Int)), ?_, hp, ?_⟩
   ·rw [show (q + 1) * 3 + 2 = (q * 3 + 2) + 1 + 1 + 1 by omega]; rfl
   ·exact hd.set pl q (by simpa using hq)
theorem PathR.one {g : Nat} {S : Nat → Prop} {w : World} {v : Value} {p : List Nat} (h : PathR g S w v p) : v.oneCell' = true := by
 obtain ⟨A, cap, rfl, _⟩ := h.room
 rfl
theorem SpansAt.oneCell {g : Nat} {S : Nat → Prop} {w : World} : ∀ {s : List Spn} {cs : List Value}, SpansAt g S w s cs → ∀ u ∈ cs, u.oneCell' = true
 | [], cs, h, u, hu => by rw [show cs = [] from h] at hu; cases hu
 | _ :: s, _, ⟨pv, ds, h, hp, hd⟩, u, hu => by
  rw [h] at hu
  rcases List.mem_cons.1 hu with rfl | hu
  ·exact hp.one
  ·rcases List.mem_cons.1 hu with rfl | hu
   ·rfl
   ·rcases List.mem_cons.1 hu with rfl | hu
    ·rfl
    ·exact hd.oneCell u hu
theorem infoSpan : (Tryz.prog.info? 66).map (fun i => (i.zero, i.size, i.bytes)) = some (some (.agg #[.slice none 0 0, .int .i64 0, .int .i64 0]), 3, 40) := by kernel_rfl
structure ItemsSt (W0 : World) (B sb : Nat) (g tg : Nat) (s : List Spn) (S : Nat → Prop) (w : World) : Prop where
 row : ∃ v cs, Blk w sb 36 #[v] ∧ w.ownsRow B 66 3 v s.length cs ∧ SpansAt g S w s cs ∧ (∀ b, S b ↔ b = sb ∨ v.ownBlock = some b) ∧ ∀ b, v.ownBlock = some b → b ≠ g ∧ b ≠ tg
 lo : W0.heap.size ≤ sb ∧ sb < B ∧ W0.heap.size ≤ B
 hg : B ≤ g
 htg : B ≤ tg
 glt : g < w.heap.size
 tlt : tg < w.heap.size
theorem ItemsSt.touch {W0 : World} {B sb g tg : Nat} {s : List Spn} {S : Nat → Prop} {w w' : World} (h : ItemsSt W0 B sb g tg s S w) (ht : Touch (fun b => b = g) w w') : ItemsSt W0 B sb g tg s S w' := by
 obtain ⟨v, cs, h1, h2, h3, h4, h5⟩ := h.row
 have := h.lo
 have := h.hg
 exact ⟨⟨v, cs, ht.blk h1 (fun e => by have : sb = g := e; omega), ownsRow_touch h2 ht (fun b hb => (h5 b hb).1), h3.mv ⟨ht.mono fun _ => .inr, fun _ h => .inl h⟩, h4, h5⟩, h.lo, h.hg, h.htg, Nat.lt_of_lt_of_le h.glt ht.size, Nat.lt_of_lt_of_le h.tlt ht.size⟩
theorem ItemsSt.slt {W0 : World} {B sb g tg : Nat} {s : List Spn} {S : Nat → Prop} {w : World} (h : ItemsSt W0 B sb g tg s S w) : ∀ b, S b → W0.heap.size ≤ b ∧ b < w.heap.size ∧ b ≠ g ∧ b ≠ tg := by
 obtain ⟨v, cs, h1, h2, h3, h4, h5⟩ := h.row
 have l1 := h.lo
 have l2 := h.hg
 have l3 := h.htg
 have l4 := h1.lt
 intro b hb
 rcases (h4 b).1 hb with rfl | hb
 ·omega
 ·have := h2.lt b hb
  have := h5 b hb
  omega
def DnI (sb g : Nat) (q : Nat) (S : Nat → Prop) (w : World) (d : Nat) (cd : Array Value) : Prop :=
 ∃ ib, d = 52 ∧ cd = #[.pointer (some ⟨sb, 0, none⟩), .pointer (some ⟨ib, 0, none⟩)] ∧ Blk w ib 3 #[.int .i64 (q : Int)] ∧ ¬ S ib ∧ ib ≠ g
theorem DnI.mv {sb g q : Nat} {S S' : Nat → Prop} {w w' : World} {d : Nat} {cd : Array Value} (h : DnI sb g q S w d cd) (m : Mv g S S' w w') : DnI sb g q S' w' d cd := by
 obtain ⟨ib, h1, h2, h3, h4, h5⟩ := h
 obtain ⟨h6, h7⟩ := m.blk h3 h4 h5
 exact ⟨ib, h1, h2, h6, h7, h5⟩
theorem noOff_any (v : Value) (pl : Nat) (w : World) : Calls Tryz.prog 53 (#[v, .int .i64 (pl : Int)] ++ #[]) w fun e w' => e = .returned (.tuple #[]) ∧ w' = w := by
 have e : (#[v, .int .i64 (pl : Int)] ++ #[] : Array Value) = #[v, .int .i64 (pl : Int)] := by simp
 rw [e]
 go_enter Tryz.func53, Tryz.ntmps53
 go_wp2_with fail
 first | go_end0 | refine bodyPost_ret (v := .tuple #[]) (results_none rfl _ _ _) rfl ?_
 exact ⟨rfl, rfl⟩
theorem owns_slice {W : World} {B e size n : Nat} {v : Value} {xs : List Value} (h : W.ownsRow B e size v n xs) : ∃ A c, v = .slice A n c := by
 rcases h.2 with ⟨h1, h2⟩ | ⟨g, cap, cur, h1, _⟩
 ·exact ⟨none, 0, by rw [h1, h2]⟩
 ·exact ⟨_, _, h1⟩
set_option maxRecDepth 100000 in
set_option maxHeartbeats 2000000 in
theorem items1_any {W0 : World} {B sb g tg : Nat} {s : List Spn} {S : Nat → Prop} {w : World} (h : ItemsSt W0 B sb g tg s S w) {p : List Nat} {v : Value} (pl : Nat) (hp : PathIn g S w v p) (hpl : p.length ≤ 1000) (hlim : s.length + 1 ≤ 100000) :
  Calls Tryz.prog 51 (#[v, .int .i64 (pl : Int)] ++ #[.pointer (some ⟨sb, 0, none⟩)]) w
   fun e w' => ∃ d cd S', e = .returned (.func (.func d) #[] cd) ∧ ItemsSt W0 B sb g tg (s ++ [(p, pl, 0)]) S' w' ∧ Mc S S' w w' ∧ DnI sb g s.length S' w' d cd := by
 have e : (#[v, .int .i64 (pl : Int)] ++ #[.pointer (some ⟨sb, 0, none⟩)] : Array Value) = #[v, .int .i64 (pl : Int), .pointer (some ⟨sb, 0, none⟩)] := by simp
 rw [e]
 clear e
 obtain ⟨i, hi, hz0, hz1, hz2⟩ := info_parts infoSpan
 have hmf : ∀ (fn : Fn) (first cap : Array Value) (w : World), (Instr.makeFunc fn first cap).run Tryz.prog w = .ok (.func fn first cap) w := fun _ _ _ _ => rfl
 have HS := hid h
 obtain ⟨rv, cs, hb, ho, hcs, hS, hne⟩ := h.row
 obtain ⟨Ar, capr, rfl⟩ := owns_slice ho
 obtain ⟨Ap, capp, rfl⟩ := hp.slice
 have q0 : w.cell? ⟨sb, 0, none⟩ = some (.slice Ar s.length capr) := hb.cell 0
 have hsbw := hb.lt
 have HP := hid hp
 have HPL := hid hpl
 have HLIM := hid hlim
 have HSD := hid hS
 have HNE := hid hne
 have HB := hid hb
 have HO := hid ho
 have HCS := hid hcs
 clear h hp hpl hlim hS hne hb ho hcs
 go_enter Tryz.func51, Tryz.ntmps51
 go_wp2_with fail
 refine forget_world (fun W => Fresh w W ∧ Blk W w.heap.size 3 #[.int .i64 (s.length : Int)]) ⟨(Touch.refl _ _).alloc _, Blk.new _ _ _⟩ ?_
 rintro W1 ⟨hf1, hbi⟩
 have HF1 := hid hf1
 have HBI := hid hbi
 have hiw := hbi.lt
 have q1 := hf1.cell q0 (fun h => h)
 have HP1 := hid (HP.out.mv (Mv.fresh hf1))
 have g1 := cell_regrown q1
 clear q0 hf1 hbi
 refine wp_region_mix [([(0, true), (1, true), (3, true), (2, false), (4, true), (5, false)], 6), ([], 7)] [] (by kernel_rfl) (fun _ _ d _ _ h => by cases d <;> exact h) (by kernel_rfl) ?_
 refine wpMix_seg ?_
 repeat (refine wpSeq_plain rfl (fun K hK => ?_); go_simp; refine hK _ ?_; clear hK K)
 refine wpSeq_lone rfl (fun K hK => ?_)
 go_wp2_with fail
 refine (ints_any (up p) _ _ (HP1.out.ints.fresh (show Fresh W1 _ from (Touch.refl _ _).drewN _)) (by have := HPL.out; simp only [List.length_map]; omega)).mono ?_
 rintro _ W2 ⟨v2, rfl, ho2, hf2⟩
 have hS1 : ∀ b, S b → b < W1.heap.size := fun b hb => Nat.lt_of_lt_of_le (HS.out.slt b hb).2.1 HF1.out.size
 have HP2 := hid (show PathR g S W2 v2 p from ⟨PathIn.new (g := g) (S := S) (p := p) hS1 (Nat.lt_of_lt_of_le HS.out.glt HF1.out.size) ho2, by have := Roomy.own ho2; rw [List.length_map] at this; exact this⟩)
 obtain ⟨A2, cap2, rfl⟩ := HP2.out.path.slice
 have HF2 := hid (show Fresh W1 W2 from Touch.ofN hf2)
 clear ho2 hf2
 go_wp2_with fail
 refine hK _ _ (growing_fresh HF2.out) ?_
 clear hK K
 repeat (refine wpSeq_plain rfl (fun K hK => ?_); go_simp; refine hK _ ?_; clear hK K)
 refine wpSeq_lone rfl (fun K hK => ?_)
 go_wp2_with fail
 refine hK _ _ (growing_fresh (HF2.out.alloc _)) ?_
 clear hK K
 have HB3 := hid (show Blk (W2.alloc (.cells #[.slice A2 p.length cap2, .int .i64 (pl : Int), .int .i64 0] 66)) W2.heap.size 66 #[.slice A2 p.length cap2, .int .i64 (pl : Int), .int .i64 0] from Blk.new _ _ _)
 have HF3 := hid (show Fresh W2 (W2.alloc (.cells #[.slice A2 p.length cap2, .int .i64 (pl : Int), .int .i64 0] 66)) from (Touch.refl _ _).alloc _)
 generalize (W2.alloc (.cells #[.slice A2 p.length cap2, .int .i64 (pl : Int), .int .i64 0] 66)) = W3 at *
 have HO3 := hid (ownsRow_touch HO.out ((HF1.out.trans HF2.out).trans HF3.out) (fun _ _ h => h))
 refine wpSeq_shut rfl (fun K hK => ?_)
 go_wp2_with (at_builtin; refine wpList_append_src _ rfl (.tmp 9) (.tmp 14) 36 rfl B 66 i _ 3 40 rfl hi hz0 hz1 hz2 rfl (by decide) (.slice Ar s.length capr) s.length cs (by simp [Act.eval]) HO3.out (.slice (some ⟨W2.heap.size, 0, none⟩) 1 1) 1 [.slice A2 p.length cap2, .int .i64 (pl : Int), .int .i64 0] (by simp [Act.eval]) (Src.of_blk HB3.out rfl) (by intro u hu; simp at hu; rcases hu with rfl | rfl | rfl <;> rfl) (by have := HLIM.out; unfold maxLen; omega) (by have := HLIM.out; omega) (by have := HS.out.hg; have := HS.out.glt; have := ((HF1.out.trans HF2.out).trans HF3.out).size; omega) ?_; intro v4 W4 ho4 hg4 hv4; refine Stay.mk ?_)
 obtain ⟨A4, cap4, rfl⟩ := owns_slice ho4
 have HF03 := hid ((HF1.out.trans HF2.out).trans HF3.out)
 have HT34 := hid (show Touch (fun k => (Value.slice Ar s.length capr).ownBlock = some k) W3 W4 from (Touch.refl _ _).grown hg4 fun g h => .inl h)
 have hsb : ¬ (Value.slice Ar s.length capr).ownBlock = some sb := fun e => by have := (HO3.out.lt sb e).1; have := HS.out.lo; omega
 have HB4 := hid (HT34.out.blk (HF03.out.blk HB.out (fun h => h)) hsb)
 have HTS := hid (show Touch S w W4 from ((HF03.out.mono (fun _ h => h.elim)).trans' HT34.out fun k hk => .inl ((HSD.out k).2 (.inr hk))))
 have q4 : W4.cell? ⟨sb, 0, none⟩ = some (.slice Ar s.length capr) := HB4.out.cell 0
 have z4 : W4.frozen? ⟨sb, 0, none⟩ = false := HB4.out.frozen 0
 have HO4 := hid ho4
 have HV4 := hid hv4
 clear ho4 hg4 hv4 q1 g1 hsb
 refine Stay.go ?_
 go_wp2_with fail
 refine wpMix_seg ?_
 refine wpSeq_shut rfl (fun K hK => ?_)
 go_wp2_with fail
 refine wpMix_end ?_
 go_wp2_with fail
 go_ret
 have hl := HS.out.lo
 have hs4 : S sb := (HSD.out sb).2 (.inl rfl)
 have HTF : Touch S w (W4.setCell ⟨sb, 0, none⟩ (.slice A4 (s.length + 1) cap4)) := HTS.out.setCell (p := ⟨sb, 0, none⟩) (.inl hs4) _
 have hgr : ∀ b, (b = sb ∨ (Value.slice A4 (s.length + 1) cap4).ownBlock = some b) → S b ∨ W3.heap.size ≤ b := by
  rintro b (rfl | hb)
  ·exact .inl hs4
  ·rcases HV4.out with e | e
   ·exact .inl ((HSD.out b).2 (.inr (by rw [← e]; exact hb)))
   ·rw [e] at hb
    exact .inr (by simp only [Option.some.injEq] at hb; omega)
 have ht3 : Touch S W3 (W4.setCell ⟨sb, 0, none⟩ (.slice A4 (s.length + 1) cap4)) := (HT34.out.mono fun k hk => (HSD.out k).2 (.inr hk)).setCell (p := ⟨sb, 0, none⟩) (.inl hs4) _
 have hm3 : Mv g S (fun b => b = sb ∨ (Value.slice A4 (s.length + 1) cap4).ownBlock = some b) W3 (W4.setCell ⟨sb, 0, none⟩ (.slice A4 (s.length + 1) cap4)) := ⟨ht3.mono fun _ => .inl, hgr⟩
 have h03 : Mv g S S w W3 := Mv.fresh HF03.out
 have hszs : W3.heap.size ≤ (W4.setCell ⟨sb, 0, none⟩ (.slice A4 (s.length + 1) cap4)).heap.size := ht3.size
 have hglt := HS.out.glt
 have htlt := HS.out.tlt
 have hws := HF03.out.size
 refine ⟨_, _, fun b => b = sb ∨ (Value.slice A4 (s.length + 1) cap4).ownBlock = some b, rfl, ⟨⟨.slice A4 (s.length + 1) cap4, cs ++ [.slice A2 p.length cap2, .int .i64 (pl : Int), .int .i64 0], HB4.out.put 0 _, ?_, ?_, fun _ => Iff.rfl, ?_⟩, HS.out.lo, HS.out.hg, HS.out.htg, by omega, by omega⟩, ⟨HTF, fun b hb => (hgr b hb).imp id (fun h => by omega)⟩, ⟨w.heap.size, rfl, rfl, ?_⟩⟩
 ·rw [List.length_append]
  exact ownsRow_touch HO4.out ((Touch.refl (fun b => b = sb) W4).setCell (p := ⟨sb, 0, none⟩) (.inl rfl) _) fun k hk e => by
   have h1 := (HO4.out.lt k hk).1
   have : k = sb := e
   omega
 ·exact ((HCS.out.mv h03).mv hm3).snoc (x := (p, pl, 0)) ((HP2.out.mv (Mv.fresh HF3.out)).mv hm3)
 ·intro b hb
  rcases HV4.out with e | e
  ·exact HNE.out b (by rw [← e]; exact hb)
  ·rw [e] at hb
   simp only [Option.some.injEq] at hb
   omega
 ·have hwS : ¬ S w.heap.size := fun e => by have := (HS.out.slt _ e).2.1; omega
  obtain ⟨b1, b2⟩ := Mv.blk ((Mv.fresh (HF2.out.trans HF3.out)).trans hm3) HBI.out hwS (by omega)
  exact ⟨b1, b2, by omega⟩
set_option maxRecDepth 100000 in
set_option maxHeartbeats 1000000 in
theorem items11_any {W0 : World} {B sb g tg : Nat} {s : List Spn} {S : Nat → Prop} {w : World} (h : ItemsSt W0 B sb g tg s S w) (q d : Nat) (cd : Array Value) (pl : Nat) (hd : DnI sb g q S w d cd) (hq : q < s.length) (_hlim : s.length ≤ 100000) :
  Calls Tryz.prog d (#[.int .i64 (pl : Int)] ++ cd) w
   fun e w' => e = .returned (.tuple #[]) ∧ ∃ S', ItemsSt W0 B sb g tg (s.modify q fun x => (x.1, x.2.1, pl)) S' w' ∧ Mc S S' w w' := by
 obtain ⟨ib, rfl, rfl, hbi, hib, hig⟩ := hd
 have e : (#[.int .i64 (pl : Int)] ++ #[.pointer (some ⟨sb, 0, none⟩), .pointer (some ⟨ib, 0, none⟩)] : Array Value) = #[.int .i64 (pl : Int), .pointer (some ⟨sb, 0, none⟩), .pointer (some ⟨ib, 0, none⟩)] := by simp
 rw [e]
 clear e
 have HS := hid h
 obtain ⟨rv, cs, hb, ho, hcs, hS, hne⟩ := h.row
 obtain ⟨g', cap, hv, hBg⟩ : ∃ g' cap, rv = .slice (some ⟨g', 0, none⟩) s.length cap ∧ B ≤ g' := by
  rcases ho.2 with ⟨_, h2⟩ | ⟨g', cap, cur, h1, h2, _⟩
  ·omega
  ·exact ⟨g', cap, h1, h2⟩
 subst hv
 have hlen := hcs.length
 have HST := hid (ho.stored (q * 3 + 2) (.int .i64 (pl : Int)))
 have q0 : w.cell? ⟨sb, 0, none⟩ = some (.slice (some ⟨g', 0, none⟩) s.length cap) := hb.cell 0
 have q1 : w.cell? ⟨ib, 0, none⟩ = some (.int .i64 (q : Int)) := hbi.cell 0
 have z2 := ho.frozenAt (q * 3 + 2)
 have q2 : ∃ x, w.cell? ⟨g', q * 3 + 2, none⟩ = some x := by
  rw [ho.cellAt (q * 3 + 2) (by omega), List.getElem?_eq_getElem (by omega)]
  exact ⟨_, rfl⟩
 obtain ⟨x2, q2⟩ := q2
 have hqi : (q : Int) < (s.length : Int) := by omega
 have HB := hid hb
 have HCS := hid hcs
 have HSD := hid hS
 have HNE := hid hne
 have HQ := hid hq
 have hl := HS.out.lo
 clear h hb ho hcs hS hne hbi hib hig
 go_enter Tryz.func52, Tryz.ntmps52
 go_wp2_with fail
 first | go_end0 | refine bodyPost_ret (v := .tuple #[]) (results_none rfl _ _ _) rfl ?_
 have ht : Touch S w (w.setCell ⟨g', q * 3 + 2, none⟩ (.int .i64 (pl : Int))) := (Touch.refl S w).setCell (p := ⟨g', q * 3 + 2, none⟩) (.inl ((HSD.out g').2 (.inr rfl))) _
 have hm : Mv g S S w (w.setCell ⟨g', q * 3 + 2, none⟩ (.int .i64 (pl : Int))) := ⟨ht.mono fun _ => .inl, fun _ h => .inl h⟩
 refine ⟨rfl, S, ⟨⟨.slice (some ⟨g', 0, none⟩) s.length cap, _, HB.out.far (p := ⟨g', q * 3 + 2, none⟩) (by show sb ≠ g'; omega) _, ?_, (HCS.out.mv hm).set pl q HQ.out, HSD.out, HNE.out⟩, HS.out.lo, HS.out.hg, HS.out.htg, Nat.lt_of_lt_of_le HS.out.glt ht.size, Nat.lt_of_lt_of_le HS.out.tlt ht.size⟩, ⟨ht, fun _ h => .inl h⟩⟩
 rw [List.length_modify]
 exact HST.out.1
def itemsCls (W0 : World) (B sb : Nat) : Cls (List Spn) Nat :=
 ⟨itemsC, 51, #[.pointer (some ⟨sb, 0, none⟩)], 53, #[], ItemsSt W0 B sb, fun g _ => DnI sb g, fun s => s.length ≤ 100000, fun q s => q < s.length⟩
set_option maxRecDepth 100000 in
theorem itemsCls_good (W0 : World) (B sb : Nat) (n : Nd) (hc : Tr.count n ≤ 800) (g tg : Nat) (tv : Value) (hg : W0.heap.size ≤ g) : ((itemsCls W0 B sb).wk W0 g tg tv (printT n)).Good where
 len := printT_len_le n hc
 place := printT_place n hc
 far := hg
 lt := fun s S w b h hb => (show ItemsSt W0 B sb g tg s S w from h).slt b hb
 stmv := fun s S w w' h ht => (show ItemsSt W0 B sb g tg s S w from h).touch ht
 dnmv := fun q S S' w w' d cd h m => (show DnI sb g q S w d cd from h).mv m
 off := fun s S w p v pl h _ _ _ _ => (noOff_any v pl w).mono fun e w' ⟨he, hw⟩ => by subst hw; exact ⟨he, S, h, Mc.refl _ _⟩
 item := fun s S w p v pl h hp hpl _ hl => items1_any h pl hp hpl (by
  have : (s ++ [(p, pl, 0)]).length ≤ 100000 := hl
  simpa using this)
 done := fun s S w q d cd pl h hd hq _ hl => items11_any h q d cd pl hd hq (by
  have : (s.modify q fun x => (x.1, x.2.1, pl)).length ≤ 100000 := hl
  simpa using this)
 kp0 := fun s p pl => by show s.length < (s ++ [(p, pl, 0)]).length; simp
 kpo := fun _ _ _ _ h => h
 kpi := fun q s p pl h => by
  have h' : q < s.length := h
  show q < (s ++ [(p, pl, 0)]).length
  simp; omega
 kpd := fun q s q' pl h => by
  have h' : q < s.length := h
  show q < (s.modify q' fun x => (x.1, x.2.1, pl)).length
  simpa using h'
 limo := fun _ _ _ h => h
 limi := fun s p pl h => by
  have h' : (s ++ [(p, pl, 0)]).length ≤ 100000 := h
  show s.length ≤ 100000
  simp at h'; omega
 limd := fun s q pl h => by
  have h' : (s.modify q fun x => (x.1, x.2.1, pl)).length ≤ 100000 := h
  show s.length ≤ 100000
  simpa using h'
 callo := fun _ _ => by kernel_rfl
 calli := fun _ _ => by kernel_rfl
 calld := fun q S w d cd hd => by
  obtain ⟨ib, rfl, rfl, _⟩ := hd
  exact fun _ _ => by kernel_rfl
def spansOf (n : Nd) : List Spn := if Tr.valid n then spRow (printT n) n.kids [] 0 0 else []
def SpnAt (w : World) : List Spn → List Value → Prop
 | [], cs => cs = []
 | x :: xs, cs => ∃ pv ds, cs = pv :: .int .i64 (x.2.1 : Int) :: .int .i64 (x.2.2 : Int) :: ds ∧ IntsR w pv (up x.1) ∧ SpnAt w xs ds
theorem SpansAt.spn {g : Nat} {S : Nat → Prop} {w : World} : ∀ {s : List Spn} {cs : List Value}, SpansAt g S w s cs → SpnAt w s cs
 | [], _, h => h
 | _ :: _, _, ⟨pv, ds, h, hp, hd⟩ => ⟨pv, ds, h, hp.ints, hd.spn⟩
theorem SpnAt.fresh {w w' : World} (hf : Fresh w w') : ∀ {s : List Spn} {cs : List Value}, SpnAt w s cs → SpnAt w' s cs
 | [], _, h => h
 | _ :: _, _, ⟨pv, ds, h, hp, hd⟩ => ⟨pv, ds, h, hp.fresh hf, hd.fresh hf⟩
theorem SpnAt.get {w : World} : ∀ {s : List Spn} {cs : List Value}, SpnAt w s cs → ∀ i (hi : i < s.length), ∃ pv, cs[i * 3]? = some pv ∧ cs[i * 3 + 1]? = some (.int .i64 (s[i].2.1 : Int)) ∧ cs[i * 3 + 2]? = some (.int .i64 (s[i].2.2 : Int)) ∧ IntsR w pv (up s[i].1)
 | [], _, _, i, hi => by simp at hi
 | x :: s, cs, ⟨pv, ds, h, hp, hd⟩, i, hi => by
  subst h
  cases i with
  | zero => exact ⟨pv, rfl, rfl, rfl, hp⟩
  | succ i =>
   obtain ⟨qv, h1, h2, h3, h4⟩ := hd.get i (by simpa using hi)
   refine ⟨qv, ?_, ?_, ?_, h4⟩
   ·rw [show (i + 1) * 3 = i * 3 + 3 by omega]; exact h1
   ·rw [show (i + 1) * 3 + 1 = i * 3 + 1 + 3 by omega]; exact h2
   ·rw [show (i + 1) * 3 + 2 = i * 3 + 2 + 3 by omega]; exact h3
def ItemsOf (n : Nd) (w : World) (e : Ending) (w' : World) : Prop := ∃ v cs, e = .returned (.tuple #[v, .int .i64 (printE n)]) ∧ w'.ownsRow w.heap.size 66 3 v (spansOf n).length cs ∧ SpnAt w' (spansOf n) cs ∧ Fresh w w'
theorem sp_count (T : List Lx.PTok) : (∀ ks p i f, (spRow T ks p i f).length ≤ Tr.countL ks) ∧ ∀ l p j f, (Tr.spSegs T l p j f).length ≤ Tr.countL (Tr.rowsOf l) := by
 refine Tr.rows_ind (P := fun ks => ∀ p i f, (spRow T ks p i f).length ≤ Tr.countL ks) (Q := fun l => ∀ p j f, (Tr.spSegs T l p j f).length ≤ Tr.countL (Tr.rowsOf l)) ?_ ?_ ?_ ?_
 ·intro p i f; rw [spRow]; simp
 ·intro n ns h1 h2 p i f
  rw [spRow, Tr.countL, Tr.count_kids]
  have h3 := h1 (p ++ [i]) 0 f
  have h4 := h2 p (i + 1) (f + (Tr.itemT n).length)
  rw [Tr.segs_rows] at h3
  simp only [List.length_cons, List.length_append]
  omega
 ·intro p j f; rw [Tr.spSegs]; simp
 ·intro k b a r h1 h2 p j f
  rw [Tr.spSegs, List.length_append]
  have h3 := h1 (p ++ [j]) 0 (f + k + b.toNat)
  have h4 := h2 p (j + 1) (f + Tr.segLen (k, b, a))
  have h5 : Tr.rowsOf ((k, b, a) :: r) = a :: Tr.rowsOf r := rfl
  rw [h5, Tr.countL, Tr.count_kids]
  omega
theorem spans_few (n : Nd) (hc : Tr.count n ≤ 800) : (spansOf n).length ≤ 800 := by
 unfold spansOf
 split
 ·have h1 := (sp_count (printT n)).1 n.kids [] 0 0
  have h2 := Tr.count_kids n
  omega
 ·simp
set_option maxRecDepth 100000 in
set_option maxHeartbeats 2000000 in
theorem items_any (n : Nd) (sl : Value) (w : World) (hsl : RepL w n.kids sl) (ht : n.text.length ≤ maxLen) (hc : Tr.count n ≤ 800) :
  Calls Tryz.prog 19 #[nv n sl] w (ItemsOf n w) := by
 obtain ⟨A, cap, rfl⟩ := hsl.slice
 have HSL := hid hsl
 have HC := hid hc
 clear hsl hc
 have hmf : ∀ (fn : Fn) (first cap : Array Value) (w : World), (Instr.makeFunc fn first cap).run Tryz.prog w = .ok (.func fn first cap) w := fun _ _ _ _ => rfl
 cases hv : Tr.valid n with
 | false =>
  have HE := hid (show printE n = 1 from by unfold printE; rw [hv]; rfl)
  have HN := hid (show spansOf n = [] from by unfold spansOf; rw [hv]; rfl)
  have HV := hid hv
  clear hv
  go_enter Tryz.func19, Tryz.ntmps19
  go_wp2_with fail
  refine (walk_err n _ 51 53 _ #[] _ (HSL.out.fresh (((Touch.refl _ _).alloc _).alloc _)) ht HC.out HV.out).mono ?_
  rintro _ w2 ⟨rfl, hf⟩
  have HF2 := hid (show Fresh w w2 from Touch.pre (Touch.pre hf))
  clear hf
  go_wp2_with fail
  go_ret2
  exact ⟨.slice none 0 0, [], by rw [HE.out]; rfl, by rw [HN.out]; exact World.ownsRow_nil _ _ _ _, by rw [HN.out]; rfl, HF2.out⟩
 | true =>
  have HE := hid (show printE n = 0 from by unfold printE; rw [hv]; rfl)
  have HN := hid (show spansOf n = spRow (printT n) n.kids [] 0 0 from by unfold spansOf; rw [hv]; rfl)
  have HFEW := hid (spans_few n HC.out)
  have HV := hid hv
  clear hv
  go_enter Tryz.func19, Tryz.ntmps19
  go_wp2_with fail
  have hf1 : Fresh w ((w.alloc (.cells #[.int .i64 n.kind, .string ⟨n.text.toArray⟩, .int .i64 n.cols, .slice A n.kids.length cap] 24)).alloc (.cells #[.slice none 0 0] 36)) := ((Touch.refl _ _).alloc _).alloc _
  have hb1 : Blk ((w.alloc (.cells #[.int .i64 n.kind, .string ⟨n.text.toArray⟩, .int .i64 n.cols, .slice A n.kids.length cap] 24)).alloc (.cells #[.slice none 0 0] 36)) (w.heap.size + 1) 36 #[.slice none 0 0] := Blk.new2 _ _ _ _
  generalize ((w.alloc (.cells #[.int .i64 n.kind, .string ⟨n.text.toArray⟩, .int .i64 n.cols, .slice A n.kids.length cap] 24)).alloc (.cells #[.slice none 0 0] 36)) = W1 at hf1 hb1 ⊢
  have HF1 := hid hf1
  have HIS := hid (fun (g tg : Nat) (w' : World) (h1 : W1.heap.size ≤ g) (h2 : W1.heap.size ≤ tg) (h3 : g < w'.heap.size) (h4 : tg < w'.heap.size) (hf : Fresh W1 w') => (show ItemsSt w W1.heap.size (w.heap.size + 1) g tg [] (fun b => b = w.heap.size + 1) w' from
   ⟨⟨_, [], hf.blk hb1 (fun h => h), World.ownsRow_nil _ _ _ _, rfl, fun b => ⟨.inl, fun h => h.elim id fun h => by cases h⟩, fun b h => by cases h⟩, by have := hb1.lt; refine ⟨?_, ?_, ?_⟩ <;> omega, h1, h2, h3, h4⟩))
  clear hf1 hb1
  refine (walk_ok (itemsCls w W1.heap.size (w.heap.size + 1)) w n _ W1 [] _ HV.out HC.out ht ((Low.fresh (Touch.refl _ _) HF1.out)) HSL.out (fun g tg tv hg => itemsCls_good _ _ _ n HC.out g tg tv hg) (fun g tg w' h1 h2 h3 h4 hf => HIS.out g tg w' h1 h2 h3 h4 hf)
   (by show (runRow itemsC (printT n) n.kids [] 0 0 []).length ≤ 100000; rw [(Tr.items_run (printT n)).1, List.nil_append, ← HN.out]; have := HFEW.out; omega)).mono ?_
  rintro _ w2 ⟨rfl, g, tg, S2, hg, hst, hlow, hmv⟩
  have hst' : ItemsSt w W1.heap.size (w.heap.size + 1) g tg (runRow itemsC (printT n) n.kids [] 0 0 []) S2 w2 := hst
  rw [(Tr.items_run (printT n)).1, List.nil_append, ← HN.out] at hst'
  have HF2 := hid (low_fresh hlow)
  obtain ⟨v, cs, hb, ho, hcs, _, _⟩ := hst'.row
  have HO := hid (ownsRow_low ho (show w.heap.size ≤ W1.heap.size from HF1.out.size))
  have HCS := hid hcs.spn
  obtain ⟨Av, capv, rfl⟩ := owns_slice ho
  have q0 : w2.cell? ⟨w.heap.size + 1, 0, none⟩ = some (.slice Av (spansOf n).length capv) := hb.cell 0
  clear hst hst' hlow hmv hb ho hcs
  go_wp2_with fail
  go_ret2
  exact ⟨_, cs, by rw [HE.out]; rfl, HO.out, HCS.out, HF2.out⟩
end Go.Proofs.YtdacpbdamliafaaGreat
