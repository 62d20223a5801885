/- Part 34 of 53 of a proof; its texts, joined: PrU, PrV. No condition. -/
import Derived.Test.YtgfhlfbcoimojaaGreatUb33
import Derived.Test.YtgfhlfbcoimojaaGreatUb20

/- The methods of all kinds: the printer's row adds the tokens of a valid row; Print and Tokens. -/
namespace Go.Proofs.YtgfhlfbcoimojaaGreat
open Go.RowKit
open Tr (Nd argT baseT rowT itemT cellsT View IsRow)
attribute [local go_sem] Oper.semAt_some
theorem base_scripts_sub (W0 : World) (p B : Nat) (tx cl : Value) (a b : Nd) (ha : RowE W0 p B a) (hb : ArgE W0 p B b) (sl : Value) (hsl : RepL W0 [a, b] sl) : Emits 101 #[pp p, .agg #[.int .i64 7, tx, cl, sl]] W0 p B (baseT a ++ ([Tr.mk7 95] ++ argT b)) := by
 by_cases h1 : a.kids.length = 1
 ·obtain ⟨x, hx⟩ := List.length_eq_one_iff.1 h1
  cases hs : Tr.scripted x with
  | true => exact scripts_7_item W0 p B tx cl a b x hx hs (group_em W0 p B a ha) hb sl hsl
  | false => exact scripts_7_row W0 p B tx cl a b x hx hs ha hb sl hsl
 ·exact scripts_7_len W0 p B tx cl a b h1 (group_em W0 p B a ha) hb sl hsl
theorem base_scripts_sup (W0 : World) (p B : Nat) (tx cl : Value) (a b : Nd) (ha : RowE W0 p B a) (hb : ArgE W0 p B b) (sl : Value) (hsl : RepL W0 [a, b] sl) : Emits 101 #[pp p, .agg #[.int .i64 8, tx, cl, sl]] W0 p B (baseT a ++ ([Tr.mk7 94] ++ argT b)) := by
 by_cases h1 : a.kids.length = 1
 ·obtain ⟨x, hx⟩ := List.length_eq_one_iff.1 h1
  cases hs : Tr.scripted x with
  | true => exact scripts_8_item W0 p B tx cl a b x hx hs (group_em W0 p B a ha) hb sl hsl
  | false => exact scripts_8_row W0 p B tx cl a b x hx hs ha hb sl hsl
 ·exact scripts_8_len W0 p B tx cl a b h1 (group_em W0 p B a ha) hb sl hsl
theorem base_scripts_both (W0 : World) (p B : Nat) (tx cl : Value) (a b d : Nd) (ha : RowE W0 p B a) (hb : ArgE W0 p B b) (hd : ArgE W0 p B d) (sl : Value) (hsl : RepL W0 [a, b, d] sl) : Emits 101 #[pp p, .agg #[.int .i64 9, tx, cl, sl]] W0 p B (baseT a ++ ([Tr.mk7 95] ++ (argT b ++ ([Tr.mk7 94] ++ argT d)))) := by
 by_cases h1 : a.kids.length = 1
 ·obtain ⟨x, hx⟩ := List.length_eq_one_iff.1 h1
  cases hs : Tr.scripted x with
  | true => exact scripts_9_item W0 p B tx cl a b d x hx hs (group_em W0 p B a ha) hb hd sl hsl
  | false => exact scripts_9_row W0 p B tx cl a b d x hx hs ha hb hd sl hsl
 ·exact scripts_9_len W0 p B tx cl a b d h1 (group_em W0 p B a ha) hb hd sl hsl
theorem sym_tok (t : Tr.Bytes) : (if t.length = 1 then (⟨1, t⟩ : Lx.Tok) else ⟨4, t⟩) = ⟨if t.length = 1 then 1 else 4, t⟩ := by split <;> rfl
theorem item_em (W0 : World) (p B : Nat) (x : Nd) (v : View x) (hc : Tr.count x ≤ 1000000) (h : ∀ a ∈ x.kids, RowE W0 p B a) : ItemE W0 p B x := by
 have hA : ∀ a ∈ x.kids, ArgE W0 p B a := fun a ha => argument_em W0 p B a (h a ha)
 cases v with
 | sym t ht => exact ⟨_, fun _ => by kernel_rfl, fun _ _ => by kernel_rfl, fun sx hr => by rw [Tr.itemT_sym, sym_tok]; exact symbol_em W0 p B (.mk 2 t 0 []) sx⟩
 | num t ht => exact ⟨_, fun _ => by kernel_rfl, fun _ _ => by kernel_rfl, fun sx hr => by rw [Tr.itemT_num]; exact number_em W0 p B (.mk 3 t 0 []) sx⟩
 | text t ht => exact ⟨_, fun _ => by kernel_rfl, fun _ _ => by kernel_rfl, fun sx hr => by rw [Tr.itemT_text]; exact quoted_em W0 p B (.mk 4 t 0 []) sx⟩
 | frac a b ha hb => exact ⟨_, fun _ => by kernel_rfl, fun _ _ => by kernel_rfl, fun sx hr => by rw [Tr.itemT_frac]; exact fraction_em W0 p B _ _ _ a b (hA a (by simp [Nd.kids])) (hA b (by simp [Nd.kids])) sx hr⟩
 | root a b ha hb =>
  refine ⟨100, fun _ => by kernel_rfl, fun _ _ => by kernel_rfl, fun sx hr => ?_⟩
  rw [Tr.itemT_root]
  by_cases hk : a.kids = []
  ·rw [if_pos hk]; exact root_bare W0 p B _ _ _ a b hk (hA b (by simp [Nd.kids])) sx hr
  ·rw [if_neg hk, List.cons_append, List.append_assoc]; exact root_full W0 p B _ _ _ a b hk (h a (by simp [Nd.kids])) (hA b (by simp [Nd.kids])) sx hr
 | sub a b ha hb => exact ⟨_, fun _ => by kernel_rfl, fun _ _ => by kernel_rfl, fun sx hr => by rw [Tr.itemT_sub]; exact base_scripts_sub W0 p B _ _ a b (h a (by simp [Nd.kids])) (hA b (by simp [Nd.kids])) sx hr⟩
 | sup a b ha hb => exact ⟨_, fun _ => by kernel_rfl, fun _ _ => by kernel_rfl, fun sx hr => by rw [Tr.itemT_sup]; exact base_scripts_sup W0 p B _ _ a b (h a (by simp [Nd.kids])) (hA b (by simp [Nd.kids])) sx hr⟩
 | both a b d ha hb hd => exact ⟨_, fun _ => by kernel_rfl, fun _ _ => by kernel_rfl, fun sx hr => by rw [Tr.itemT_both]; exact base_scripts_both W0 p B _ _ a b d (h a (by simp [Nd.kids])) (hA b (by simp [Nd.kids])) (hA d (by simp [Nd.kids])) sx hr⟩
 | accent t a ht ha => exact ⟨_, fun _ => by kernel_rfl, fun _ _ => by kernel_rfl, fun sx hr => by rw [Tr.itemT_accent]; exact accent_em W0 p B _ _ t a (hA a (by simp [Nd.kids])) sx hr⟩
 | fence t a ht ha =>
  refine ⟨103, fun _ => by kernel_rfl, fun _ _ => by kernel_rfl, fun sx hr => ?_⟩
  rw [Tr.itemT_fence]
  by_cases h1 : t = [40, 41]
  ·subst h1
   rw [if_pos (.inl rfl)]
   exact fence_round W0 p B _ _ a (h a (by simp [Nd.kids])) sx hr
  ·by_cases h2 : t = [91, 93]
   ·subst h2
    rw [if_pos (.inr rfl)]
    exact fence_square W0 p B _ _ a (h a (by simp [Nd.kids])) sx hr
   ·rw [if_neg (fun h => h.elim h1 h2)]
    exact fence_other W0 p B _ _ t h1 h2 a (hA a (by simp [Nd.kids])) sx hr
 | matrix c ks hc1 hn hm hk =>
  refine ⟨104, fun _ => by kernel_rfl, fun _ _ => by kernel_rfl, fun sx hr => ?_⟩
  rw [Tr.itemT_matrix c ks (by rintro rfl; simp at hn)]
  have hle : c ≤ ks.length := by
   rcases Int.lt_or_le (ks.length : Int) c with h' | h'
   ·rw [Int.emod_eq_of_lt (by omega) h'] at hm
    omega
   ·exact h'
  have := Tr.countL_len ks
  rw [Tr.count] at hc
  exact matrix_em W0 p B _ _ c ks hc1 (by omega) (fun k hk' => h k (by simpa [Nd.kids] using hk')) sx hr
theorem rows_em (W0 : World) (p B : Nat) (m : Nat) : ∀ a : Nd, Tr.count a ≤ m → m ≤ 1000000 → IsRow a → RowE W0 p B a := by
 induction m with
 | zero => intro a h; have := Tr.count_pos a; omega
 | succ m ih =>
  intro a hc hm ha
  have h1 := Tr.count_kids a
  refine row_em W0 p B a fun x hx => ?_
  have h2 := Tr.count_mem hx
  have hv := ha.views x hx
  refine item_em W0 p B x hv (by omega) fun b hb => ?_
  have h3 := Tr.count_mem hb
  have h4 := Tr.count_kids x
  refine ih b (by omega) (by omega) ?_
  cases hv with
  | sym t h => simp [Nd.kids] at hb
  | num t h => simp [Nd.kids] at hb
  | text t h => simp [Nd.kids] at hb
  | frac a b ha hb' => simp only [Nd.kids, List.mem_cons, List.not_mem_nil, or_false] at hb; rcases hb with rfl | rfl <;> assumption
  | root a b ha hb' => simp only [Nd.kids, List.mem_cons, List.not_mem_nil, or_false] at hb; rcases hb with rfl | rfl <;> assumption
  | sub a b ha hb' => simp only [Nd.kids, List.mem_cons, List.not_mem_nil, or_false] at hb; rcases hb with rfl | rfl <;> assumption
  | sup a b ha hb' => simp only [Nd.kids, List.mem_cons, List.not_mem_nil, or_false] at hb; rcases hb with rfl | rfl <;> assumption
  | both a b d ha hb' hd => simp only [Nd.kids, List.mem_cons, List.not_mem_nil, or_false] at hb; rcases hb with rfl | rfl | rfl <;> assumption
  | accent t a h ha => simp only [Nd.kids, List.mem_cons, List.not_mem_nil, or_false] at hb; subst hb; assumption
  | fence t a h ha => simp only [Nd.kids, List.mem_cons, List.not_mem_nil, or_false] at hb; subst hb; assumption
  | matrix c ks hc1 hn hm hk => exact hk b hb
theorem ownsRow_low {w : World} {base base' e size n : Nat} {v : Value} {xs : List Value} (h : w.ownsRow base e size v n xs) (hb : base' ≤ base) : w.ownsRow base' e size v n xs := by
 refine ⟨h.1, h.2.imp id ?_⟩
 rintro ⟨g, cap, cur, h1, h2, h3⟩
 exact ⟨g, cap, cur, h1, Nat.le_trans hb h2, h3⟩
def prCells : Array Value := #[.slice none 0 0, .pointer none, .slice none 0 0]
theorem built_pr : Tryz.prog.built 77 [] = some prCells := by kernel_rfl
theorem Pr.new (w : World) : Pr (w.alloc (.cells prCells 77)) w.heap.size (w.heap.size + 1) (.slice none 0 0) (.slice none 0 0) prCells [] [] :=
 ⟨by omega, ⟨Blk.new _ _ _, .inl rfl, rfl, World.ownsRow_nil _ _ _ _, by simp [Value.ownBlock], fun _ => rfl⟩, rfl, rfl, World.ownsRow_nil _ _ _ _⟩
theorem PSt.new (w : World) : PSt w w.heap.size (w.heap.size + 1) (w.alloc (.cells prCells 77)) [] [] :=
 ⟨(Touch.refl _ _).alloc _, Nat.le_refl _, by simp, _, _, _, Pr.new w⟩
def printS (n : Nd) : List UInt8 := if Tr.valid n then Tr.wtext (rowT n.kids) else []
def printE (n : Nd) : Int := if Tr.valid n then 0 else 1
def printT (n : Nd) : List Lx.PTok := if Tr.valid n then Lx.placed 0 (Tr.sepd none (rowT n.kids)) else []
def TokensOf (n : Nd) (w : World) (e : Ending) (w' : World) : Prop := ∃ v, e = .returned (.tuple #[v, .int .i64 (printE n)]) ∧ w'.ownsRow w.heap.size 139 4 v (printT n).length ((printT n).flatMap ptokCellsP) ∧ Fresh w w'
set_option maxRecDepth 100000 in
set_option maxHeartbeats 1000000 in
theorem print_any (n : Nd) (sl : Value) (w : World) (hr : RepL w n.kids sl) (ht : n.text.length ≤ maxLen) (hc : Tr.count n ≤ 1000) :
  Calls Tryz.prog 17 #[nv n sl] w fun e w' => e = .returned (.tuple #[.string ⟨(printS n).toArray⟩, .int .i64 (printE n)]) ∧ Fresh w w' := by
 have HV := hid (fun (w : World) (hr : RepL w n.kids sl) => valid_call n sl w hr ht (by omega))
 have HR := hid hr
 have HC := hid hc
 clear hr hc
 cases hv : Tr.valid n with
 | false =>
  have HS := hid (show printS n = [] from by unfold printS; rw [hv]; rfl)
  have HE := hid (show printE n = 1 from by unfold printE; rw [hv]; rfl)
  rw [HS.out, HE.out]
  go_enter Tryz.func17, Tryz.ntmps17
  go_wp2_with fail
  refine (HV.out _ (HR.out.fresh ((Touch.refl _ _).alloc _))).mono ?_
  rintro _ w1 ⟨rfl, hf⟩
  have HF := hid (Touch.pre hf)
  clear hf
  go_wp2_with fail
  go_ret2
  exact ⟨rfl, HF.out⟩
 | true =>
  have HS := hid (show printS n = Tr.wtext (rowT n.kids) from by unfold printS; rw [hv]; rfl)
  have HE := hid (show printE n = 0 from by unfold printE; rw [hv]; rfl)
  have HROW := hid (Tr.valid_row n hv)
  rw [HS.out, HE.out]
  go_enter Tryz.func17, Tryz.ntmps17
  go_wp2_with fail
  refine (HV.out _ (HR.out.fresh ((Touch.refl _ _).alloc _))).mono ?_
  rintro _ w1 ⟨rfl, hf⟩
  have HF := hid (Touch.pre hf)
  have hb1 := hf.blk (Blk.new _ _ _) (fun h => h)
  have HB := hid hb1
  obtain ⟨q0, q1, q2, q3, _, _, _, _, hg⟩ := Blk.four hb1
  clear hf hb1
  have HEM := hid (rows_em w1 w1.heap.size (w1.heap.size + 1) _ n (Nat.le_refl _) (by have := HC.out; omega) HROW.out sl (HR.out.fresh HF.out) _ _ _ (PSt.new w1) (row_fits n HROW.out HC.out))
  go_wp2_with (refine wpList_build_kind [] built_pr _ rfl rfl rfl (.agg prCells) rfl ?_)
  refine HEM.out.mono ?_
  rintro _ w2 ⟨rfl, h2⟩
  obtain ⟨vt, vb, cs, hpr, htc⟩ := h2
  rw [adds_wtext] at hpr
  have HF2 := hid (show Fresh w w2 from HF.out.trans' ((((Touch.refl (fun k => w1.heap.size ≤ k) w1).alloc (.cells prCells 77))).trans (htc.mono (fun k hk => by rcases hk with rfl | ⟨h, _⟩ <;> omega))) (fun i hi => .inr (by have := HF.out.size; omega)))
  have HPR := hid hpr
  clear hpr htc q0 q1 q2 q3
  go_wp2_with fail
  refine (bstring_any HPR.out.bld).mono ?_
  rintro _ w3 ⟨rfl, h3⟩
  have HF3 := hid (show Fresh w w3 from HF2.out.trans' h3 (fun i hi => .inr (by have := (owns_type HPR.out.bld.own hi).1; have := HF.out.size; omega)))
  clear h3
  go_wp2_with fail
  go_ret2
  exact ⟨rfl, HF3.out⟩
set_option maxRecDepth 100000 in
set_option maxHeartbeats 1000000 in
theorem ptokens_any (n : Nd) (sl : Value) (w : World) (hr : RepL w n.kids sl) (ht : n.text.length ≤ maxLen) (hc : Tr.count n ≤ 1000) :
  Calls Tryz.prog 73 #[nv n sl] w (TokensOf n w) := by
 have HV := hid (fun (w : World) (hr : RepL w n.kids sl) => valid_call n sl w hr ht (by omega))
 have HR := hid hr
 have HC := hid hc
 clear hr hc
 cases hv : Tr.valid n with
 | false =>
  have HS := hid (show printT n = [] from by unfold printT; rw [hv]; rfl)
  have HE := hid (show printE n = 1 from by unfold printE; rw [hv]; rfl)
  go_enter Tryz.func73, Tryz.ntmps73
  go_wp2_with fail
  refine (HV.out _ (HR.out.fresh ((Touch.refl _ _).alloc _))).mono ?_
  rintro _ w1 ⟨rfl, hf⟩
  have HF := hid (Touch.pre hf)
  clear hf
  go_wp2_with fail
  go_ret2
  exact ⟨.slice none 0 0, by rw [HE.out]; rfl, by rw [HS.out]; exact World.ownsRow_nil _ _ _ _, HF.out⟩
 | true =>
  have HS := hid (show printT n = Lx.placed 0 (Tr.sepd none (rowT n.kids)) from by unfold printT; rw [hv]; rfl)
  have HE := hid (show printE n = 0 from by unfold printE; rw [hv]; rfl)
  have HROW := hid (Tr.valid_row n hv)
  go_enter Tryz.func73, Tryz.ntmps73
  go_wp2_with fail
  refine (HV.out _ (HR.out.fresh ((Touch.refl _ _).alloc _))).mono ?_
  rintro _ w1 ⟨rfl, hf⟩
  have HF := hid (Touch.pre hf)
  have hb1 := hf.blk (Blk.new _ _ _) (fun h => h)
  have HB := hid hb1
  obtain ⟨q0, q1, q2, q3, _, _, _, _, hg⟩ := Blk.four hb1
  clear hf hb1
  have HEM := hid (rows_em w1 w1.heap.size (w1.heap.size + 1) _ n (Nat.le_refl _) (by have := HC.out; omega) HROW.out sl (HR.out.fresh HF.out) _ _ _ (PSt.new w1) (row_fits n HROW.out HC.out))
  go_wp2_with (refine wpList_build_kind [] built_pr _ rfl rfl rfl (.agg prCells) rfl ?_)
  refine HEM.out.mono ?_
  rintro _ w2 ⟨rfl, h2⟩
  obtain ⟨vt, vb, cs, hpr, htc⟩ := h2
  rw [adds_wtext] at hpr
  have HF2 := hid (show Fresh w w2 from HF.out.trans' ((((Touch.refl (fun k => w1.heap.size ≤ k) w1).alloc (.cells prCells 77))).trans (htc.mono (fun k hk => by rcases hk with rfl | ⟨h, _⟩ <;> omega))) (fun i hi => .inr (by have := HF.out.size; omega)))
  have HPR := hid hpr
  have r0 : w2.cell? ⟨w1.heap.size, 0, none⟩ = some vt := (hpr.bld.blk.cell 0).trans hpr.tok
  clear hpr htc q0 q1 q2 q3
  go_wp2_with fail
  go_ret2
  exact ⟨vt, by rw [HE.out]; rfl, by
   rw [HS.out]
   exact ownsRow_low HPR.out.own (by have := HF.out.size; omega), HF2.out⟩
end Go.Proofs.YtgfhlfbcoimojaaGreat

/- The statement's own example. -/
namespace Go.Proofs.YtgfhlfbcoimojaaGreat
open Go.RowKit
open Tr (Nd)
set_option maxRecDepth 100000 in
theorem awk1_any (s : ByteArray) (w : World) :
  Calls Tryz.prog 32 #[.string s] w fun e w' => e = .returned (.agg #[.int .i64 1, .string ⟨#[]⟩, .int .i64 0, .slice (some ⟨w.heap.size + 1, 0, none⟩) 1 1]) ∧ Fresh w w' ∧ Blk w' (w.heap.size + 1) 26 #[.int .i64 3, .string s, .int .i64 0, .slice none 0 0] := by
 go_enter Tryz.func32, Tryz.ntmps32
 go_wp2_with fail
 exact bodyPost_ret (v := .agg #[.int .i64 1, .string ⟨#[]⟩, .int .i64 0, .slice (some ⟨w.heap.size + 1, 0, none⟩) 1 1]) (by simp [results, Tryz.results32, go_sem]) rfl ⟨rfl, ((Touch.refl _ _).alloc _).alloc _, Blk.new2 _ _ _ _⟩
def numRow (s : List UInt8) : Nd := .mk 1 [] 0 [.mk 3 s 0 []]
def fracTree : Nd := .mk 1 [] 0 [.mk 5 [] 0 [numRow [49], numRow [50]]]
theorem RepL.leaf1 {W : World} {g : Nat} {k : Int} {s : List UInt8} (h : Blk W g 26 #[.int .i64 k, .string ⟨s.toArray⟩, .int .i64 0, .slice none 0 0]) (hs : s.length ≤ maxLen) : RepL W [.mk k s 0 []] (.slice (some ⟨g, 0, none⟩) 1 1) := by
 refine RepL.row g 0 1 [.mk k s 0 []] (fun _ => .slice none 0 0) h.lt (show 1 ≤ maxLen by decide) ?_ ?_ ?_ ?_ ?_ ?_
 all_goals (intro i hi; obtain rfl : i = 0 := by simpa using hi)
 ·exact hs
 ·exact h.cell 0
 ·exact h.cell 1
 ·exact h.cell 2
 ·exact h.cell 3
 ·exact .nil _ _
theorem RepL.kid1 {W : World} {g : Nat} {k c : Int} {s : List UInt8} {ks : List Nd} {v : Value} (h : Blk W g 26 #[.int .i64 k, .string ⟨s.toArray⟩, .int .i64 c, v]) (hs : s.length ≤ maxLen) (hk : RepL W ks v) : RepL W [.mk k s c ks] (.slice (some ⟨g, 0, none⟩) 1 1) := by
 refine RepL.row g 0 1 [.mk k s c ks] (fun _ => v) h.lt (show 1 ≤ maxLen by decide) ?_ ?_ ?_ ?_ ?_ ?_
 all_goals (intro i hi; obtain rfl : i = 0 := by simpa using hi)
 ·exact hs
 ·exact h.cell 0
 ·exact h.cell 1
 ·exact h.cell 2
 ·exact h.cell 3
 ·exact hk
theorem RepL.kid2 {W : World} {g : Nat} {k c k' c' : Int} {s s' : List UInt8} {ks ks' : List Nd} {v v' : Value} (h : Blk W g 26 #[.int .i64 k, .string ⟨s.toArray⟩, .int .i64 c, v, .int .i64 k', .string ⟨s'.toArray⟩, .int .i64 c', v']) (hs : s.length ≤ maxLen) (hs' : s'.length ≤ maxLen)
  (hk : RepL W ks v) (hk' : RepL W ks' v') : RepL W [.mk k s c ks, .mk k' s' c' ks'] (.slice (some ⟨g, 0, none⟩) 2 2) := by
 refine RepL.row g 0 2 [.mk k s c ks, .mk k' s' c' ks'] (fun i => if i = 0 then v else v') h.lt (show 2 ≤ maxLen by decide) ?_ ?_ ?_ ?_ ?_ ?_
 all_goals (intro i hi; have hi2 : i < 2 := (by simpa using hi); obtain rfl | rfl : i = 0 ∨ i = 1 := by omega)
 ·exact hs
 ·exact hs'
 ·exact h.cell 0
 ·exact h.cell 4
 ·exact h.cell 1
 ·exact h.cell 5
 ·exact h.cell 2
 ·exact h.cell 6
 ·exact h.cell 3
 ·exact h.cell 7
 ·exact hk
 ·exact hk'
set_option maxRecDepth 100000 in
set_option maxHeartbeats 1000000 in
theorem awake21_any (w : World) : Calls Tryz.prog 15 #[] w fun e w' => e = .returned (.bool true) ∧ Fresh w w' := by
 have hS : printS fracTree = [92, 102, 114, 97, 99, 49, 32, 50] := by decide +kernel
 have hE : printE fracTree = 0 := by decide +kernel
 have HS := hid hS
 have HE := hid hE
 clear hS hE
 go_enter Tryz.func15, Tryz.ntmps15
 go_wp2_with fail
 refine (awk1_any _ _).mono ?_
 rintro _ w1 ⟨rfl, hf1, hb1⟩
 have HF1 := hid hf1
 have HB1 := hid hb1
 clear hf1 hb1
 go_wp2_with fail
 refine (awk1_any _ _).mono ?_
 rintro _ w2 ⟨rfl, hf2, hb2⟩
 have HF2 := hid (Touch.trans HF1.out hf2)
 have HB2 := hid hb2
 have HB1' := hid (hf2.blk HB1.out (fun h => h))
 clear hf2 hb2 HB1
 go_wp2_with fail
 have hp : RepL _ fracTree.kids (.slice (some ⟨w2.heap.size + 1, 0, none⟩) 1 1) := RepL.kid1 (k := 5) (s := []) (c := 0) (ks := [numRow [49], numRow [50]]) (Blk.new2 w2 _ 26 _) (by decide)
  (RepL.kid2 (k := 1) (s := []) (c := 0) (k' := 1) (s' := []) (c' := 0) (ks := [.mk 3 [49] 0 []]) (ks' := [.mk 3 [50] 0 []]) ((Blk.new w2 26 _).alloc _) (by decide) (by decide)
   (RepL.leaf1 ((HB1'.out.alloc _).alloc _) (by decide)) (RepL.leaf1 ((HB2.out.alloc _).alloc _) (by decide)))
 refine (print_any fracTree _ _ hp (by decide) (by decide)).mono ?_
 rintro _ w3 ⟨rfl, hf3⟩
 have HF3 := hid (HF2.out.trans (Touch.pre (Touch.pre hf3)))
 rw [HS.out, HE.out]
 clear hp hf3
 go_wp2_with fail
 go_ret
 exact ⟨ret_bool' _ _ (by decide), HF3.out⟩
end Go.Proofs.YtgfhlfbcoimojaaGreat
