/- Part 7 of 11 of a proof; its texts, joined: PrU, SnC, RegC, SnW, SnT, SnV. No condition. -/
import Derived.Test.YtdacpbdamliafaaJo6
import Derived.Test.YtdacpbdamliafaaJo1
import Derived.Test.YtdacpbdamliafaaJo2
import Derived.OrdersHeld

/- The methods of all kinds: the printer's row adds the tokens of a valid row; Print and Tokens. -/
namespace Go.Proofs.Ytdacpbdamliafaa
open Go.RowKit
open Tr (Nd argT baseT rowT itemT cellsT View IsRow)
attribute [local go_sem] Oper.semAt_some

theorem base_scripts_sub (W0 : World) (p B : Nat) (tx cl : Value) (a b : Nd) (ha : RowE W0 p B a) (hb : ArgE W0 p B b) (sl : Value) (hsl : RepL W0 [a, b] sl) : Emits 62 #[pp p, .agg #[.int .i64 7, tx, cl, sl]] W0 p B (baseT a ++ ([Tr.mk7 95] ++ argT b)) := by
  by_cases h1 : a.kids.length = 1
  · obtain ⟨x, hx⟩ := List.length_eq_one_iff.1 h1
    cases hs : Tr.scripted x with
    | true => exact scripts_7_item W0 p B tx cl a b x hx hs (group_em W0 p B a ha) hb sl hsl
    | false => exact scripts_7_row W0 p B tx cl a b x hx hs ha hb sl hsl
  · exact scripts_7_len W0 p B tx cl a b h1 (group_em W0 p B a ha) hb sl hsl
theorem base_scripts_sup (W0 : World) (p B : Nat) (tx cl : Value) (a b : Nd) (ha : RowE W0 p B a) (hb : ArgE W0 p B b) (sl : Value) (hsl : RepL W0 [a, b] sl) : Emits 62 #[pp p, .agg #[.int .i64 8, tx, cl, sl]] W0 p B (baseT a ++ ([Tr.mk7 94] ++ argT b)) := by
  by_cases h1 : a.kids.length = 1
  · obtain ⟨x, hx⟩ := List.length_eq_one_iff.1 h1
    cases hs : Tr.scripted x with
    | true => exact scripts_8_item W0 p B tx cl a b x hx hs (group_em W0 p B a ha) hb sl hsl
    | false => exact scripts_8_row W0 p B tx cl a b x hx hs ha hb sl hsl
  · exact scripts_8_len W0 p B tx cl a b h1 (group_em W0 p B a ha) hb sl hsl
theorem base_scripts_both (W0 : World) (p B : Nat) (tx cl : Value) (a b d : Nd) (ha : RowE W0 p B a) (hb : ArgE W0 p B b) (hd : ArgE W0 p B d) (sl : Value) (hsl : RepL W0 [a, b, d] sl) : Emits 62 #[pp p, .agg #[.int .i64 9, tx, cl, sl]] W0 p B (baseT a ++ ([Tr.mk7 95] ++ (argT b ++ ([Tr.mk7 94] ++ argT d)))) := by
  by_cases h1 : a.kids.length = 1
  · obtain ⟨x, hx⟩ := List.length_eq_one_iff.1 h1
    cases hs : Tr.scripted x with
    | true => exact scripts_9_item W0 p B tx cl a b d x hx hs (group_em W0 p B a ha) hb hd sl hsl
    | false => exact scripts_9_row W0 p B tx cl a b d x hx hs ha hb hd sl hsl
  · exact scripts_9_len W0 p B tx cl a b d h1 (group_em W0 p B a ha) hb hd sl hsl

theorem sym_tok (t : Tr.Bytes) : (if t.length = 1 then (⟨1, t⟩ : Lx.Tok) else ⟨4, t⟩) = ⟨if t.length = 1 then 1 else 4, t⟩ := by split <;> rfl

theorem item_em (W0 : World) (p B : Nat) (x : Nd) (v : View x) (hc : Tr.count x ≤ 1000000) (h : ∀ a ∈ x.kids, RowE W0 p B a) : ItemE W0 p B x := by
  have hA : ∀ a ∈ x.kids, ArgE W0 p B a := fun a ha => argument_em W0 p B a (h a ha)
  cases v with
  | sym t ht => exact ⟨_, fun _ => by kernel_rfl, fun _ _ => by kernel_rfl, fun sx hr => by rw [Tr.itemT_sym, sym_tok]; exact symbol_em W0 p B (.mk 2 t 0 []) sx⟩
  | num t ht => exact ⟨_, fun _ => by kernel_rfl, fun _ _ => by kernel_rfl, fun sx hr => by rw [Tr.itemT_num]; exact number_em W0 p B (.mk 3 t 0 []) sx⟩
  | text t ht => exact ⟨_, fun _ => by kernel_rfl, fun _ _ => by kernel_rfl, fun sx hr => by rw [Tr.itemT_text]; exact quoted_em W0 p B (.mk 4 t 0 []) sx⟩
  | frac a b ha hb => exact ⟨_, fun _ => by kernel_rfl, fun _ _ => by kernel_rfl, fun sx hr => by rw [Tr.itemT_frac]; exact fraction_em W0 p B _ _ _ a b (hA a (by simp [Nd.kids])) (hA b (by simp [Nd.kids])) sx hr⟩
  | root a b ha hb =>
    refine ⟨61, fun _ => by kernel_rfl, fun _ _ => by kernel_rfl, fun sx hr => ?_⟩
    rw [Tr.itemT_root]
    by_cases hk : a.kids = []
    · rw [if_pos hk]; exact root_bare W0 p B _ _ _ a b hk (hA b (by simp [Nd.kids])) sx hr
    · rw [if_neg hk, List.cons_append, List.append_assoc]; exact root_full W0 p B _ _ _ a b hk (h a (by simp [Nd.kids])) (hA b (by simp [Nd.kids])) sx hr
  | sub a b ha hb => exact ⟨_, fun _ => by kernel_rfl, fun _ _ => by kernel_rfl, fun sx hr => by rw [Tr.itemT_sub]; exact base_scripts_sub W0 p B _ _ a b (h a (by simp [Nd.kids])) (hA b (by simp [Nd.kids])) sx hr⟩
  | sup a b ha hb => exact ⟨_, fun _ => by kernel_rfl, fun _ _ => by kernel_rfl, fun sx hr => by rw [Tr.itemT_sup]; exact base_scripts_sup W0 p B _ _ a b (h a (by simp [Nd.kids])) (hA b (by simp [Nd.kids])) sx hr⟩
  | both a b d ha hb hd => exact ⟨_, fun _ => by kernel_rfl, fun _ _ => by kernel_rfl, fun sx hr => by rw [Tr.itemT_both]; exact base_scripts_both W0 p B _ _ a b d (h a (by simp [Nd.kids])) (hA b (by simp [Nd.kids])) (hA d (by simp [Nd.kids])) sx hr⟩
  | accent t a ht ha => exact ⟨_, fun _ => by kernel_rfl, fun _ _ => by kernel_rfl, fun sx hr => by rw [Tr.itemT_accent]; exact accent_em W0 p B _ _ t a (hA a (by simp [Nd.kids])) sx hr⟩
  | fence t a ht ha =>
    refine ⟨64, fun _ => by kernel_rfl, fun _ _ => by kernel_rfl, fun sx hr => ?_⟩
    rw [Tr.itemT_fence]
    by_cases h1 : t = [40, 41]
    · subst h1
      rw [if_pos (.inl rfl)]
      exact fence_round W0 p B _ _ a (h a (by simp [Nd.kids])) sx hr
    · by_cases h2 : t = [91, 93]
      · subst h2
        rw [if_pos (.inr rfl)]
        exact fence_square W0 p B _ _ a (h a (by simp [Nd.kids])) sx hr
      · rw [if_neg (fun h => h.elim h1 h2)]
        exact fence_other W0 p B _ _ t h1 h2 a (hA a (by simp [Nd.kids])) sx hr
  | matrix c ks hc1 hn hm hk =>
    refine ⟨65, fun _ => by kernel_rfl, fun _ _ => by kernel_rfl, fun sx hr => ?_⟩
    rw [Tr.itemT_matrix c ks (by rintro rfl; simp at hn)]
    have hle : c ≤ ks.length := by
      rcases Int.lt_or_le (ks.length : Int) c with h' | h'
      · rw [Int.emod_eq_of_lt (by omega) h'] at hm
        omega
      · exact h'
    have := Tr.countL_len ks
    rw [Tr.count] at hc
    exact matrix_em W0 p B _ _ c ks hc1 (by omega) (fun k hk' => h k (by simpa [Nd.kids] using hk')) sx hr

theorem rows_em (W0 : World) (p B : Nat) (m : Nat) : ∀ a : Nd, Tr.count a ≤ m → m ≤ 1000000 → IsRow a → RowE W0 p B a := by
  induction m with
  | zero => intro a h; have := Tr.count_pos a; omega
  | succ m ih =>
    intro a hc hm ha
    have h1 := Tr.count_kids a
    refine row_em W0 p B a fun x hx => ?_
    have h2 := Tr.count_mem hx
    have hv := ha.views x hx
    refine item_em W0 p B x hv (by omega) fun b hb => ?_
    have h3 := Tr.count_mem hb
    have h4 := Tr.count_kids x
    refine ih b (by omega) (by omega) ?_
    cases hv with
    | sym t h => simp [Nd.kids] at hb
    | num t h => simp [Nd.kids] at hb
    | text t h => simp [Nd.kids] at hb
    | frac a b ha hb' => simp only [Nd.kids, List.mem_cons, List.not_mem_nil, or_false] at hb; rcases hb with rfl | rfl <;> assumption
    | root a b ha hb' => simp only [Nd.kids, List.mem_cons, List.not_mem_nil, or_false] at hb; rcases hb with rfl | rfl <;> assumption
    | sub a b ha hb' => simp only [Nd.kids, List.mem_cons, List.not_mem_nil, or_false] at hb; rcases hb with rfl | rfl <;> assumption
    | sup a b ha hb' => simp only [Nd.kids, List.mem_cons, List.not_mem_nil, or_false] at hb; rcases hb with rfl | rfl <;> assumption
    | both a b d ha hb' hd => simp only [Nd.kids, List.mem_cons, List.not_mem_nil, or_false] at hb; rcases hb with rfl | rfl | rfl <;> assumption
    | accent t a h ha => simp only [Nd.kids, List.mem_cons, List.not_mem_nil, or_false] at hb; subst hb; assumption
    | fence t a h ha => simp only [Nd.kids, List.mem_cons, List.not_mem_nil, or_false] at hb; subst hb; assumption
    | matrix c ks hc1 hn hm hk => exact hk b hb

theorem ownsRow_low {w : World} {base base' e size n : Nat} {v : Value} {xs : List Value} (h : w.ownsRow base e size v n xs) (hb : base' ≤ base) : w.ownsRow base' e size v n xs := by
  refine ⟨h.1, h.2.imp id ?_⟩
  rintro ⟨g, cap, cur, h1, h2, h3⟩
  exact ⟨g, cap, cur, h1, Nat.le_trans hb h2, h3⟩

/-- A new printer. -/
def prCells : Array Value := #[.slice none 0 0, .pointer none, .slice none 0 0]
theorem built_pr : Try.prog.built 59 [] = some prCells := by kernel_rfl
theorem Pr.new (w : World) : Pr (w.alloc (.cells prCells 59)) w.heap.size (w.heap.size + 1) (.slice none 0 0) (.slice none 0 0) prCells [] [] :=
  ⟨by omega, ⟨Blk.new _ _ _, .inl rfl, rfl, World.ownsRow_nil _ _ _ _, by simp [Value.ownBlock], fun _ => rfl⟩, rfl, rfl, World.ownsRow_nil _ _ _ _⟩
theorem PSt.new (w : World) : PSt w w.heap.size (w.heap.size + 1) (w.alloc (.cells prCells 59)) [] [] :=
  ⟨(Touch.refl _ _).alloc _, Nat.le_refl _, by simp, _, _, _, Pr.new w⟩

def printS (n : Nd) : List UInt8 := if Tr.valid n then Tr.wtext (rowT n.kids) else []
def printE (n : Nd) : Int := if Tr.valid n then 0 else 1
def printT (n : Nd) : List Lx.PTok := if Tr.valid n then Lx.placed 0 (Tr.sepd none (rowT n.kids)) else []

/-- How Tokens ends. -/
def TokensOf (n : Nd) (w : World) (e : Ending) (w' : World) : Prop := ∃ v, e = .returned (.tuple #[v, .int .i64 (printE n)]) ∧ w'.ownsRow w.heap.size 86 4 v (printT n).length ((printT n).flatMap ptokCellsP) ∧ Fresh w w'

set_option maxRecDepth 100000 in
set_option maxHeartbeats 1000000 in
theorem print_any (n : Nd) (sl : Value) (w : World) (hr : RepL w n.kids sl) (ht : n.text.length ≤ maxLen) (hc : Tr.count n ≤ 800) :
    Calls Try.prog 11 #[nv n sl] w fun e w' => e = .returned (.tuple #[.string ⟨(printS n).toArray⟩, .int .i64 (printE n)]) ∧ Fresh w w' := by
  have HV := hid (fun (w : World) (hr : RepL w n.kids sl) => valid_call n sl w hr ht (by omega))
  have HR := hid hr
  have HC := hid hc
  clear hr hc
  cases hv : Tr.valid n with
  | false =>
    have HS := hid (show printS n = [] from by unfold printS; rw [hv]; rfl)
    have HE := hid (show printE n = 1 from by unfold printE; rw [hv]; rfl)
    rw [HS.out, HE.out]
    go_enter Try.func11, Try.ntmps11
    go_wp2_with fail
    refine (HV.out _ (HR.out.fresh ((Touch.refl _ _).alloc _))).mono ?_
    rintro _ w1 ⟨rfl, hf⟩
    have HF := hid (Touch.pre hf)
    clear hf
    go_wp2_with fail
    go_ret2
    exact ⟨rfl, HF.out⟩
  | true =>
    have HS := hid (show printS n = Tr.wtext (rowT n.kids) from by unfold printS; rw [hv]; rfl)
    have HE := hid (show printE n = 0 from by unfold printE; rw [hv]; rfl)
    have HROW := hid (Tr.valid_row n hv)
    rw [HS.out, HE.out]
    go_enter Try.func11, Try.ntmps11
    go_wp2_with fail
    refine (HV.out _ (HR.out.fresh ((Touch.refl _ _).alloc _))).mono ?_
    rintro _ w1 ⟨rfl, hf⟩
    have HF := hid (Touch.pre hf)
    have hb1 := hf.blk (Blk.new _ _ _) (fun h => h)
    have HB := hid hb1
    obtain ⟨q0, q1, q2, q3, _, _, _, _, hg⟩ := Blk.four hb1
    clear hf hb1
    have HEM := hid (rows_em w1 w1.heap.size (w1.heap.size + 1) _ n (Nat.le_refl _) (by have := HC.out; omega) HROW.out sl (HR.out.fresh HF.out) _ _ _ (PSt.new w1) (row_fits n HROW.out HC.out))
    go_wp2_with (refine wpList_build_kind [] built_pr _ rfl rfl rfl (.agg prCells) rfl ?_)
    refine HEM.out.mono ?_
    rintro _ w2 ⟨rfl, h2⟩
    obtain ⟨vt, vb, cs, hpr, htc⟩ := h2
    rw [adds_wtext] at hpr
    have HF2 := hid (show Fresh w w2 from HF.out.trans' ((((Touch.refl (fun k => w1.heap.size ≤ k) w1).alloc (.cells prCells 59))).trans (htc.mono (fun k hk => by rcases hk with rfl | ⟨h, _⟩ <;> omega))) (fun i hi => .inr (by have := HF.out.size; omega)))
    have HPR := hid hpr
    clear hpr htc q0 q1 q2 q3
    go_wp2_with fail
    refine (bstring_any HPR.out.bld).mono ?_
    rintro _ w3 ⟨rfl, h3⟩
    have HF3 := hid (show Fresh w w3 from HF2.out.trans' h3 (fun i hi => .inr (by have := (owns_type HPR.out.bld.own hi).1; have := HF.out.size; omega)))
    clear h3
    go_wp2_with fail
    go_ret2
    exact ⟨rfl, HF3.out⟩

set_option maxRecDepth 100000 in
set_option maxHeartbeats 1000000 in
theorem ptokens_any (n : Nd) (sl : Value) (w : World) (hr : RepL w n.kids sl) (ht : n.text.length ≤ maxLen) (hc : Tr.count n ≤ 800) :
    Calls Try.prog 36 #[nv n sl] w (TokensOf n w) := by
  have HV := hid (fun (w : World) (hr : RepL w n.kids sl) => valid_call n sl w hr ht (by omega))
  have HR := hid hr
  have HC := hid hc
  clear hr hc
  cases hv : Tr.valid n with
  | false =>
    have HS := hid (show printT n = [] from by unfold printT; rw [hv]; rfl)
    have HE := hid (show printE n = 1 from by unfold printE; rw [hv]; rfl)
    go_enter Try.func36, Try.ntmps36
    go_wp2_with fail
    refine (HV.out _ (HR.out.fresh ((Touch.refl _ _).alloc _))).mono ?_
    rintro _ w1 ⟨rfl, hf⟩
    have HF := hid (Touch.pre hf)
    clear hf
    go_wp2_with fail
    go_ret2
    exact ⟨.slice none 0 0, by rw [HE.out]; rfl, by rw [HS.out]; exact World.ownsRow_nil _ _ _ _, HF.out⟩
  | true =>
    have HS := hid (show printT n = Lx.placed 0 (Tr.sepd none (rowT n.kids)) from by unfold printT; rw [hv]; rfl)
    have HE := hid (show printE n = 0 from by unfold printE; rw [hv]; rfl)
    have HROW := hid (Tr.valid_row n hv)
    go_enter Try.func36, Try.ntmps36
    go_wp2_with fail
    refine (HV.out _ (HR.out.fresh ((Touch.refl _ _).alloc _))).mono ?_
    rintro _ w1 ⟨rfl, hf⟩
    have HF := hid (Touch.pre hf)
    have hb1 := hf.blk (Blk.new _ _ _) (fun h => h)
    have HB := hid hb1
    obtain ⟨q0, q1, q2, q3, _, _, _, _, hg⟩ := Blk.four hb1
    clear hf hb1
    have HEM := hid (rows_em w1 w1.heap.size (w1.heap.size + 1) _ n (Nat.le_refl _) (by have := HC.out; omega) HROW.out sl (HR.out.fresh HF.out) _ _ _ (PSt.new w1) (row_fits n HROW.out HC.out))
    go_wp2_with (refine wpList_build_kind [] built_pr _ rfl rfl rfl (.agg prCells) rfl ?_)
    refine HEM.out.mono ?_
    rintro _ w2 ⟨rfl, h2⟩
    obtain ⟨vt, vb, cs, hpr, htc⟩ := h2
    rw [adds_wtext] at hpr
    have HF2 := hid (show Fresh w w2 from HF.out.trans' ((((Touch.refl (fun k => w1.heap.size ≤ k) w1).alloc (.cells prCells 59))).trans (htc.mono (fun k hk => by rcases hk with rfl | ⟨h, _⟩ <;> omega))) (fun i hi => .inr (by have := HF.out.size; omega)))
    have HPR := hid hpr
    have r0 : w2.cell? ⟨w1.heap.size, 0, none⟩ = some vt := (hpr.bld.blk.cell 0).trans hpr.tok
    clear hpr htc q0 q1 q2 q3
    go_wp2_with fail
    go_ret2
    exact ⟨vt, by rw [HE.out]; rfl, by
      rw [HS.out]
      exact ownsRow_low HPR.out.own (by have := HF.out.size; omega), HF2.out⟩
end Go.Proofs.Ytdacpbdamliafaa

/- The walk over a row that calls closures: words for its contracts. -/
namespace Go.Proofs.Ytdacpbdamliafaa
open Go.RowKit
open Tr (Nd Clo runRow runSegs rowT itemT segs)

/-- A list of numbers as integers. -/
abbrev up (p : List Nat) : List Int := p.map fun n : Nat => (n : Int)

/-- From w to w' only blocks of S, the block g and new ones have turned; S' is S with new blocks. -/
structure Mv (g : Nat) (S S' : Nat → Prop) (w w' : World) : Prop where
  touch : Touch (fun b => S b ∨ b = g) w w'
  grow : ∀ b, S' b → S b ∨ w.heap.size ≤ b
theorem Mv.trans {g : Nat} {S S' S'' : Nat → Prop} {a b c : World} (h : Mv g S S' a b) (k : Mv g S' S'' b c) : Mv g S S'' a c :=
  ⟨h.touch.trans' k.touch fun i hi => by
      rcases hi with hi | rfl
      · exact (h.grow i hi).imp .inl id
      · exact .inl (.inr rfl),
    fun i hi => by
      rcases k.grow i hi with h1 | h1
      · exact h.grow i h1
      · exact .inr (Nat.le_trans h.touch.size h1)⟩
theorem Mv.fresh {g : Nat} {S : Nat → Prop} {a b : World} (h : Fresh a b) : Mv g S S a b := ⟨h.mono fun _ hf => hf.elim, fun _ h => .inl h⟩
theorem Mv.refl (g : Nat) (S : Nat → Prop) (a : World) : Mv g S S a a := Mv.fresh (Touch.refl _ _)
/-- A move of the closures alone. -/
structure Mc (S S' : Nat → Prop) (w w' : World) : Prop where
  touch : Touch S w w'
  grow : ∀ b, S' b → S b ∨ w.heap.size ≤ b
theorem Mc.mv {g : Nat} {S S' : Nat → Prop} {w w' : World} (h : Mc S S' w w') : Mv g S S' w w' := ⟨h.touch.mono fun _ => .inl, h.grow⟩
theorem Mv.blk {g : Nat} {S S' : Nat → Prop} {w w' : World} (h : Mv g S S' w w') {k : Nat} {t : TypeId} {cs : Array Value} (hb : Blk w k t cs) (h1 : ¬ S k) (h2 : k ≠ g) : Blk w' k t cs ∧ ¬ S' k :=
  ⟨h.touch.blk hb (fun e => e.elim h1 h2), fun e => (h.grow k e).elim h1 fun hle => by have := hb.lt; omega⟩

/-- A slice of numbers that the walk does not turn. -/
def PathIn (g : Nat) (S : Nat → Prop) (w : World) (v : Value) (p : List Nat) : Prop :=
  ∃ A cap, v = .slice A p.length cap ∧ (p = [] ∨ ∃ b o, A = some ⟨b, o, none⟩ ∧ b < w.heap.size ∧ ¬ S b ∧ b ≠ g ∧ ∀ i (h : i < p.length), w.cell? ⟨b, o + i, none⟩ = some (.int .i64 (p[i] : Nat)))
theorem PathIn.ints {g : Nat} {S : Nat → Prop} {w : World} {v : Value} {p : List Nat} (h : PathIn g S w v p) : Ints w v (up p) := by
  obtain ⟨A, cap, rfl, h⟩ := h
  refine ⟨A, cap, by simp, ?_⟩
  rcases h with rfl | ⟨b, o, rfl, h1, _, _, h2⟩
  · exact .inl rfl
  · exact .inr ⟨b, o, rfl, h1, fun i hi => by rw [List.getElem_map]; exact h2 i (by simpa using hi)⟩
theorem PathIn.slice {g : Nat} {S : Nat → Prop} {w : World} {v : Value} {p : List Nat} (h : PathIn g S w v p) : ∃ A cap, v = .slice A p.length cap := by
  obtain ⟨A, cap, h, _⟩ := h
  exact ⟨A, cap, h⟩
theorem PathIn.mv {g : Nat} {S S' : Nat → Prop} {w w' : World} {v : Value} {p : List Nat} (h : PathIn g S w v p) (k : Mv g S S' w w') : PathIn g S' w' v p := by
  obtain ⟨A, cap, rfl, h⟩ := h
  refine ⟨A, cap, rfl, h.imp id ?_⟩
  rintro ⟨b, o, rfl, h1, h2, h3, h4⟩
  exact ⟨b, o, rfl, Nat.lt_of_lt_of_le h1 k.touch.size, fun e => (k.grow b e).elim h2 (by omega), h3, fun i hi => k.touch.cell (h4 i hi) (fun e => e.elim h2 h3)⟩
theorem PathIn.nil (g : Nat) (S : Nat → Prop) (w : World) : PathIn g S w (.slice none 0 0) [] := ⟨none, 0, rfl, .inl rfl⟩
/-- A new slice of numbers. -/
theorem PathIn.new {g : Nat} {S : Nat → Prop} {w w' : World} {v : Value} {p : List Nat} (hS : ∀ b, S b → b < w.heap.size) (hg : g < w.heap.size) (h : w'.ownsRow w.heap.size 3 1 v (up p).length (intVs (up p))) : PathIn g S w' v p := by
  rcases h.2 with ⟨h1, h2⟩ | ⟨b, cap, cur, h1, hB, _⟩
  · rw [List.length_map] at h2
    rw [List.length_eq_zero_iff.1 h2, h1]
    exact PathIn.nil _ _ _
  · rw [List.length_map] at h1
    refine ⟨_, cap, h1, .inr ⟨b, 0, rfl, (h.lt b (by rw [h1]; rfl)).2, fun e => by have := hS b e; omega, by omega, fun i hi => ?_⟩⟩
    have := h.cells (g := b) (by rw [h1]; rfl) i (.int .i64 (p[i] : Nat)) (by simp [hi])
    rw [Addr.add_mid, Nat.zero_add] at this
    rw [Nat.zero_add]
    exact this

/-- A path and one number more. -/
theorem path_cat {g : Nat} {S : Nat → Prop} {W : World} {A : Option Addr} {cap : Nat} {p : List Nat} (hp : PathIn g S W (.slice A p.length cap) p) (hS : ∀ b, S b → b < W.heap.size) (hg : g < W.heap.size) (hl : p.length ≤ 1000) (i n : Nat) :
    Calls Try.prog 46 #[.slice (some ⟨W.heap.size + 1, 0, none⟩) 2 2] (((W.drewN n).alloc (.cells #[.int .i64 (i : Int)] 3)).alloc (.cells #[.slice A p.length cap, .slice (some ⟨W.heap.size, 0, none⟩) 1 1] 31))
      fun e w' => ∃ A' cap', e = .returned (.slice A' (p.length + 1) cap') ∧ PathIn g S w' (.slice A' (p.length + 1) cap') (p ++ [i]) ∧ Fresh W w' := by
  have hb1 : Blk (((W.drewN n).alloc (.cells #[.int .i64 (i : Int)] 3)).alloc (.cells #[.slice A p.length cap, .slice (some ⟨W.heap.size, 0, none⟩) 1 1] 31)) W.heap.size 3 #[.int .i64 (i : Int)] := (Blk.new (W.drewN n) _ _).alloc _
  have hb2 : Blk (((W.drewN n).alloc (.cells #[.int .i64 (i : Int)] 3)).alloc (.cells #[.slice A p.length cap, .slice (some ⟨W.heap.size, 0, none⟩) 1 1] 31)) (W.heap.size + 1) 31 #[.slice A p.length cap, .slice (some ⟨W.heap.size, 0, none⟩) 1 1] := Blk.new2 (W.drewN n) _ _ _
  have hf : Fresh W (((W.drewN n).alloc (.cells #[.int .i64 (i : Int)] 3)).alloc (.cells #[.slice A p.length cap, .slice (some ⟨W.heap.size, 0, none⟩) 1 1] 31)) := (((Touch.refl _ W).drewN n).alloc _).alloc _
  generalize (((W.drewN n).alloc (.cells #[.int .i64 (i : Int)] 3)).alloc (.cells #[.slice A p.length cap, .slice (some ⟨W.heap.size, 0, none⟩) 1 1] 31)) = X at *
  refine (concat2 (up p) (up [i]) _ _ _ X (hp.ints.fresh hf) ⟨some ⟨W.heap.size, 0, none⟩, 1, rfl, .inr ⟨W.heap.size, 0, rfl, hb1.lt, fun j hj => ?_⟩⟩ (hb2.cell 0) (hb2.cell 1) (by simp) (by simp; omega)).mono ?_
  · have : j = 0 := by simpa using hj
    subst this
    exact hb1.cell 0
  · rintro _ w' ⟨v', rfl, ho, hf'⟩
    rw [← List.map_append] at ho
    have hP := PathIn.new (g := g) (S := S) (p := p ++ [i]) (fun b hb => Nat.lt_of_lt_of_le (hS b hb) hf.size) (Nat.lt_of_lt_of_le hg hf.size) ho
    obtain ⟨A', cap', rfl⟩ := hP.slice
    rw [List.length_append] at hP ⊢
    exact ⟨A', cap', rfl, hP, hf.trans hf'⟩

/-- A walk: what it calls, and how that lies in memory. -/
structure Wk (σ κ : Type) where
  W0 : World
  g : Nat
  tg : Nat
  tv : Value
  T : List Lx.PTok
  C : Clo σ κ
  fi : Nat
  ci : Array Value
  fo : Nat
  co : Array Value
  St : σ → (Nat → Prop) → World → Prop
  Dn : κ → (Nat → Prop) → World → Nat → Array Value → Prop
  Lim : σ → Prop
  Kp : κ → σ → Prop

variable {σ κ : Type}
/-- What a walk asks of its closures. -/
structure Wk.Good (k : Wk σ κ) : Prop where
  len : k.T.length ≤ 100000
  place : ∀ t ∈ k.T, t.from_ ≤ 1000000 ∧ t.to_ ≤ 1000000
  far : k.W0.heap.size ≤ k.g
  lt : ∀ s S w b, k.St s S w → S b → k.W0.heap.size ≤ b ∧ b < w.heap.size ∧ b ≠ k.g ∧ b ≠ k.tg
  stmv : ∀ s S w w', k.St s S w → Touch (fun b => b = k.g) w w' → k.St s S w'
  dnmv : ∀ q S S' w w' d cd, k.Dn q S w d cd → Mv k.g S S' w w' → k.Dn q S' w' d cd
  off : ∀ s S w p v (pl : Nat), k.St s S w → PathIn k.g S w v p → p.length ≤ 1000 → pl ≤ 1000000 → k.Lim (k.C.off s p pl) → Calls Try.prog k.fo (#[v, .int .i64 (pl : Int)] ++ k.co) w fun e w' => e = .returned (.tuple #[]) ∧ ∃ S', k.St (k.C.off s p pl) S' w' ∧ Mc S S' w w'
  item : ∀ s S w p v (pl : Nat), k.St s S w → PathIn k.g S w v p → p.length ≤ 1000 → pl ≤ 1000000 → k.Lim (k.C.item s p pl) → Calls Try.prog k.fi (#[v, .int .i64 (pl : Int)] ++ k.ci) w fun e w' => ∃ d cd S', e = .returned (.func (.func d) #[] cd) ∧ k.St (k.C.item s p pl) S' w' ∧ Mc S S' w w' ∧ k.Dn (k.C.key s) S' w' d cd
  done : ∀ s S w q d cd (pl : Nat), k.St s S w → k.Dn q S w d cd → k.Kp q s → pl ≤ 1000000 → k.Lim (k.C.done s q pl) → Calls Try.prog d (#[.int .i64 (pl : Int)] ++ cd) w fun e w' => e = .returned (.tuple #[]) ∧ ∃ S', k.St (k.C.done s q pl) S' w' ∧ Mc S S' w w'
  kp0 : ∀ s p pl, k.Kp (k.C.key s) (k.C.item s p pl)
  kpo : ∀ q s p pl, k.Kp q s → k.Kp q (k.C.off s p pl)
  kpi : ∀ q s p pl, k.Kp q s → k.Kp q (k.C.item s p pl)
  kpd : ∀ q s q' pl, k.Kp q s → k.Kp q (k.C.done s q' pl)
  limo : ∀ s p pl, k.Lim (k.C.off s p pl) → k.Lim s
  limi : ∀ s p pl, k.Lim (k.C.item s p pl) → k.Lim s
  limd : ∀ s q pl, k.Lim (k.C.done s q pl) → k.Lim s
  callo : ∀ (a : Array Value) (w : World), (callFunc k.fo a).run Try.prog w = .ok (.enter k.fo a) w
  calli : ∀ (a : Array Value) (w : World), (callFunc k.fi a).run Try.prog w = .ok (.enter k.fi a) w
  calld : ∀ q S w d cd, k.Dn q S w d cd → ∀ (a : Array Value) (w : World), (callFunc d a).run Try.prog w = .ok (.enter d a) w

/-- The walker stands at the token f. -/
structure Wk.At (k : Wk σ κ) (S : Nat → Prop) (f : Nat) (s : σ) (w : World) : Prop where
  low : Low k.W0 w
  box : Blk w k.g 69 #[k.tv, .int .i64 (f : Int), .func (.func k.fi) #[] k.ci, .func (.func k.fo) #[] k.co]
  tok : ∃ A cap, k.tv = .slice A k.T.length cap ∧ ∀ i (h : i < k.T.length), A = some ⟨k.tg, 0, none⟩ ∧ k.tg < w.heap.size ∧ k.tg ≠ k.g ∧ w.cell? ⟨k.tg, i * 4 + 2, none⟩ = some (.int .i64 (k.T[i].from_ : Nat)) ∧ w.cell? ⟨k.tg, i * 4 + 3, none⟩ = some (.int .i64 (k.T[i].to_ : Nat))
  st : k.St s S w

theorem Wk.At.mc {k : Wk σ κ} (hk : k.Good) {S S' : Nat → Prop} {f : Nat} {s s' : σ} {w w' : World} (h : k.At S f s w) (m : Mc S S' w w') (hs : k.St s' S' w') : k.At S' f s' w' := by
  refine ⟨h.low.trans' m.touch fun i hi => .inl (hk.lt s S w i h.st hi).1, m.touch.blk h.box fun e => (hk.lt s S w _ h.st e).2.2.1 rfl, ?_, hs⟩
  obtain ⟨A, cap, h1, h2⟩ := h.tok
  refine ⟨A, cap, h1, fun i hi => ?_⟩
  obtain ⟨a, b, c, d, e⟩ := h2 i hi
  exact ⟨a, Nat.lt_of_lt_of_le b m.touch.size, c, m.touch.cell d fun e => (hk.lt s S w _ h.st e).2.2.2 rfl, m.touch.cell e fun e => (hk.lt s S w _ h.st e).2.2.2 rfl⟩
theorem Wk.At.fresh {k : Wk σ κ} (hk : k.Good) {S : Nat → Prop} {f : Nat} {s : σ} {w w' : World} (h : k.At S f s w) (hf : Fresh w w') : k.At S f s w' :=
  h.mc hk ⟨hf.mono fun _ hf => hf.elim, fun _ h => .inl h⟩ (hk.stmv s S w w' h.st (hf.mono fun _ hf => hf.elim))
/-- The walker's next token. -/
theorem Wk.At.next {k : Wk σ κ} (hk : k.Good) {S : Nat → Prop} {f f' : Nat} {s : σ} {w : World} (h : k.At S f s w) (x : Int) (hx : x = (f' : Int)) : k.At S f' s (w.setCell ⟨k.g, 1, none⟩ (.int .i64 x)) ∧ Mv k.g S S w (w.setCell ⟨k.g, 1, none⟩ (.int .i64 x)) := by
  subst hx
  have ht : Touch (fun b => b = k.g) w (w.setCell ⟨k.g, 1, none⟩ (.int .i64 (f' : Int))) := (Touch.refl (fun b => b = k.g) w).setCell (p := ⟨k.g, 1, none⟩) (.inl rfl) _
  refine ⟨⟨h.low.trans' ht fun i hi => by subst hi; exact .inl hk.far, ?_, ?_, hk.stmv s S w _ h.st ht⟩, ⟨ht.mono fun _ => .inr, fun _ h => .inl h⟩⟩
  · have := h.box.put 1 (.int .i64 (f' : Int))
    exact this
  · obtain ⟨A, cap, h1, h2⟩ := h.tok
    refine ⟨A, cap, h1, fun i hi => ?_⟩
    obtain ⟨a, b, c, d, e⟩ := h2 i hi
    exact ⟨a, Nat.lt_of_lt_of_le b ht.size, c, ht.cell d c, ht.cell e c⟩
theorem Wk.At.glt {k : Wk σ κ} {S : Nat → Prop} {f : Nat} {s : σ} {w : World} (h : k.At S f s w) : k.g < w.heap.size := h.box.lt
theorem Wk.At.slt {k : Wk σ κ} (hk : k.Good) {S : Nat → Prop} {f : Nat} {s : σ} {w : World} (h : k.At S f s w) : ∀ b, S b → b < w.heap.size := fun b hb => (hk.lt s S w b h.st hb).2.1
theorem Wk.At.cells {k : Wk σ κ} {S : Nat → Prop} {f : Nat} {s : σ} {w : World} (h : k.At S f s w) :
    w.cell? ⟨k.g, 0, none⟩ = some k.tv ∧ w.cell? ⟨k.g, 1, none⟩ = some (.int .i64 (f : Int)) ∧ w.cell? ⟨k.g, 2, none⟩ = some (.func (.func k.fi) #[] k.ci) ∧ w.cell? ⟨k.g, 3, none⟩ = some (.func (.func k.fo) #[] k.co) ∧ w.frozen? ⟨k.g, 1, none⟩ = false :=
  ⟨h.box.cell 0, h.box.cell 1, h.box.cell 2, h.box.cell 3, h.box.frozen 1⟩

theorem Wk.Good.lim {k : Wk σ κ} (hk : k.Good) : (∀ ks p i f s, k.Lim (runRow k.C k.T ks p i f s) → k.Lim s) ∧ ∀ l p j f s, k.Lim (runSegs k.C k.T l p j f s) → k.Lim s := by
  refine Tr.rows_ind (P := fun ks => ∀ p i f s, k.Lim (runRow k.C k.T ks p i f s) → k.Lim s) (Q := fun l => ∀ p j f s, k.Lim (runSegs k.C k.T l p j f s) → k.Lim s) ?_ ?_ ?_ ?_
  · intro p i f s h; rw [runRow] at h; exact hk.limo _ _ _ h
  · intro n ns h1 h2 p i f s h
    rw [runRow] at h
    exact hk.limo _ _ _ (hk.limi _ _ _ (h1 _ _ _ _ (hk.limd _ _ _ (h2 _ _ _ _ h))))
  · intro p j f s h; rw [runSegs] at h; exact h
  · intro q b a r h1 h2 p j f s h
    rw [runSegs] at h
    exact h1 _ _ _ _ (h2 _ _ _ _ h)

theorem Wk.Good.kp {k : Wk σ κ} (hk : k.Good) (q : κ) : (∀ ks p i f s, k.Kp q s → k.Kp q (runRow k.C k.T ks p i f s)) ∧ ∀ l p j f s, k.Kp q s → k.Kp q (runSegs k.C k.T l p j f s) := by
  refine Tr.rows_ind (P := fun ks => ∀ p i f s, k.Kp q s → k.Kp q (runRow k.C k.T ks p i f s)) (Q := fun l => ∀ p j f s, k.Kp q s → k.Kp q (runSegs k.C k.T l p j f s)) ?_ ?_ ?_ ?_
  · intro p i f s h; rw [runRow]; exact hk.kpo _ _ _ _ h
  · intro n ns h1 h2 p i f s h
    rw [runRow]
    exact h2 _ _ _ _ (hk.kpd _ _ _ _ (h1 _ _ _ _ (hk.kpi _ _ _ _ (hk.kpo _ _ _ _ h))))
  · intro p j f s h; rw [runSegs]; exact h
  · intro q' b a r h1 h2 p j f s h
    rw [runSegs]
    exact h2 _ _ _ _ (h1 _ _ _ _ h)

/-- How a method of the walker ends. -/
def Wk.Ends (k : Wk σ κ) (S : Nat → Prop) (f : Nat) (s : σ) (w : World) (e : Ending) (w' : World) : Prop := e = .returned (.tuple #[]) ∧ ∃ S', k.At S' f s w' ∧ Mv k.g S S' w w'
def Wk.RowS (k : Wk σ κ) (a : Nd) : Prop := ∀ (S : Nat → Prop) (f : Nat) (s : σ) (w : World) (p : List Nat) (v sl kd tx cl : Value), k.At S f s w → RepL k.W0 a.kids sl → PathIn k.g S w v p → p.length + 2 * Tr.depth a ≤ 500 → f + (rowT a.kids).length ≤ k.T.length → k.Lim (runRow k.C k.T a.kids p 0 f s) →
  Calls Try.prog 37 #[.pointer (some ⟨k.g, 0, none⟩), .agg #[kd, tx, cl, sl], v] w (k.Ends S (f + (rowT a.kids).length) (runRow k.C k.T a.kids p 0 f s) w)
def Wk.TreeS (k : Wk σ κ) (n : Nd) : Prop := ∀ (S : Nat → Prop) (f : Nat) (s : σ) (w : World) (p : List Nat) (v sl : Value), k.At S f s w → RepL k.W0 n.kids sl → PathIn k.g S w v p → p.length + 2 * Tr.depth n ≤ 500 → f + (itemT n).length ≤ k.T.length → k.Lim (runSegs k.C k.T (segs n) p 0 f s) →
  Calls Try.prog 47 #[.pointer (some ⟨k.g, 0, none⟩), nv n sl, v] w (k.Ends S (f + (itemT n).length) (runSegs k.C k.T (segs n) p 0 f s) w)
end Go.Proofs.Ytdacpbdamliafaa

/- A law on regions that draw their order: plain operations beside lone ones, which keep a class of worlds in which the plain ones yield the same; each stretch is shut by an operation that waits for all of it. -/
namespace Go.Proofs.Ytdacpbdamliafaa
open Go.RowKit

section
variable {P : Program} {ops : Array Oper} {md : Region.Mode} {C : World → Prop} {Q : Exit → Act → World → Prop}

/-- A plain operation: one value in every world of the class, the world as it was. -/
def stillUpon (w : World) (v : Value) : Result Next → Prop
  | .ok (.value u) w' => w' = w ∧ u = v
  | _ => False
def stillV (P : Program) (o : Oper) (a : Act) (C : World → Prop) (next : Act → Prop) : Prop := ∃ v, (∀ w, C w → stillUpon w v ((execOp a.eval o).run P w)) ∧ next (a.put o.dst v)
theorem stillUpon_ok {w : World} {v : Value} {r : Result Next} (h : stillUpon w v r) : r = .ok (.value v) w := by
  cases r with
  | ok n w' =>
    cases n <;> simp only [stillUpon] at h
    obtain ⟨rfl, rfl⟩ := h
    rfl
  | halt x w' => exact h.elim

/-- Whatever order is picked of these; and the class is kept behind each. -/
def wpAnyU (P : Program) (md : Region.Mode) (ops : Array Oper) (Q : Exit → Act → World → Prop) (C : World → Prop) (ns : List Nat) (L : Array Bool → Act → World → Prop) : Nat → Array Bool → Act → World → Prop
  | 0, listed, a, w => L listed a w
  | f + 1, listed, a, w => Region.ready md ops listed ≠ [] ∧ ∀ i ∈ Region.ready md ops listed, i ∈ ns ∧ wpOp P ops Q i (fun a' w' => C w' ∧ wpAnyU P md ops Q C ns L f (listed.setIfInBounds i true) a' w') a w

theorem wpAny_of_U {ns : List Nat} {g : Nat} {L : Array Bool → Act → World → Prop} (hL : ∀ listed a w, C w → L listed a w → wpAny P md ops Q g listed a w) :
    ∀ (f : Nat) (listed : Array Bool) (a : Act) (w : World), C w → wpAnyU P md ops Q C ns L f listed a w → wpAny P md ops Q (f + g) listed a w
  | 0, listed, a, w, hC, h => by rw [Nat.zero_add]; exact hL _ _ _ hC h
  | f + 1, listed, a, w, _, h => by
    rw [show f + 1 + g = (f + g) + 1 by omega]
    exact ⟨fun h0 => absurd h0 h.1, fun i hi => wpOp_mono (fun a' w' h' => wpAny_of_U hL f _ a' w' h'.1 h'.2) (h.2 i hi).2⟩

theorem wpAnyU_first {ns : List Nat} {t : Option Nat} {listed0 : Array Bool} {i : Nat} {oi : Oper} {v : Value} {L : Array Bool → Act → World → Prop} (hi : ops[i]? = some oi) (hsel : ∀ (j : Nat) (o : Oper) cs b, ops[j]? = some o → o.op ≠ .select cs b)
    (hQ : ∀ c a w, Q (.panic c) (a.put oi.dst v) w → Q (.panic c) a w)
    (hs : shutB md ops ns t listed0 = true) (hin : i ∈ ns) (hdone : ∀ listed a w, L listed a w → ∀ j ∈ Region.ready md ops listed, j ∉ ns) :
    ∀ (f : Nat) (listed : Array Bool) (a : Act) (w : World), ZInv md ops ns listed0 listed →
      (∀ j oj, ops[j]? = some oj → j ≠ i → listed.getD j true = false → (∀ e ∈ oj.after, Region.binds md e = true → e.on ≠ i) → oi.apart ops oj = true) →
      i ∈ Region.ready md ops listed → YieldsIf P ops C oi v a → C w →
      wpAnyU P md ops Q C ns L f (listed.setIfInBounds i true) (a.put oi.dst v) w → wpAnyU P md ops Q C ns L (f + 1) listed a w := by
  intro f
  induction f with
  | zero =>
    intro listed a w inv _ hr hy hC H
    have hun := (mem_ready.1 hr).1
    refine ⟨fun h => (by rw [h] at hr; cases hr), fun j hj => ?_⟩
    have hjn := shut_spec hs inv.closed inv.sub inv.sup ⟨i, hin, getD_both hun⟩ j hj
    refine ⟨hjn, ?_⟩
    by_cases hji : j = i
    · subst hji; exact hy.wpOp hi hC ⟨hC, H⟩
    · exact absurd hjn (hdone _ _ _ H j (ready_mono hj hji))
  | succ f ih =>
    intro listed a w inv hfree hr hy hC H
    have hun := (mem_ready.1 hr).1
    refine ⟨fun h => (by rw [h] at hr; cases hr), fun j hj => ?_⟩
    have hjn := shut_spec hs inv.closed inv.sub inv.sup ⟨i, hin, getD_both hun⟩ j hj
    refine ⟨hjn, ?_⟩
    by_cases hji : j = i
    · subst hji; exact hy.wpOp hi hC ⟨hC, H⟩
    · have h1 := (H.2 j (ready_mono hj hji)).2
      obtain ⟨hjun, oj, hoj, hall⟩ := mem_ready.1 hj
      have hnot : ∀ e ∈ oj.after, Region.binds md e = true → e.on ≠ i := fun e he hb heq => by
        have h1 := hall e he hb
        rw [heq, getD_both hun] at h1
        cases h1
      have h2 := wpOp_putIf hoj (hfree j oj hoj hji hjun hnot) (fun cs b => hsel i oi cs b hi) (fun cs b => hsel j oj cs b hoj) hQ hy h1
      have hfree' : ∀ k ok, ops[k]? = some ok → k ≠ i → (listed.setIfInBounds j true).getD k true = false →
          (∀ e ∈ ok.after, Region.binds md e = true → e.on ≠ i) → oi.apart ops ok = true := fun k ok hk hki hun hno => by
        refine hfree k ok hk hki ?_ hno
        by_cases hjk : j = k
        · subst hjk; exact hjun
        · rw [getD_set_ne true hjk] at hun; exact hun
      refine wpOp_mono (fun a' w' h3 => ⟨h3.2.1, ih (listed.setIfInBounds j true) a' w' (inv.put hj hjn) hfree' (ready_mono hr (Ne.symm hji)) h3.1 h3.2.1 ?_⟩) h2
      rw [Array.setIfInBounds_comm _ _ hji]
      exact h3.2.2

/-- The walk of a stretch: plain operations (true) and lone ones, in this order. -/
def wpSeq (P : Program) (l : List Oper) (Q : Exit → Act → World → Prop) (C : World → Prop) (L : Act → World → Prop) : List (Nat × Bool) → Act → World → Prop
  | [], a, w => L a w
  | (i, true) :: r, a, w => match l[i]? with
    | some o => if Region.wanted o (yielded l.toArray a.tmps) then stillV P o a C (fun a' => wpSeq P l Q C L r a' w) else wpSeq P l Q C L r (a.put o.dst undef) w
    | none => wpSeq P l Q C L r a w
  | (i, false) :: r, a, w => wpList P l.toArray (Exit.then (fun a' w' => C w' ∧ wpSeq P l Q C L r a' w') Q) (pick l [i]) a w
theorem wpSeq_plain {l : List Oper} {L : Act → World → Prop} {i : Nat} {o : Oper} {r : List (Nat × Bool)} {a : Act} {w : World} (ho : l[i]? = some o)
    (h : ∀ K : Act → Prop, (∀ a, wpSeq P l Q C L r a w → K a) → if Region.wanted o (yielded l.toArray a.tmps) then stillV P o a C K else K (a.put o.dst undef)) : wpSeq P l Q C L ((i, true) :: r) a w := by
  unfold wpSeq
  rw [ho]
  exact h _ (fun _ h => h)

theorem wpSeq_lone {l : List Oper} {L : Act → World → Prop} {i : Nat} {o : Oper} {r : List (Nat × Bool)} {a : Act} {w : World} (ho : l[i]? = some o)
    (h : ∀ K : Act → World → Prop, (∀ a w, C w → wpSeq P l Q C L r a w → K a w) → wpList P l.toArray (Exit.then K Q) [o] a w) : wpSeq P l Q C L ((i, false) :: r) a w := by
  unfold wpSeq
  have hp : pick l [i] = [o] := by simp [pick, ho]
  rw [hp]
  exact h _ (fun _ _ h1 h2 => ⟨h1, h2⟩)
def wpMix (Cl : World → World → Prop) (P : Program) (l : List Oper) (Q : Exit → Act → World → Prop) : List (List (Nat × Bool) × Nat) → List (Nat × Bool) → Act → World → World → Prop
  | [], last, a, w0, w => wpSeq P l Q (Cl w0) (fun a' w' => Q .normal a' w') last a w
  | (s, t) :: segs, last, a, w0, w => wpSeq P l Q (Cl w0) (fun a' w' => wpList P l.toArray (Exit.then (fun a'' w'' => wpMix Cl P l Q segs last a'' w'' w'') Q) (pick l [t]) a' w') s a w

theorem wpSeq_shut {l : List Oper} {Cl : World → World → Prop} {t : Nat} {o : Oper} {segs : List (List (Nat × Bool) × Nat)} {last : List (Nat × Bool)} {a : Act} {w : World} (ho : l[t]? = some o)
    (h : ∀ K : Act → World → Prop, (∀ a w, wpMix Cl P l Q segs last a w w → K a w) → wpList P l.toArray (Exit.then K Q) [o] a w) : wpSeq P l Q C (fun a' w' => wpList P l.toArray (Exit.then (fun a'' w'' => wpMix Cl P l Q segs last a'' w'' w'') Q) (pick l [t]) a' w') [] a w := by
  unfold wpSeq
  have hp : pick l [t] = [o] := by simp [pick, ho]
  rw [hp]
  exact h _ (fun _ _ h1 => h1)

def seqB (md : Region.Mode) (ops : Array Oper) : List (Nat × Bool) → Array Bool → Bool
  | [], _ => true
  | (k, true) :: r, listed => (Region.ready md ops listed).contains k && Region.free md ops listed k && seqB md ops r (listed.setIfInBounds k true)
  | (k, false) :: r, listed => decide (Region.ready md ops listed = [k]) && seqB md ops r (listed.setIfInBounds k true)

theorem wpAnyU_seq {l0 : List Oper} {ns : List Nat} {t : Option Nat} {listed0 : Array Bool} {Lq : Act → World → Prop} {fin : Array Bool} (hsel : Region.noSelect l0.toArray = true) (hQ : ∀ c a d v w, Q (.panic c) (Act.put a d v) w → Q (.panic c) a w)
    (hs : shutB md l0.toArray ns t listed0 = true) (hfin : ∀ j ∈ Region.ready md l0.toArray fin, j ∉ ns) :
    ∀ (s : List (Nat × Bool)) (listed : Array Bool) (a : Act) (w : World), (∀ k ∈ s, k.1 ∈ ns) → ZInv md l0.toArray ns listed0 listed → seqB md l0.toArray s listed = true → setAll (s.map (·.1)) listed = fin → C w →
    wpSeq P l0 Q C Lq s a w → wpAnyU P md l0.toArray Q C ns (fun listed' a' w' => listed' = fin ∧ Lq a' w') s.length listed a w
  | [], listed, a, w, _, _, _, hf, _, h => ⟨hf, h⟩
  | (k, true) :: r, listed, a, w, hq, inv, hB, hf, hC, h => by
    simp only [seqB, Bool.and_eq_true] at hB
    obtain ⟨⟨hr, hfr⟩, hB'⟩ := hB
    have hr' : k ∈ Region.ready md l0.toArray listed := by simpa using hr
    obtain ⟨_, o, ho, _⟩ := mem_ready.1 hr'
    have ho' : l0[k]? = some o := by simpa using ho
    unfold wpSeq at h
    rw [ho'] at h
    have hkq := hq (k, true) (by simp)
    obtain ⟨v, hy, hK⟩ : ∃ v, YieldsIf P l0.toArray C o v a ∧ wpSeq P l0 Q C Lq r (a.put o.dst v) w := by
      by_cases hw : Region.wanted o (yielded l0.toArray a.tmps) = true
      · simp only [hw, if_true] at h
        obtain ⟨v, h1, h2⟩ := h
        exact ⟨v, .inl ⟨hw, fun w hw => stillUpon_ok (h1 w hw)⟩, h2⟩
      · simp only [hw] at h
        exact ⟨undef, .inr ⟨by simpa using hw, rfl⟩, h⟩
    exact wpAnyU_first ho (Region.noSelect_spec hsel) (fun c a w => hQ c a o.dst v w) hs hkq (fun listed' a' w' hL => by rw [hL.1]; exact hfin) r.length listed a w inv (Region.free_spec ho hfr) hr' hy hC
      (wpAnyU_seq hsel hQ hs hfin r _ _ w (fun x hx => hq x (by simp [hx])) (inv.put hr' hkq) hB' hf hC hK)
  | (k, false) :: r, listed, a, w, hq, inv, hB, hf, hC, h => by
    simp only [seqB, Bool.and_eq_true, decide_eq_true_eq] at hB
    obtain ⟨hr, hB'⟩ := hB
    have hr' : k ∈ Region.ready md l0.toArray listed := by rw [hr]; simp
    obtain ⟨_, o, ho, _⟩ := mem_ready.1 hr'
    have hkq := hq (k, false) (by simp)
    refine ⟨by rw [hr]; simp, fun i hi => ?_⟩
    rw [hr] at hi
    rw [List.mem_singleton.1 hi]
    unfold wpSeq at h
    exact ⟨hkq, wpOp_mono (fun a' w' h' => ⟨h'.1, wpAnyU_seq hsel hQ hs hfin r _ a' w' (fun x hx => hq x (by simp [hx])) (inv.put hr' hkq) hB' hf h'.1 h'.2⟩) (wpOp_of_single ho h)⟩
theorem seq_inv {ns : List Nat} {listed0 : Array Bool} : ∀ (s : List (Nat × Bool)) (listed : Array Bool), (∀ k ∈ s, k.1 ∈ ns) → ZInv md ops ns listed0 listed → seqB md ops s listed = true → ZInv md ops ns listed0 (setAll (s.map (·.1)) listed)
  | [], _, _, inv, _ => inv
  | (k, true) :: r, listed, hq, inv, hB => by
    simp only [seqB, Bool.and_eq_true] at hB
    exact seq_inv r _ (fun x hx => hq x (by simp [hx])) (inv.put (by simpa using hB.1.1) (hq (k, true) (by simp))) hB.2
  | (k, false) :: r, listed, hq, inv, hB => by
    simp only [seqB, Bool.and_eq_true, decide_eq_true_eq] at hB
    exact seq_inv r _ (fun x hx => hq x (by simp [hx])) (inv.put (by rw [hB.1]; simp) (hq (k, false) (by simp))) hB.2

/-- Stretches, each shut by one that waits for it. -/
def mixB (md : Region.Mode) (ops : Array Oper) : List (List (Nat × Bool) × Nat) → List (Nat × Bool) → Array Bool → Bool
  | [], last, listed => shutB md ops (last.map (·.1)) none listed && seqB md ops last listed && (Region.ready md ops (setAll (last.map (·.1)) listed)).isEmpty
  | (s, t) :: segs, last, listed => shutB md ops (s.map (·.1)) (some t) listed && seqB md ops s listed && decide (Region.ready md ops (setAll (s.map (·.1)) listed) = [t]) && !(s.map (·.1)).contains t &&
      mixB md ops segs last ((setAll (s.map (·.1)) listed).setIfInBounds t true)
def mixN : List (List (Nat × Bool) × Nat) → List (Nat × Bool) → Nat
  | [], last => last.length
  | (s, _) :: segs, last => s.length + (mixN segs last + 1)
theorem wpMix_seg {Cl : World → World → Prop} {l : List Oper} {a : Act} {w0 w : World} {s : List (Nat × Bool)} {t : Nat} {segs : List (List (Nat × Bool) × Nat)} {last : List (Nat × Bool)}
    (h : wpSeq P l Q (Cl w0) (fun a' w' => wpList P l.toArray (Exit.then (fun a'' w'' => wpMix Cl P l Q segs last a'' w'' w'') Q) (pick l [t]) a' w') s a w) : wpMix Cl P l Q ((s, t) :: segs) last a w0 w := h
theorem wpMix_last {Cl : World → World → Prop} {l : List Oper} {a : Act} {w0 w : World} {last : List (Nat × Bool)} (h : wpSeq P l Q (Cl w0) (fun a' w' => Q .normal a' w') last a w) : wpMix Cl P l Q [] last a w0 w := h
theorem wpSeq_end {l : List Oper} {L : Act → World → Prop} {a : Act} {w : World} (h : L a w) : wpSeq P l Q C L [] a w := h
theorem wpMix_end {Cl : World → World → Prop} {l : List Oper} {a : Act} {w0 w : World} (h : Q .normal a w) : wpMix Cl P l Q [] [] a w0 w := h

theorem wpAny_of_mix {Cl : World → World → Prop} (hrefl : ∀ w, Cl w w) {l : List Oper} (hsel : Region.noSelect l.toArray = true) (hQ : ∀ c a d v w, Q (.panic c) (Act.put a d v) w → Q (.panic c) a w) :
    ∀ (segs : List (List (Nat × Bool) × Nat)) (last : List (Nat × Bool)) (listed : Array Bool) (a : Act) (w0 w : World),
    Closed md l.toArray listed → mixB md l.toArray segs last listed = true → Cl w0 w → wpMix Cl P l Q segs last a w0 w → wpAny P md l.toArray Q (mixN segs last) listed a w
  | [], last, listed, a, w0, w, inv, hB, hC, h => by
    simp only [mixB, Bool.and_eq_true, List.isEmpty_iff] at hB
    obtain ⟨⟨hs, hl⟩, hr⟩ := hB
    have hz : ZInv md l.toArray (last.map (·.1)) listed listed := ⟨inv, fun _ h => h, fun _ h => .inl h⟩
    have := wpAnyU_seq (P := P) (C := Cl w0) (Q := Q) (fin := setAll (last.map (·.1)) listed) (Lq := fun a' w' => Q .normal a' w') hsel hQ hs (by rw [hr]; simp) last listed a w (fun k hk => List.mem_map.2 ⟨k, hk, rfl⟩) hz hl rfl hC h
    exact wpAny_of_U (g := 0) (fun listed' a' w' _ hL => wpAny_done (by rw [hL.1]; exact hr) hL.2 0) last.length listed a w hC this
  | (s, t) :: segs, last, listed, a, w0, w, inv, hB, hC, h => by
    simp only [mixB, Bool.and_eq_true, decide_eq_true_eq, Bool.not_eq_true'] at hB
    obtain ⟨⟨⟨⟨hs, hl⟩, hr⟩, ht⟩, hB'⟩ := hB
    have hz : ZInv md l.toArray (s.map (·.1)) listed listed := ⟨inv, fun _ h => h, fun _ h => .inl h⟩
    have hmem : ∀ k ∈ s, k.1 ∈ s.map (·.1) := fun k hk => List.mem_map.2 ⟨k, hk, rfl⟩
    have hz' := seq_inv s listed hmem hz hl
    have htr : t ∈ Region.ready md l.toArray (setAll (s.map (·.1)) listed) := by rw [hr]; simp
    have htn : t ∉ s.map (·.1) := by
      intro hx
      rw [List.contains_iff_mem.2 hx] at ht
      cases ht
    obtain ⟨_, ot, hot, _⟩ := mem_ready.1 htr
    have := wpAnyU_seq (P := P) (C := Cl w0) (Q := Q) (fin := setAll (s.map (·.1)) listed) (Lq := fun a' w' => wpList P l.toArray (Exit.then (fun a'' w'' => wpMix Cl P l Q segs last a'' w'' w'') Q) (pick l [t]) a' w') hsel hQ hs
      (by rw [hr]; intro j hj; rw [List.mem_singleton.1 hj]; exact htn) s listed a w hmem hz hl rfl hC h
    refine wpAny_of_U (g := mixN segs last + 1) (fun listed' a' w' _ hL => ?_) s.length listed a w hC this
    refine wpAny_all (rs := [t]) (by rw [hL.1]; exact hr) (by simp) (fun i hi => ?_)
    rw [List.mem_singleton.1 hi, hL.1]
    exact wpOp_mono (fun a'' w'' h'' => wpAny_of_mix hrefl hsel hQ segs last _ a'' w'' w'' (hz'.closed.put htr) hB' (hrefl w'') h'') (wpOp_of_single hot hL.2)

/-- **A region that draws its order: plain operations beside lone ones.** -/
theorem wp_region_mix {id : Nat} {a : Act} {w : World} {l : List Oper} (segs : List (List (Nat × Bool) × Nat)) (last : List (Nat × Bool)) (hm : P.follows .mixedOrders = true) (hQ : ∀ c a d v w, Q (.panic c) (Act.put a d v) w → Q (.panic c) a w)
    (hB : (Region.noSelect l.toArray && decide (mixN segs last = l.toArray.size) && mixB .any l.toArray segs last (Array.replicate l.toArray.size false)) = true)
    (h : wpMix (fun w w' => ∃ p : Regrown, w' = Go.Sort.grow (redrawn w p.d) p.os) P l Q segs last a w (w.drewN 1)) : (Code.region id l.toArray true).wp P Q a w := by
  simp only [Bool.and_eq_true, decide_eq_true_eq] at hB
  obtain ⟨⟨hsel, hn⟩, hB⟩ := hB
  refine wp_region_any hm ?_
  rw [← hn]
  rw [← hn] at hB
  exact wpAny_of_mix Growing.refl hsel hQ segs last _ a w _ ⟨by simp [hn], fun j oj _ hl => by rw [getD_repl] at hl; cases hl⟩ hB (Growing.drew w) h
end
theorem growing_fresh {w w' : World} (h : Fresh w w') : ∃ p : Regrown, w' = Go.Sort.grow (redrawn w p.d) p.os := regrown_of_below h.below
end Go.Proofs.Ytdacpbdamliafaa

/- The walker's small methods: end, scripted, group, slot. -/
namespace Go.Proofs.Ytdacpbdamliafaa
open Go.RowKit
open Tr (Nd Clo runRow runSegs rowT itemT segs)

attribute [local go_sem] stillV stillUpon
variable {σ κ : Type}
theorem fromAt_eq (T : List Lx.PTok) (f : Nat) (h : f < T.length) : Tr.fromAt T f = T[f].from_ := by unfold Tr.fromAt; rw [List.getElem?_eq_getElem h]; rfl
theorem endAt_eq (T : List Lx.PTok) (f : Nat) (h : f < T.length) : Tr.endAt T (f + 1) = T[f].to_ := by unfold Tr.endAt; rw [if_neg (by omega), Nat.add_sub_cancel, List.getElem?_eq_getElem h]; rfl
theorem endAt_zero (T : List Lx.PTok) : Tr.endAt T 0 = 0 := rfl

set_option maxRecDepth 100000 in
set_option maxHeartbeats 1000000 in
theorem end_any {k : Wk σ κ} (hk : k.Good) {S : Nat → Prop} {f : Nat} {s : σ} {w : World} (h : k.At S f s w) (hf : f ≤ k.T.length) :
    Calls Try.prog 48 #[.pointer (some ⟨k.g, 0, none⟩)] w fun e w' => e = .returned (.int .i64 (Tr.endAt k.T f : Nat)) ∧ Fresh w w' := by
  have hlen := hk.len
  obtain ⟨q0, q1, q2, q3, _⟩ := h.cells
  obtain ⟨A, cap, hv, ht⟩ := h.tok
  rw [hv] at q0
  clear q2 q3 hv
  generalize k.g = g at *
  cases f with
  | zero =>
    clear ht hlen hf h
    go_enter Try.func48, Try.ntmps48
    go_wp2_with fail
    go_ret
    exact ⟨rfl, Touch.refl _ _⟩
  | succ f =>
    have hf' : f < k.T.length := by omega
    obtain ⟨rfl, hlt, _, t2, t3⟩ := ht f hf'
    have HE := hid (endAt_eq k.T f hf')
    have c0 : (((f + 1 : Nat) : Int) == (0 : Int)) = false := by rw [beq_eq_false_iff_ne]; omega
    have c0n : (f + 1 == 0) = false := by simp
    have e1 : ((f + 1 : Nat) : Int) = (f : Int) + 1 := by omega
    have e2 : IntKind.i64.wrap ((f : Int) + 1 - 1) = (f : Int) := by rw [show ((f : Int) + 1 - 1) = (f : Int) by omega]; exact IntWalk.i64_in _ (by omega)
    have e3 : (f : Int) < (k.T.length : Int) := by omega
    have e4 : (f : Int) + 1 - 1 = (f : Int) := by omega
    clear hf h t2 ht
    rw [HE.out]
    rw [e1] at q1
    rw [e1] at c0
    generalize k.T[f] = t at *
    generalize k.T.length = m at *
    clear e1 HE
    go_enter Try.func48, Try.ntmps48
    go_wp2_with fail
    go_quiet (fail)
    go_wp2_with fail
    go_ret
    exact ⟨rfl, (Touch.refl _ _).drewN _⟩

theorem wscripted_any (n : Nd) (sl : Value) (w : World) : Calls Try.prog 74 #[nv n sl] w fun e w' => e = .returned (.bool (Tr.scripted n)) ∧ Fresh w w' := by
  cases k7 : (n.kind == 7) with
  | true =>
    go_enter Try.func74, Try.ntmps74
    go_wp2_with fail
    go_ret
    exact ⟨ret_bool' _ _ (by simp [Tr.scripted, k7]), (Touch.refl _ _).alloc _⟩
  | false =>
    cases k8 : (n.kind == 8) with
    | true =>
      go_enter Try.func74, Try.ntmps74
      go_wp2_with fail
      go_ret
      exact ⟨ret_bool' _ _ (by simp [Tr.scripted, k8]), (Touch.refl _ _).alloc _⟩
    | false =>
      go_enter Try.func74, Try.ntmps74
      go_wp2_with fail
      go_ret
      exact ⟨ret_bool' _ _ (by simp [Tr.scripted, k7, k8]), (Touch.refl _ _).alloc _⟩
theorem grp_len (a : Nd) (h : a.kids.length ≠ 1) : Tr.grp a = true := by
  unfold Tr.grp
  split
  · rename_i x hx; rw [hx] at h; simp at h
  · rfl
theorem grp_one (a x : Nd) (h : a.kids = [x]) : Tr.grp a = !Tr.leaf x := by unfold Tr.grp; rw [h]
set_option maxRecDepth 100000 in
set_option maxHeartbeats 1000000 in
theorem wgroup_any (n : Nd) (sl : Value) (w : World) (hr : RepL w n.kids sl) : Calls Try.prog 75 #[nv n sl] w fun e w' => e = .returned (.bool (Tr.grp n)) ∧ Fresh w w' := by
  have hlen := hr.len
  unfold maxLen at hlen
  by_cases h1 : n.kids.length = 1
  · obtain ⟨x, hx⟩ := List.length_eq_one_iff.1 h1
    rw [grp_one n x hx]
    rw [hx] at hr
    obtain ⟨g, o, cap, sx, rfl, x0, x1, x2, x3, hrx⟩ := hr.one
    have hgw : g < w.heap.size := block_lt_of_cell x0
    clear hrx x1 x2 x3 hlen h1
    cases k2 : (x.kind == 2) with
    | true =>
      have k2' : (x.kind != 2) = false := by rw [bne, k2]; rfl
      go_enter Try.func75, Try.ntmps75
      go_wp2_with fail
      go_ret
      exact ⟨ret_bool' _ _ (by simp [Tr.leaf, k2]), (Touch.refl _ _).alloc _⟩
    | false =>
      have k2' : (x.kind != 2) = true := by rw [bne, k2]; rfl
      cases k3 : (x.kind == 3) with
      | true =>
        have k3' : (x.kind != 3) = false := by rw [bne, k3]; rfl
        go_enter Try.func75, Try.ntmps75
        go_wp2_with fail
        go_ret
        exact ⟨ret_bool' _ _ (by simp [Tr.leaf, k3]), (Touch.refl _ _).alloc _⟩
      | false =>
        have k3' : (x.kind != 3) = true := by rw [bne, k3]; rfl
        go_enter Try.func75, Try.ntmps75
        go_wp2_with fail
        go_ret
        exact ⟨ret_bool' _ _ (by simp [Tr.leaf, k2, k3]; rfl), (Touch.refl _ _).alloc _⟩
  · rw [grp_len n h1]
    obtain ⟨A, cap, rfl⟩ := hr.slice
    have b1 : ((n.kids.length : Int) == (1 : Int)) = false := by rw [beq_eq_false_iff_ne]; omega
    have b1' : ((n.kids.length : Int) != (1 : Int)) = true := by rw [bne, b1]; rfl
    have b2 : (n.kids.length == 1) = false := by simpa using h1
    clear hr hlen h1
    go_enter Try.func75, Try.ntmps75
    go_wp2_with fail
    go_ret
    exact ⟨rfl, (Touch.refl _ _).alloc _⟩

/-- How a slot's walk ends. -/
def Wk.SlotEnds (k : Wk σ κ) (S : Nat → Prop) (f : Nat) (s : σ) (w : World) (a : Nd) (p : List Nat) (b : Bool) : Ending → World → Prop :=
  k.Ends S (f + 2 * b.toNat + (rowT a.kids).length) (runRow k.C k.T a.kids p 0 (f + b.toNat) s) w

set_option maxRecDepth 100000 in
set_option maxHeartbeats 2000000 in
theorem slot_no {k : Wk σ κ} (hk : k.Good) (n : Nd) (j : Nat) (hj : j < n.kids.length) (hrow : k.RowS n.kids[j]) {S : Nat → Prop} {f : Nat} {s : σ} {w : World} (h : k.At S f s w) {p : List Nat} {v sl : Value}
    (hsl : RepL k.W0 n.kids sl) (hp : PathIn k.g S w v p) (hd : p.length + 1 + 2 * Tr.depth n.kids[j] ≤ 500) (hf : f + (rowT n.kids[j].kids).length ≤ k.T.length) (hlim : k.Lim (runRow k.C k.T n.kids[j].kids (p ++ [j]) 0 (f + false.toNat) s)) :
    Calls Try.prog 73 #[.pointer (some ⟨k.g, 0, none⟩), nv n sl, v, .int .i64 (j : Int), .bool false] w (k.SlotEnds S f s w n.kids[j] (p ++ [j]) false) := by
  unfold Wk.SlotEnds
  have hlen := hsl.len
  unfold maxLen at hlen
  have hjl : (j : Int) < (n.kids.length : Int) := by omega
  obtain ⟨A, cap, rfl⟩ := hsl.slice
  obtain ⟨g, o, sx, rfl, hg, m0, m1, m2, m3, hrk⟩ := hsl.get j hj
  obtain ⟨Ax, capx, rfl⟩ := hrk.slice
  obtain ⟨Ap, capp, rfl⟩ := hp.slice
  have HROW := hid hrow
  have HRK := hid hrk
  have M0 := hid m0
  have M1 := hid m1
  have M2 := hid m2
  have M3 := hid m3
  have HD := hid hd
  have HF := hid hf
  have HK := hid hk
  have HAT := hid h
  have HP := hid hp
  have HLIM := hid hlim
  clear hlim
  clear hrow hrk m0 m1 m2 m3 hd hf hk h hp hsl
  generalize n.kids[j] = x at *
  generalize n.kids.length = len at *
  go_enter Try.func73, Try.ntmps73
  go_wp2_with fail
  refine forget_world (fun W => Fresh w W ∧ Blk W w.heap.size 24 #[.int .i64 n.kind, .string ⟨n.text.toArray⟩, .int .i64 n.cols, .slice (some ⟨g, o, none⟩) len cap]) ⟨(Touch.refl _ _).alloc _, Blk.new _ _ _⟩ ?_
  rintro W4 ⟨hf4, hb4⟩
  obtain ⟨q0, q1, q2, q3, _, _, _, _, hg4⟩ := Blk.four hb4
  have HF4 := hid hf4
  have HAT4 := hid (HAT.out.fresh HK.out hf4)
  have HP4 := hid (HP.out.mv (Mv.fresh hf4))
  have a0 := Low.cell HAT4.out.low M0.out
  have a1 := Low.cell HAT4.out.low M1.out
  have a2 := Low.cell HAT4.out.low M2.out
  have a3 := Low.cell HAT4.out.low M3.out
  have hgw : g < W4.heap.size := block_lt_of_cell a0
  clear hf4 hb4
  have g0 := cell_regrown q0
  have g1 := cell_regrown q1
  have g2 := cell_regrown q2
  have g3 := cell_regrown q3
  have h0 := cell_regrown a0
  have h1 := cell_regrown a1
  have h2 := cell_regrown a2
  have h3 := cell_regrown a3
  refine wp_region_mix [([(0, true), (1, true), (2, true), (3, true), (4, true), (5, true), (6, true), (7, true), (8, false), (9, false), (10, false)], 11)] [] (by kernel_rfl) (fun _ _ d _ _ h => by cases d <;> exact h) (by kernel_rfl) ?_
  refine wpMix_seg ?_
  repeat (refine wpSeq_plain rfl (fun K hK => ?_); go_simp; refine hK _ ?_; clear hK K)
  refine wpSeq_lone rfl (fun K hK => ?_)
  go_wp2_with fail
  refine hK _ _ (growing_fresh (((Touch.refl _ _).drewN _).alloc _)) ?_
  clear hK K
  refine wpSeq_lone rfl (fun K hK => ?_)
  go_wp2_with fail
  refine hK _ _ (growing_fresh ((((Touch.refl _ _).drewN _).alloc _).alloc _)) ?_
  clear hK K
  refine wpSeq_lone rfl (fun K hK => ?_)
  go_wp2_with fail
  refine (path_cat (HP4.out) (HAT4.out.slt HK.out) HAT4.out.glt (by have := HD.out; omega) j 1).mono ?_
  rintro _ W6 ⟨A6, cap6, rfl, hp6, hf6⟩
  have HP6 := hid hp6
  have HF6 := hid hf6
  clear hp6 hf6
  go_wp2_with fail
  refine hK _ _ (growing_fresh HF6.out) ?_
  clear hK K
  refine wpSeq_shut rfl (fun K hK => ?_)
  go_wp2_with fail
  refine (HROW.out _ _ _ _ _ _ _ _ _ _ (HAT4.out.fresh HK.out HF6.out) HRK.out HP6.out (by have := HD.out; simp only [List.length_append, List.length_singleton]; omega) HF.out HLIM.out).mono ?_
  rintro _ W7 ⟨rfl, S7, hat, hmv⟩
  have HAT7 := hid hat
  have HMV7 := hid ((Mv.fresh (HF4.out.trans HF6.out)).trans hmv)
  clear hat hmv
  go_wp2_with fail
  refine wpMix_end ?_
  go_wp2_with fail
  go_end0
  exact ⟨rfl, S7, HAT7.out, HMV7.out⟩
set_option maxRecDepth 100000 in
set_option maxHeartbeats 2000000 in
theorem slot_yes {k : Wk σ κ} (hk : k.Good) (n : Nd) (j : Nat) (hj : j < n.kids.length) (hrow : k.RowS n.kids[j]) {S : Nat → Prop} {f : Nat} {s : σ} {w : World} (h : k.At S f s w) {p : List Nat} {v sl : Value}
    (hsl : RepL k.W0 n.kids sl) (hp : PathIn k.g S w v p) (hd : p.length + 1 + 2 * Tr.depth n.kids[j] ≤ 500) (hf : f + 2 + (rowT n.kids[j].kids).length ≤ k.T.length) (hlim : k.Lim (runRow k.C k.T n.kids[j].kids (p ++ [j]) 0 (f + true.toNat) s)) :
    Calls Try.prog 73 #[.pointer (some ⟨k.g, 0, none⟩), nv n sl, v, .int .i64 (j : Int), .bool true] w (k.SlotEnds S f s w n.kids[j] (p ++ [j]) true) := by
  unfold Wk.SlotEnds
  have hlen := hsl.len
  unfold maxLen at hlen
  have hjl : (j : Int) < (n.kids.length : Int) := by omega
  obtain ⟨A, cap, rfl⟩ := hsl.slice
  obtain ⟨g, o, sx, rfl, hg, m0, m1, m2, m3, hrk⟩ := hsl.get j hj
  obtain ⟨Ax, capx, rfl⟩ := hrk.slice
  obtain ⟨Ap, capp, rfl⟩ := hp.slice
  have HROW := hid hrow
  have HRK := hid hrk
  have M0 := hid m0
  have M1 := hid m1
  have M2 := hid m2
  have M3 := hid m3
  have HD := hid hd
  have HF := hid hf
  have HK := hid hk
  have HAT := hid h
  have HP := hid hp
  have HLIM := hid hlim
  clear hlim
  clear hrow hrk m0 m1 m2 m3 hd hf hk h hp hsl
  obtain ⟨_, b1, _, _, bf⟩ := HAT.out.cells
  have hglt := HAT.out.glt
  have hlt := HK.out.len
  have hb0 : (f : Int) ≤ 100000 := by have := HF.out; omega
  have hb1 : 0 ≤ (f : Int) := by omega
  generalize n.kids[j] = x at *
  generalize n.kids.length = len at *
  go_enter Try.func73, Try.ntmps73
  go_wp2_with fail
  refine forget_world (fun W => k.At S (f + 1) s W ∧ Mv k.g S S w W ∧ Blk W w.heap.size 24 #[.int .i64 n.kind, .string ⟨n.text.toArray⟩, .int .i64 n.cols, .slice (some ⟨g, o, none⟩) len cap]) ?_ ?_
  · obtain ⟨hn1, hn2⟩ := HAT.out.next HK.out (f' := f + 1) ((f : Int) + 1) (by omega)
    have hsz : w.heap.size = (w.setCell ⟨k.g, 1, none⟩ (.int .i64 ((f : Int) + 1))).heap.size := by simp [World.setCell]
    refine ⟨hn1.fresh HK.out ((Touch.refl _ _).alloc _), hn2.trans (Mv.fresh ((Touch.refl _ _).alloc _)), ?_⟩
    rw [hsz]
    exact Blk.new _ _ _
  clear b1 bf hglt hlt hb0 hb1
  rintro W4 ⟨hat4, hmv4, hb4⟩
  obtain ⟨q0, q1, q2, q3, _, _, _, _, hg4⟩ := Blk.four hb4
  have HAT4 := hid hat4
  have HMV4 := hid hmv4
  have HP4 := hid (HP.out.mv hmv4)
  have a0 := Low.cell HAT4.out.low M0.out
  have a1 := Low.cell HAT4.out.low M1.out
  have a2 := Low.cell HAT4.out.low M2.out
  have a3 := Low.cell HAT4.out.low M3.out
  have hgw : g < W4.heap.size := block_lt_of_cell a0
  clear hat4 hmv4 hb4
  have g0 := cell_regrown q0
  have g1 := cell_regrown q1
  have g2 := cell_regrown q2
  have g3 := cell_regrown q3
  have h0 := cell_regrown a0
  have h1 := cell_regrown a1
  have h2 := cell_regrown a2
  have h3 := cell_regrown a3
  refine wp_region_mix [([(0, true), (1, true), (2, true), (3, true), (4, true), (5, true), (6, true), (7, true), (8, false), (9, false), (10, false)], 11)] [] (by kernel_rfl) (fun _ _ d _ _ h => by cases d <;> exact h) (by kernel_rfl) ?_
  refine wpMix_seg ?_
  repeat (refine wpSeq_plain rfl (fun K hK => ?_); go_simp; refine hK _ ?_; clear hK K)
  refine wpSeq_lone rfl (fun K hK => ?_)
  go_wp2_with fail
  refine hK _ _ (growing_fresh (((Touch.refl _ _).drewN _).alloc _)) ?_
  clear hK K
  refine wpSeq_lone rfl (fun K hK => ?_)
  go_wp2_with fail
  refine hK _ _ (growing_fresh ((((Touch.refl _ _).drewN _).alloc _).alloc _)) ?_
  clear hK K
  refine wpSeq_lone rfl (fun K hK => ?_)
  go_wp2_with fail
  refine (path_cat (HP4.out) (HAT4.out.slt HK.out) HAT4.out.glt (by have := HD.out; omega) j 1).mono ?_
  rintro _ W6 ⟨A6, cap6, rfl, hp6, hf6⟩
  have HP6 := hid hp6
  have HF6 := hid hf6
  clear hp6 hf6
  go_wp2_with fail
  refine hK _ _ (growing_fresh HF6.out) ?_
  clear hK K
  refine wpSeq_shut rfl (fun K hK => ?_)
  go_wp2_with fail
  refine (HROW.out _ _ _ _ _ _ _ _ _ _ (HAT4.out.fresh HK.out HF6.out) HRK.out HP6.out (by have := HD.out; simp only [List.length_append, List.length_singleton]; omega) (by have := HF.out; omega) HLIM.out).mono ?_
  rintro _ W7 ⟨rfl, S7, hat, hmv⟩
  have HAT7 := hid hat
  have HMV7 := hid ((HMV4.out.trans (Mv.fresh HF6.out)).trans hmv)
  clear hat hmv q0 q1 q2 q3 a0 a1 a2 a3 g0 g1 g2 g3 h0 h1 h2 h3
  go_wp2_with fail
  refine wpMix_end ?_
  obtain ⟨_, b1, _, _, bf⟩ := HAT7.out.cells
  have hglt := HAT7.out.glt
  have hlt := HK.out.len
  have hb0 : ((f + 1 + (rowT x.kids).length : Nat) : Int) ≤ 100000 := by have := HF.out; omega
  have hb1 : 0 ≤ ((f + 1 + (rowT x.kids).length : Nat) : Int) := by omega
  clear hlt
  have HNX := hid (HAT7.out.next HK.out (f' := f + 2 * true.toNat + (rowT x.kids).length) (((f + 1 + (rowT x.kids).length : Nat) : Int) + 1) (by simp only [Bool.toNat_true]; omega))
  generalize ((f + 1 + (rowT x.kids).length : Nat) : Int) = nx at *
  go_wp2_with fail
  go_end0
  exact ⟨rfl, S7, HNX.out.1, HMV7.out.trans HNX.out.2⟩
end Go.Proofs.Ytdacpbdamliafaa

/- The walker's tree: what an item passes. -/
namespace Go.Proofs.Ytdacpbdamliafaa
open Go.RowKit
open Tr (Nd Clo runRow runSegs rowT itemT segs segsLen segLen)
attribute [local go_sem] stillV stillUpon

variable {σ κ : Type}
theorem slot_any {k : Wk σ κ} (hk : k.Good) (n : Nd) (j : Nat) (hj : j < n.kids.length) (hrow : k.RowS n.kids[j]) {S : Nat → Prop} {f : Nat} {s : σ} {w : World} (h : k.At S f s w) {p : List Nat} {v sl : Value}
    (hsl : RepL k.W0 n.kids sl) (hp : PathIn k.g S w v p) (hd : p.length + 1 + 2 * Tr.depth n.kids[j] ≤ 500) (b : Bool) (hf : f + 2 * b.toNat + (rowT n.kids[j].kids).length ≤ k.T.length) (hlim : k.Lim (runRow k.C k.T n.kids[j].kids (p ++ [j]) 0 (f + b.toNat) s)) :
    Calls Try.prog 73 #[.pointer (some ⟨k.g, 0, none⟩), nv n sl, v, .int .i64 (j : Int), .bool b] w (k.SlotEnds S f s w n.kids[j] (p ++ [j]) b) := by
  cases b with
  | false => exact slot_no hk n j hj hrow h hsl hp hd (by simpa using hf) hlim
  | true => exact slot_yes hk n j hj hrow h hsl hp hd (by simpa using hf) hlim
theorem depth_mem {l : List Nd} {a : Nd} (h : a ∈ l) : Tr.depth a ≤ Tr.depthL l := by
  induction l with
  | nil => cases h
  | cons x l ih =>
    rw [Tr.depthL]
    rcases List.mem_cons.1 h with rfl | h
    · omega
    · have := ih h; omega
theorem map_drop {β : Type} (f : Nd → β) (l : List Nd) (j : Nat) (h : j < l.length) : (l.map f).drop j = f l[j] :: (l.map f).drop (j + 1) := by
  rw [List.drop_eq_getElem_cons (by simpa using h), List.getElem_map]
theorem run_cons (C : Clo σ κ) (T : List Lx.PTok) (k : Nat) (b : Bool) (a : Nd) (r : List (Nat × Bool × Nd)) (p : List Nat) (j f : Nat) (s : σ) :
    runSegs C T ((k, b, a) :: r) p j f s = runSegs C T r p (j + 1) (f + segLen (k, b, a)) (runRow C T a.kids (p ++ [j]) 0 (f + k + b.toNat) s) := by rw [runSegs]
theorem run_nil (C : Clo σ κ) (T : List Lx.PTok) (p : List Nat) (j f : Nat) (s : σ) : runSegs C T [] p j f s = s := by rw [runSegs]
theorem run_shift (C : Clo σ κ) (T : List Lx.PTok) (k : Nat) (b : Bool) (a : Nd) (r : List (Nat × Bool × Nd)) (p : List Nat) (j f : Nat) (s : σ) :
    runSegs C T ((k + 1, b, a) :: r) p j f s = runSegs C T ((k, b, a) :: r) p j (f + 1) s := by
  rw [run_cons, run_cons]
  unfold segLen
  simp only
  rw [show f + (k + 1 + (if b then 2 else 0) + (rowT a.kids).length) = f + 1 + (k + (if b then 2 else 0) + (rowT a.kids).length) by omega, show f + (k + 1) + b.toNat = f + 1 + k + b.toNat by omega]

/-- The slots of an item behind its first token. -/
def L0 (br : Nd → Bool) (ks : List Nd) : List (Nat × Bool × Nd) := ks.map fun b => (0, br b, b)
def L1 (br : Nd → Bool) (ks : List Nd) : List (Nat × Bool × Nd) := ks.map fun b => (1, br b, b)
theorem L0_drop (br : Nd → Bool) (l : List Nd) (j : Nat) (h : j < l.length) : (L0 br l).drop j = (0, br l[j], l[j]) :: (L0 br l).drop (j + 1) := map_drop _ l j h
theorem L1_drop (br : Nd → Bool) (l : List Nd) (j : Nat) (h : j < l.length) : (L1 br l).drop j = (1, br l[j], l[j]) :: (L1 br l).drop (j + 1) := map_drop _ l j h
theorem L0_end (br : Nd → Bool) (l : List Nd) : (L0 br l).drop l.length = [] := List.drop_eq_nil_of_le (by simp [L0])
theorem L1_end (br : Nd → Bool) (l : List Nd) : (L1 br l).drop l.length = [] := List.drop_eq_nil_of_le (by simp [L1])

/-- What an item's walk is to be, if it has passed some tokens and slots of this list remain. -/
def Wk.TreeAs (k : Wk σ κ) (n : Nd) (m : Nat) (L : List (Nat × Bool × Nd)) (e : Nat) : Prop := ∀ (S : Nat → Prop) (f : Nat) (s : σ) (w : World) (p : List Nat) (v sl : Value), k.At S f s w → RepL k.W0 n.kids sl → PathIn k.g S w v p → p.length + 2 * Tr.depth n ≤ 500 → f + m + segsLen L + e ≤ k.T.length → k.Lim (runSegs k.C k.T L p 0 (f + m) s) →
  Calls Try.prog 47 #[.pointer (some ⟨k.g, 0, none⟩), nv n sl, v] w (k.Ends S (f + m + segsLen L + e) (runSegs k.C k.T L p 0 (f + m) s) w)

set_option maxRecDepth 100000 in
set_option maxHeartbeats 4000000 in
theorem tree_gen {k : Wk σ κ} (hk : k.Good) (n : Nd) (h7 : (n.kind == 7) = false) (h8 : (n.kind == 8) = false) (h9 : (n.kind == 9) = false) (h12 : (n.kind == 12) = false) (h6 : (n.kind == 6) = false) (h11 : (n.kind == 11) = false) (hrows : ∀ a ∈ n.kids, k.RowS a) :
    k.TreeAs n 1 (L0 Tr.grp n.kids) 0 := by
  intro S f s w p v sl h hsl hp hd hf hlim
  have HLIM := hid hlim
  clear hlim
  have hlen := hsl.len
  unfold maxLen at hlen
  obtain ⟨A, cap, rfl⟩ := hsl.slice
  obtain ⟨Ap, capp, rfl⟩ := hp.slice
  have HK := hid hk
  have HAT0 := hid h
  have HP0 := hid hp
  have HSL := hid hsl
  have HI := hid hrows
  have HD := hid hd
  have HF := hid hf
  have HDN := hid (Tr.depth_kids n)
  have hnS : ¬ S w.heap.size := fun e => absurd (h.slt hk _ e) (Nat.lt_irrefl _)
  have hng : w.heap.size ≠ k.g := by have := h.glt; omega
  obtain ⟨_, b1, _, _, bf⟩ := h.cells
  have hglt := h.glt
  have hb0 : (f : Int) ≤ 100000 := by have := hk.len; omega
  have hb1 : 0 ≤ (f : Int) := by omega
  go_enter Try.func47, Try.ntmps47
  go_wp2_with fail
  refine forget_world (fun W => k.At S (f + 1) s W ∧ Mv k.g S S w W ∧ Blk W w.heap.size 24 #[.int .i64 n.kind, .string ⟨n.text.toArray⟩, .int .i64 n.cols, .slice A n.kids.length cap]) ?_ ?_
  · obtain ⟨hn1, hn2⟩ := HAT0.out.next HK.out (f' := f + 1) ((f : Int) + 1) (by omega)
    have hsz : w.heap.size = (w.setCell ⟨k.g, 1, none⟩ (.int .i64 ((f : Int) + 1))).heap.size := by simp [World.setCell]
    refine ⟨hn1.fresh HK.out ((Touch.refl _ _).alloc _), hn2.trans (Mv.fresh ((Touch.refl _ _).alloc _)), ?_⟩
    rw [hsz]
    exact Blk.new _ _ _
  rintro W1 ⟨hat1, hmv1, hb1'⟩
  have HAT1 := hid hat1
  have HMV1 := hid hmv1
  have HB1 := hid hb1'
  have HP1 := hid (HP0.out.mv hmv1)
  obtain ⟨q0, q1, q2, q3, _, _, _, _, hg4⟩ := Blk.four hb1'
  clear hat1 hmv1 hb1' h hp hsl hd hf b1 bf hglt hb0 hb1
  go_wp2_with fail
  go_loopw [119] (fun i wr => ∃ (j : Nat) (S1 : Nat → Prop) (f1 : Nat) (s1 : σ), i = .int .i64 j ∧ j ≤ n.kids.length ∧ Hid (k.At S1 f1 s1 wr) ∧ Hid (Mv k.g S S1 W1 wr) ∧ Hid (runSegs k.C k.T ((L0 Tr.grp n.kids).drop j) p j f1 s1 = runSegs k.C k.T (L0 Tr.grp n.kids) p 0 (f + 1) s) ∧ Hid (f1 + segsLen ((L0 Tr.grp n.kids).drop j) = f + 1 + segsLen (L0 Tr.grp n.kids))) (fun i _ => n.kids.length - (intOf i).toNat)
  case atStart => exact ⟨0, S, f + 1, s, rfl, Nat.zero_le _, HAT1, Mv.refl _ _ _, rfl, rfl⟩
  case round =>
    clear q0 q1 q2 q3
    obtain ⟨j, S1, f1, s1, rfl, hj, HAT, HMV, HRUN, HLEN⟩ := hrel
    have HB := hid (HMV.out.blk HB1.out hnS hng)
    obtain ⟨q0, q1, q2, q3, _, _, _, _, hg4⟩ := Blk.four HB.out.1
    by_cases c1 : j < n.kids.length
    · have d1 : decide ((j : Int) < (n.kids.length : Int)) = true := by simp only [decide_eq_true_eq]; omega
      have d1n : decide (j < n.kids.length) = true := by simp only [decide_eq_true_eq]; omega
      have d1' : (j : Int) < (n.kids.length : Int) := by omega
      obtain ⟨g, o, sx, rfl, hg, m0, m1, m2, m3, hrk⟩ := HSL.out.get j c1
      obtain ⟨Ax, capx, rfl⟩ := hrk.slice
      have HRK := hid (hrk.low HAT.out.low)
      have HDX := hid (depth_mem (List.getElem_mem (l := n.kids) (n := j) c1))
      have HP2 := hid (HP1.out.mv HMV.out)
      have a0 := Low.cell HAT.out.low m0
      have a1 := Low.cell HAT.out.low m1
      have a2 := Low.cell HAT.out.low m2
      have a3 := Low.cell HAT.out.low m3
      have hgw : g < wr.heap.size := block_lt_of_cell a0
      clear m0 m1 m2 m3 hrk hg
      have HR2 := hid (show runSegs k.C k.T ((L0 Tr.grp n.kids).drop (j + 1)) p (j + 1) (f1 + segLen (0, Tr.grp n.kids[j], n.kids[j])) (runRow k.C k.T n.kids[j].kids (p ++ [j]) 0 (f1 + 0 + (Tr.grp n.kids[j]).toNat) s1) = runSegs k.C k.T (L0 Tr.grp n.kids) p 0 (f + 1) s by rw [← HRUN.out, L0_drop _ _ _ c1, run_cons])
      have HLX := hid (show f1 + ((0 + 2 * (Tr.grp n.kids[j]).toNat + (rowT n.kids[j].kids).length) + segsLen ((L0 Tr.grp n.kids).drop (j + 1))) = f + 1 + segsLen (L0 Tr.grp n.kids) by rw [← HLEN.out, L0_drop _ _ _ c1, segsLen, Tr.segLen_eq])
      go_wp2_with fail
      have g0 := cell_regrown q0
      have g1 := cell_regrown q1
      have g2 := cell_regrown q2
      have g3 := cell_regrown q3
      have h0 := cell_regrown a0
      have h1 := cell_regrown a1
      have h2 := cell_regrown a2
      have h3 := cell_regrown a3
      refine wp_region_mix [([(0, true), (1, true), (2, true), (3, true), (4, true), (5, true), (6, true), (7, true), (8, true), (9, false)], 10)] [] (by kernel_rfl) (fun _ _ d _ _ h => by cases d <;> exact h) (by kernel_rfl) ?_
      refine wpMix_seg ?_
      repeat (refine wpSeq_plain rfl (fun K hK => ?_); go_simp; refine hK _ ?_; clear hK K)
      refine wpSeq_lone rfl (fun K hK => ?_)
      go_wp2_with fail
      refine (wgroup_any n.kids[j] _ _ (HRK.out.fresh (show Fresh wr _ from (Touch.refl _ _).drewN _))).mono ?_
      rintro _ W5 ⟨rfl, hf5⟩
      have HF5 := hid (show Fresh wr W5 from Touch.ofN hf5)
      clear hf5
      go_wp2_with fail
      refine hK _ _ (growing_fresh HF5.out) ?_
      clear hK K
      refine wpSeq_shut rfl (fun K hK => ?_)
      go_wp2_with fail
      refine (slot_any HK.out n j c1 (HI.out n.kids[j] (List.getElem_mem c1)) (HAT.out.fresh HK.out HF5.out) HSL.out (HP2.out.mv (Mv.fresh HF5.out)) (by have := HD.out; have := HDX.out; have := HDN.out; omega) (Tr.grp n.kids[j]) (by have := HLX.out; have := HF.out; omega) (by have h1 := HLIM.out; rw [← HR2.out] at h1; exact HK.out.lim.2 _ _ _ _ _ h1)).mono ?_
      rintro _ W7 ⟨rfl, S7, hat, hmv⟩
      have HAT7 := hid hat
      have HMV7 := hid ((HMV.out.trans (Mv.fresh HF5.out)).trans hmv)
      clear hat hmv
      clear q0 q1 q2 q3 a0 a1 a2 a3 g0 g1 g2 g3 h0 h1 h2 h3
      go_wp2_with fail
      refine wpMix_end ?_
      go_wp2_with fail
      go_roundw
      case rel => exact ⟨j + 1, S7, f1 + segLen (0, Tr.grp n.kids[j], n.kids[j]), _, by go_num, c1, by have := HAT7.out; rw [Nat.add_assoc] at this; rw [Tr.segLen_eq, Nat.zero_add]; exact this, HMV7, HR2.out, by rw [Hid, ← HLX.out, Tr.segLen_eq]; omega⟩
      case measure => simp [intOf]; omega
    · have d1 : decide ((j : Int) < (n.kids.length : Int)) = false := by simp only [decide_eq_false_iff_not]; omega
      have d1n : decide (j < n.kids.length) = false := by simp only [decide_eq_false_iff_not]; omega
      obtain rfl : j = n.kids.length := by omega
      go_wp2_with fail
      go_end0
      exact ⟨rfl, S1, by have := HAT.out; have h1 := HLEN.out; have h2 := HRUN.out; rw [L0_end] at h1 h2; rw [run_nil] at h2; rw [segsLen, Nat.add_zero] at h1; rw [h1, h2] at this; exact this, HMV1.out.trans HMV.out⟩
set_option maxRecDepth 100000 in
set_option maxHeartbeats 4000000 in
theorem tree_fence {k : Wk σ κ} (hk : k.Good) (n : Nd) (h7 : (n.kind == 7) = false) (h8 : (n.kind == 8) = false) (h9 : (n.kind == 9) = false) (_h12 : (n.kind == 12) = false) (h6 : (n.kind == 6) = false) (h11 : (n.kind == 11) = true) (t1 : (n.text == [40, 41]) = false) (t2 : (n.text == [91, 93]) = false) (hrows : ∀ a ∈ n.kids, k.RowS a) :
    k.TreeAs n 1 (L0 Tr.grp n.kids) 0 := by
  intro S f s w p v sl h hsl hp hd hf hlim
  have HLIM := hid hlim
  clear hlim
  have hlen := hsl.len
  unfold maxLen at hlen
  obtain ⟨A, cap, rfl⟩ := hsl.slice
  obtain ⟨Ap, capp, rfl⟩ := hp.slice
  have HK := hid hk
  have HAT0 := hid h
  have HP0 := hid hp
  have HSL := hid hsl
  have HI := hid hrows
  have HD := hid hd
  have HF := hid hf
  have HDN := hid (Tr.depth_kids n)
  have hnS : ¬ S w.heap.size := fun e => absurd (h.slt hk _ e) (Nat.lt_irrefl _)
  have hng : w.heap.size ≠ k.g := by have := h.glt; omega
  have t1' : ((⟨n.text.toArray⟩ : ByteArray).toList == [40, 41]) = false := by rw [ByteArray.toList_eq]; exact t1
  have t2' : ((⟨n.text.toArray⟩ : ByteArray).toList == [91, 93]) = false := by rw [ByteArray.toList_eq]; exact t2
  obtain ⟨_, b1, _, _, bf⟩ := h.cells
  have hglt := h.glt
  have hb0 : (f : Int) ≤ 100000 := by have := hk.len; omega
  have hb1 : 0 ≤ (f : Int) := by omega
  go_enter Try.func47, Try.ntmps47
  go_wp2_with fail
  refine forget_world (fun W => k.At S (f + 1) s W ∧ Mv k.g S S w W ∧ Blk W w.heap.size 24 #[.int .i64 n.kind, .string ⟨n.text.toArray⟩, .int .i64 n.cols, .slice A n.kids.length cap]) ?_ ?_
  · obtain ⟨hn1, hn2⟩ := HAT0.out.next HK.out (f' := f + 1) ((f : Int) + 1) (by omega)
    have hsz : w.heap.size = (w.setCell ⟨k.g, 1, none⟩ (.int .i64 ((f : Int) + 1))).heap.size := by simp [World.setCell]
    refine ⟨hn1.fresh HK.out ((Touch.refl _ _).alloc _), hn2.trans (Mv.fresh ((Touch.refl _ _).alloc _)), ?_⟩
    rw [hsz]
    exact Blk.new _ _ _
  rintro W1 ⟨hat1, hmv1, hb1'⟩
  have HAT1 := hid hat1
  have HMV1 := hid hmv1
  have HB1 := hid hb1'
  have HP1 := hid (HP0.out.mv hmv1)
  obtain ⟨q0, q1, q2, q3, _, _, _, _, hg4⟩ := Blk.four hb1'
  clear hat1 hmv1 hb1' h hp hsl hd hf b1 bf hglt hb0 hb1
  go_wp2_with fail
  go_loopw [119] (fun i wr => ∃ (j : Nat) (S1 : Nat → Prop) (f1 : Nat) (s1 : σ), i = .int .i64 j ∧ j ≤ n.kids.length ∧ Hid (k.At S1 f1 s1 wr) ∧ Hid (Mv k.g S S1 W1 wr) ∧ Hid (runSegs k.C k.T ((L0 Tr.grp n.kids).drop j) p j f1 s1 = runSegs k.C k.T (L0 Tr.grp n.kids) p 0 (f + 1) s) ∧ Hid (f1 + segsLen ((L0 Tr.grp n.kids).drop j) = f + 1 + segsLen (L0 Tr.grp n.kids))) (fun i _ => n.kids.length - (intOf i).toNat)
  case atStart => exact ⟨0, S, f + 1, s, rfl, Nat.zero_le _, HAT1, Mv.refl _ _ _, rfl, rfl⟩
  case round =>
    clear q0 q1 q2 q3
    obtain ⟨j, S1, f1, s1, rfl, hj, HAT, HMV, HRUN, HLEN⟩ := hrel
    have HB := hid (HMV.out.blk HB1.out hnS hng)
    obtain ⟨q0, q1, q2, q3, _, _, _, _, hg4⟩ := Blk.four HB.out.1
    by_cases c1 : j < n.kids.length
    · have d1 : decide ((j : Int) < (n.kids.length : Int)) = true := by simp only [decide_eq_true_eq]; omega
      have d1n : decide (j < n.kids.length) = true := by simp only [decide_eq_true_eq]; omega
      have d1' : (j : Int) < (n.kids.length : Int) := by omega
      obtain ⟨g, o, sx, rfl, hg, m0, m1, m2, m3, hrk⟩ := HSL.out.get j c1
      obtain ⟨Ax, capx, rfl⟩ := hrk.slice
      have HRK := hid (hrk.low HAT.out.low)
      have HDX := hid (depth_mem (List.getElem_mem (l := n.kids) (n := j) c1))
      have HP2 := hid (HP1.out.mv HMV.out)
      have a0 := Low.cell HAT.out.low m0
      have a1 := Low.cell HAT.out.low m1
      have a2 := Low.cell HAT.out.low m2
      have a3 := Low.cell HAT.out.low m3
      have hgw : g < wr.heap.size := block_lt_of_cell a0
      clear m0 m1 m2 m3 hrk hg
      have HR2 := hid (show runSegs k.C k.T ((L0 Tr.grp n.kids).drop (j + 1)) p (j + 1) (f1 + segLen (0, Tr.grp n.kids[j], n.kids[j])) (runRow k.C k.T n.kids[j].kids (p ++ [j]) 0 (f1 + 0 + (Tr.grp n.kids[j]).toNat) s1) = runSegs k.C k.T (L0 Tr.grp n.kids) p 0 (f + 1) s by rw [← HRUN.out, L0_drop _ _ _ c1, run_cons])
      have HLX := hid (show f1 + ((0 + 2 * (Tr.grp n.kids[j]).toNat + (rowT n.kids[j].kids).length) + segsLen ((L0 Tr.grp n.kids).drop (j + 1))) = f + 1 + segsLen (L0 Tr.grp n.kids) by rw [← HLEN.out, L0_drop _ _ _ c1, segsLen, Tr.segLen_eq])
      go_wp2_with fail
      have g0 := cell_regrown q0
      have g1 := cell_regrown q1
      have g2 := cell_regrown q2
      have g3 := cell_regrown q3
      have h0 := cell_regrown a0
      have h1 := cell_regrown a1
      have h2 := cell_regrown a2
      have h3 := cell_regrown a3
      refine wp_region_mix [([(0, true), (1, true), (2, true), (3, true), (4, true), (5, true), (6, true), (7, true), (8, true), (9, false)], 10)] [] (by kernel_rfl) (fun _ _ d _ _ h => by cases d <;> exact h) (by kernel_rfl) ?_
      refine wpMix_seg ?_
      repeat (refine wpSeq_plain rfl (fun K hK => ?_); go_simp; refine hK _ ?_; clear hK K)
      refine wpSeq_lone rfl (fun K hK => ?_)
      go_wp2_with fail
      refine (wgroup_any n.kids[j] _ _ (HRK.out.fresh (show Fresh wr _ from (Touch.refl _ _).drewN _))).mono ?_
      rintro _ W5 ⟨rfl, hf5⟩
      have HF5 := hid (show Fresh wr W5 from Touch.ofN hf5)
      clear hf5
      go_wp2_with fail
      refine hK _ _ (growing_fresh HF5.out) ?_
      clear hK K
      refine wpSeq_shut rfl (fun K hK => ?_)
      go_wp2_with fail
      refine (slot_any HK.out n j c1 (HI.out n.kids[j] (List.getElem_mem c1)) (HAT.out.fresh HK.out HF5.out) HSL.out (HP2.out.mv (Mv.fresh HF5.out)) (by have := HD.out; have := HDX.out; have := HDN.out; omega) (Tr.grp n.kids[j]) (by have := HLX.out; have := HF.out; omega) (by have h1 := HLIM.out; rw [← HR2.out] at h1; exact HK.out.lim.2 _ _ _ _ _ h1)).mono ?_
      rintro _ W7 ⟨rfl, S7, hat, hmv⟩
      have HAT7 := hid hat
      have HMV7 := hid ((HMV.out.trans (Mv.fresh HF5.out)).trans hmv)
      clear hat hmv
      clear q0 q1 q2 q3 a0 a1 a2 a3 g0 g1 g2 g3 h0 h1 h2 h3
      go_wp2_with fail
      refine wpMix_end ?_
      go_wp2_with fail
      go_roundw
      case rel => exact ⟨j + 1, S7, f1 + segLen (0, Tr.grp n.kids[j], n.kids[j]), _, by go_num, c1, by have := HAT7.out; rw [Nat.add_assoc] at this; rw [Tr.segLen_eq, Nat.zero_add]; exact this, HMV7, HR2.out, by rw [Hid, ← HLX.out, Tr.segLen_eq]; omega⟩
      case measure => simp [intOf]; omega
    · have d1 : decide ((j : Int) < (n.kids.length : Int)) = false := by simp only [decide_eq_false_iff_not]; omega
      have d1n : decide (j < n.kids.length) = false := by simp only [decide_eq_false_iff_not]; omega
      obtain rfl : j = n.kids.length := by omega
      go_wp2_with fail
      go_end0
      exact ⟨rfl, S1, by have := HAT.out; have h1 := HLEN.out; have h2 := HRUN.out; rw [L0_end] at h1 h2; rw [run_nil] at h2; rw [segsLen, Nat.add_zero] at h1; rw [h1, h2] at this; exact this, HMV1.out.trans HMV.out⟩

def LI (kk : Nat → Nat) (br : Nat → Nd → Bool) (ks : List Nd) : List (Nat × Bool × Nd) := ks.mapIdx fun i b => (kk i, br i b, b)
theorem LI_drop (kk : Nat → Nat) (br : Nat → Nd → Bool) (l : List Nd) (j : Nat) (h : j < l.length) : (LI kk br l).drop j = (kk j, br j l[j], l[j]) :: (LI kk br l).drop (j + 1) := by
  unfold LI
  rw [List.drop_eq_getElem_cons (by simpa using h), List.getElem_mapIdx]
theorem LI_end (kk : Nat → Nat) (br : Nat → Nd → Bool) (l : List Nd) : (LI kk br l).drop l.length = [] := List.drop_eq_nil_of_le (by simp [LI])
def rootB (i : Nat) (b : Nd) : Bool := if i = 0 then !b.kids.isEmpty else Tr.grp b
def scriptB (i : Nat) (b : Nd) : Bool := if i = 0 then Tr.bgrp b else Tr.grp b
def scriptK (i : Nat) : Nat := if i = 0 then 0 else 1
set_option maxRecDepth 100000 in
set_option maxHeartbeats 4000000 in
theorem tree_root {k : Wk σ κ} (hk : k.Good) (n : Nd) (h6 : n.kind = 6) (hrows : ∀ a ∈ n.kids, k.RowS a) :
    k.TreeAs n 1 (LI (fun _ => 0) rootB n.kids) 0 := by
  have h7 : (n.kind == 7) = false := by rw [h6]; rfl
  have h8 : (n.kind == 8) = false := by rw [h6]; rfl
  have h9 : (n.kind == 9) = false := by rw [h6]; rfl
  have h11 : (n.kind == 11) = false := by rw [h6]; rfl
  have h12 : (n.kind == 12) = false := by rw [h6]; rfl
  have h6' : (n.kind == 6) = true := by rw [h6]; rfl
  clear h6
  intro S f s w p v sl h hsl hp hd hf hlim
  have HLIM := hid hlim
  clear hlim
  have hlen := hsl.len
  unfold maxLen at hlen
  obtain ⟨A, cap, rfl⟩ := hsl.slice
  obtain ⟨Ap, capp, rfl⟩ := hp.slice
  have HK := hid hk
  have HAT0 := hid h
  have HP0 := hid hp
  have HSL := hid hsl
  have HI := hid hrows
  have HD := hid hd
  have HF := hid hf
  have HDN := hid (Tr.depth_kids n)
  have hnS : ¬ S w.heap.size := fun e => absurd (h.slt hk _ e) (Nat.lt_irrefl _)
  have hng : w.heap.size ≠ k.g := by have := h.glt; omega
  obtain ⟨_, b1, _, _, bf⟩ := h.cells
  have hglt := h.glt
  have hb0 : (f : Int) ≤ 100000 := by have := hk.len; omega
  have hb1 : 0 ≤ (f : Int) := by omega
  go_enter Try.func47, Try.ntmps47
  go_wp2_with fail
  refine forget_world (fun W => k.At S (f + 1) s W ∧ Mv k.g S S w W ∧ Blk W w.heap.size 24 #[.int .i64 n.kind, .string ⟨n.text.toArray⟩, .int .i64 n.cols, .slice A n.kids.length cap]) ?_ ?_
  · obtain ⟨hn1, hn2⟩ := HAT0.out.next HK.out (f' := f + 1) ((f : Int) + 1) (by omega)
    have hsz : w.heap.size = (w.setCell ⟨k.g, 1, none⟩ (.int .i64 ((f : Int) + 1))).heap.size := by simp [World.setCell]
    refine ⟨hn1.fresh HK.out ((Touch.refl _ _).alloc _), hn2.trans (Mv.fresh ((Touch.refl _ _).alloc _)), ?_⟩
    rw [hsz]
    exact Blk.new _ _ _
  rintro W1 ⟨hat1, hmv1, hb1'⟩
  have HAT1 := hid hat1
  have HMV1 := hid hmv1
  have HB1 := hid hb1'
  have HP1 := hid (HP0.out.mv hmv1)
  obtain ⟨q0, q1, q2, q3, _, _, _, _, hg4⟩ := Blk.four hb1'
  clear hat1 hmv1 hb1' h hp hsl hd hf b1 bf hglt hb0 hb1
  go_wp2_with fail
  go_loopw [119] (fun i wr => ∃ (j : Nat) (S1 : Nat → Prop) (f1 : Nat) (s1 : σ), i = .int .i64 j ∧ j ≤ n.kids.length ∧ Hid (k.At S1 f1 s1 wr) ∧ Hid (Mv k.g S S1 W1 wr) ∧ Hid (runSegs k.C k.T ((LI (fun _ => 0) rootB n.kids).drop j) p j f1 s1 = runSegs k.C k.T (LI (fun _ => 0) rootB n.kids) p 0 (f + 1) s) ∧ Hid (f1 + segsLen ((LI (fun _ => 0) rootB n.kids).drop j) = f + 1 + segsLen (LI (fun _ => 0) rootB n.kids))) (fun i _ => n.kids.length - (intOf i).toNat)
  case atStart => exact ⟨0, S, f + 1, s, rfl, Nat.zero_le _, HAT1, Mv.refl _ _ _, rfl, rfl⟩
  case round =>
    clear q0 q1 q2 q3
    obtain ⟨j, S1, f1, s1, rfl, hj, HAT, HMV, HRUN, HLEN⟩ := hrel
    have HB := hid (HMV.out.blk HB1.out hnS hng)
    obtain ⟨q0, q1, q2, q3, _, _, _, _, hg4⟩ := Blk.four HB.out.1
    by_cases c1 : j < n.kids.length
    · have d1 : decide ((j : Int) < (n.kids.length : Int)) = true := by simp only [decide_eq_true_eq]; omega
      have d1n : decide (j < n.kids.length) = true := by simp only [decide_eq_true_eq]; omega
      have d1' : (j : Int) < (n.kids.length : Int) := by omega
      obtain ⟨g, o, sx, rfl, hg, m0, m1, m2, m3, hrk⟩ := HSL.out.get j c1
      obtain ⟨Ax, capx, rfl⟩ := hrk.slice
      have HRK := hid (hrk.low HAT.out.low)
      have HDX := hid (depth_mem (List.getElem_mem (l := n.kids) (n := j) c1))
      have HP2 := hid (HP1.out.mv HMV.out)
      have a0 := Low.cell HAT.out.low m0
      have a1 := Low.cell HAT.out.low m1
      have a2 := Low.cell HAT.out.low m2
      have a3 := Low.cell HAT.out.low m3
      have hgw : g < wr.heap.size := block_lt_of_cell a0
      clear m0 m1 m2 m3 hrk hg
      by_cases j0 : j = 0
      · subst j0
        simp only [Nat.zero_mul, Nat.add_zero] at a0 a1 a2 a3
        cases he : n.kids[0].kids.isEmpty with
        | false =>
          have hB : rootB 0 n.kids[0] = true := by unfold rootB; rw [if_pos rfl, he]; rfl
          have hl0 : 0 < n.kids[0].kids.length := by have h := he; rw [List.isEmpty_eq_false_iff] at h; exact List.length_pos_iff.2 h
          have e1 : decide ((0 : Int) < (n.kids[0].kids.length : Int)) = true := by simp only [decide_eq_true_eq]; omega
          have e1n : decide (0 < n.kids[0].kids.length) = true := by simp only [decide_eq_true_eq]; omega
          clear he
          have HR2 := hid (show runSegs k.C k.T ((LI (fun _ => 0) rootB n.kids).drop (0 + 1)) p (0 + 1) (f1 + segLen (0, true, n.kids[0])) (runRow k.C k.T n.kids[0].kids (p ++ [0]) 0 (f1 + 0 + (true).toNat) s1) = runSegs k.C k.T (LI (fun _ => 0) rootB n.kids) p 0 (f + 1) s by rw [← HRUN.out, LI_drop _ _ _ _ c1, hB, run_cons])
          have HLX := hid (show f1 + ((0 + 2 * (true).toNat + (rowT n.kids[0].kids).length) + segsLen ((LI (fun _ => 0) rootB n.kids).drop (0 + 1))) = f + 1 + segsLen (LI (fun _ => 0) rootB n.kids) by rw [← HLEN.out, LI_drop _ _ _ _ c1, hB, segsLen, Tr.segLen_eq])
          clear hB
          go_wp2_with fail
          have g0 := cell_regrown q0
          have g1 := cell_regrown q1
          have g2 := cell_regrown q2
          have g3 := cell_regrown q3
          have h0 := cell_regrown a0
          have h1 := cell_regrown a1
          have h2 := cell_regrown a2
          have h3 := cell_regrown a3
          refine wp_region_mix [([(0, true), (1, true), (2, true), (3, true), (4, true), (5, true), (6, true), (7, true), (8, true), (9, true), (10, true), (11, true)], 12)] [] (by kernel_rfl) (fun _ _ d _ _ h => by cases d <;> exact h) (by kernel_rfl) ?_
          refine wpMix_seg ?_
          repeat (refine wpSeq_plain rfl (fun K hK => ?_); go_simp; refine hK _ ?_; clear hK K)
          refine wpSeq_shut rfl (fun K hK => ?_)
          go_wp2_with fail
          refine (slot_any HK.out n 0 c1 (HI.out n.kids[0] (List.getElem_mem c1)) (HAT.out.fresh HK.out (show Fresh wr _ from (Touch.refl _ _).drewN _)) HSL.out (HP2.out.mv (Mv.fresh ((Touch.refl _ _).drewN _))) (by have := HD.out; have := HDX.out; have := HDN.out; omega) true (by have := HLX.out; have := HF.out; simp only [Bool.toNat_true] at *; omega) (by have h1 := HLIM.out; rw [← HR2.out] at h1; exact HK.out.lim.2 _ _ _ _ _ h1)).mono ?_
          rintro _ W7 ⟨rfl, S7, hat, hmv⟩
          have HAT7 := hid hat
          have HMV7 := hid ((HMV.out.trans (Mv.fresh ((Touch.refl _ _).drewN _))).trans hmv)
          clear hat hmv
          clear q0 q1 q2 q3 a0 a1 a2 a3 g0 g1 g2 g3 h0 h1 h2 h3
          go_wp2_with fail
          refine wpMix_end ?_
          go_wp2_with fail
          go_roundw
          case rel => exact ⟨0 + 1, S7, f1 + segLen (0, true, n.kids[0]), _, rfl, c1, by have := HAT7.out; rw [Nat.add_assoc] at this; rw [Tr.segLen_eq, Nat.zero_add]; exact this, HMV7, HR2.out, by rw [Hid, ← HLX.out, Tr.segLen_eq]; omega⟩
          case measure => simp [intOf]; omega
        | true =>
          have hB : rootB 0 n.kids[0] = false := by unfold rootB; rw [if_pos rfl, he]; rfl
          have hl0 : n.kids[0].kids.length = 0 := by have h := he; rw [List.isEmpty_iff] at h; rw [h]; rfl
          have e1 : decide ((0 : Int) < (n.kids[0].kids.length : Int)) = false := by simp only [decide_eq_false_iff_not]; omega
          have e1n : decide (0 < n.kids[0].kids.length) = false := by simp only [decide_eq_false_iff_not]; omega
          clear he
          have HR2 := hid (show runSegs k.C k.T ((LI (fun _ => 0) rootB n.kids).drop (0 + 1)) p (0 + 1) (f1 + segLen (0, false, n.kids[0])) (runRow k.C k.T n.kids[0].kids (p ++ [0]) 0 (f1 + 0 + (false).toNat) s1) = runSegs k.C k.T (LI (fun _ => 0) rootB n.kids) p 0 (f + 1) s by rw [← HRUN.out, LI_drop _ _ _ _ c1, hB, run_cons])
          have HLX := hid (show f1 + ((0 + 2 * (false).toNat + (rowT n.kids[0].kids).length) + segsLen ((LI (fun _ => 0) rootB n.kids).drop (0 + 1))) = f + 1 + segsLen (LI (fun _ => 0) rootB n.kids) by rw [← HLEN.out, LI_drop _ _ _ _ c1, hB, segsLen, Tr.segLen_eq])
          clear hB
          go_wp2_with fail
          have g0 := cell_regrown q0
          have g1 := cell_regrown q1
          have g2 := cell_regrown q2
          have g3 := cell_regrown q3
          have h0 := cell_regrown a0
          have h1 := cell_regrown a1
          have h2 := cell_regrown a2
          have h3 := cell_regrown a3
          refine wp_region_mix [([(0, true), (1, true), (2, true), (3, true), (4, true), (5, true), (6, true), (7, true), (8, true), (9, true), (10, true), (11, true)], 12)] [] (by kernel_rfl) (fun _ _ d _ _ h => by cases d <;> exact h) (by kernel_rfl) ?_
          refine wpMix_seg ?_
          repeat (refine wpSeq_plain rfl (fun K hK => ?_); go_simp; refine hK _ ?_; clear hK K)
          refine wpSeq_shut rfl (fun K hK => ?_)
          go_wp2_with fail
          refine (slot_any HK.out n 0 c1 (HI.out n.kids[0] (List.getElem_mem c1)) (HAT.out.fresh HK.out (show Fresh wr _ from (Touch.refl _ _).drewN _)) HSL.out (HP2.out.mv (Mv.fresh ((Touch.refl _ _).drewN _))) (by have := HD.out; have := HDX.out; have := HDN.out; omega) false (by have := HLX.out; have := HF.out; simp only [Bool.toNat_false] at *; omega) (by have h1 := HLIM.out; rw [← HR2.out] at h1; exact HK.out.lim.2 _ _ _ _ _ h1)).mono ?_
          rintro _ W7 ⟨rfl, S7, hat, hmv⟩
          have HAT7 := hid hat
          have HMV7 := hid ((HMV.out.trans (Mv.fresh ((Touch.refl _ _).drewN _))).trans hmv)
          clear hat hmv
          clear q0 q1 q2 q3 a0 a1 a2 a3 g0 g1 g2 g3 h0 h1 h2 h3
          go_wp2_with fail
          refine wpMix_end ?_
          go_wp2_with fail
          go_roundw
          case rel => exact ⟨0 + 1, S7, f1 + segLen (0, false, n.kids[0]), _, rfl, c1, by have := HAT7.out; rw [Nat.add_assoc] at this; rw [Tr.segLen_eq, Nat.zero_add]; exact this, HMV7, HR2.out, by rw [Hid, ← HLX.out, Tr.segLen_eq]; omega⟩
          case measure => simp [intOf]; omega
      · have e0 : ((j : Int) == 0) = false := by rw [beq_eq_false_iff_ne]; omega
        have e0n : (j == 0) = false := by rw [beq_eq_false_iff_ne]; exact j0
        have hB : rootB j n.kids[j] = Tr.grp n.kids[j] := by unfold rootB; rw [if_neg j0]
        have HR2 := hid (show runSegs k.C k.T ((LI (fun _ => 0) rootB n.kids).drop (j + 1)) p (j + 1) (f1 + segLen (0, Tr.grp n.kids[j], n.kids[j])) (runRow k.C k.T n.kids[j].kids (p ++ [j]) 0 (f1 + 0 + (Tr.grp n.kids[j]).toNat) s1) = runSegs k.C k.T (LI (fun _ => 0) rootB n.kids) p 0 (f + 1) s by rw [← HRUN.out, LI_drop _ _ _ _ c1, hB, run_cons])
        have HLX := hid (show f1 + ((0 + 2 * (Tr.grp n.kids[j]).toNat + (rowT n.kids[j].kids).length) + segsLen ((LI (fun _ => 0) rootB n.kids).drop (j + 1))) = f + 1 + segsLen (LI (fun _ => 0) rootB n.kids) by rw [← HLEN.out, LI_drop _ _ _ _ c1, hB, segsLen, Tr.segLen_eq])
        clear hB
        go_wp2_with fail
        have g0 := cell_regrown q0
        have g1 := cell_regrown q1
        have g2 := cell_regrown q2
        have g3 := cell_regrown q3
        have h0 := cell_regrown a0
        have h1 := cell_regrown a1
        have h2 := cell_regrown a2
        have h3 := cell_regrown a3
        refine wp_region_mix [([(0, true), (1, true), (2, true), (3, true), (4, true), (5, true), (6, true), (7, true), (8, true), (9, false)], 10)] [] (by kernel_rfl) (fun _ _ d _ _ h => by cases d <;> exact h) (by kernel_rfl) ?_
        refine wpMix_seg ?_
        repeat (refine wpSeq_plain rfl (fun K hK => ?_); go_simp; refine hK _ ?_; clear hK K)
        refine wpSeq_lone rfl (fun K hK => ?_)
        go_wp2_with fail
        refine (wgroup_any n.kids[j] _ _ (HRK.out.fresh (show Fresh wr _ from (Touch.refl _ _).drewN _))).mono ?_
        rintro _ W5 ⟨rfl, hf5⟩
        have HF5 := hid (show Fresh wr W5 from Touch.ofN hf5)
        clear hf5
        go_wp2_with fail
        refine hK _ _ (growing_fresh HF5.out) ?_
        clear hK K
        refine wpSeq_shut rfl (fun K hK => ?_)
        go_wp2_with fail
        refine (slot_any HK.out n j c1 (HI.out n.kids[j] (List.getElem_mem c1)) (HAT.out.fresh HK.out HF5.out) HSL.out (HP2.out.mv (Mv.fresh HF5.out)) (by have := HD.out; have := HDX.out; have := HDN.out; omega) (Tr.grp n.kids[j]) (by have := HLX.out; have := HF.out; omega) (by have h1 := HLIM.out; rw [← HR2.out] at h1; exact HK.out.lim.2 _ _ _ _ _ h1)).mono ?_
        rintro _ W7 ⟨rfl, S7, hat, hmv⟩
        have HAT7 := hid hat
        have HMV7 := hid ((HMV.out.trans (Mv.fresh HF5.out)).trans hmv)
        clear hat hmv
        clear q0 q1 q2 q3 a0 a1 a2 a3 g0 g1 g2 g3 h0 h1 h2 h3
        go_wp2_with fail
        refine wpMix_end ?_
        go_wp2_with fail
        go_roundw
        case rel => exact ⟨j + 1, S7, f1 + segLen (0, Tr.grp n.kids[j], n.kids[j]), _, by go_num, c1, by have := HAT7.out; rw [Nat.add_assoc] at this; rw [Tr.segLen_eq, Nat.zero_add]; exact this, HMV7, HR2.out, by rw [Hid, ← HLX.out, Tr.segLen_eq]; omega⟩
        case measure => simp [intOf]; omega
    · have d1 : decide ((j : Int) < (n.kids.length : Int)) = false := by simp only [decide_eq_false_iff_not]; omega
      have d1n : decide (j < n.kids.length) = false := by simp only [decide_eq_false_iff_not]; omega
      obtain rfl : j = n.kids.length := by omega
      go_wp2_with fail
      go_end0
      exact ⟨rfl, S1, by have := HAT.out; have h1 := HLEN.out; have h2 := HRUN.out; rw [LI_end] at h1 h2; rw [run_nil] at h2; rw [segsLen, Nat.add_zero] at h1; rw [h1, h2] at this; exact this, HMV1.out.trans HMV.out⟩
end Go.Proofs.Ytdacpbdamliafaa

/- The walker's tree at brackets, scripts and matrices. -/
namespace Go.Proofs.Ytdacpbdamliafaa
open Go.RowKit
open Tr (Nd Clo runRow runSegs rowT itemT segs segsLen segLen)
attribute [local go_sem] stillV stillUpon

variable {σ κ : Type}
set_option maxRecDepth 100000 in
set_option maxHeartbeats 4000000 in
theorem tree_round {k : Wk σ κ} (hk : k.Good) (n : Nd) (h7 : (n.kind == 7) = false) (h8 : (n.kind == 8) = false) (h9 : (n.kind == 9) = false) (h11 : (n.kind == 11) = true) (t1 : (n.text == [40, 41]) = true) (h1 : n.kids.length = 1) (hrows : ∀ a ∈ n.kids, k.RowS a) :
    k.TreeAs n 0 (LI (fun _ => 0) (fun _ _ => true) n.kids) 0 := by
  intro S f s w p v sl h hsl hp hd hf hlim
  have HLIM := hid hlim
  clear hlim
  have hlen := hsl.len
  unfold maxLen at hlen
  obtain ⟨A, cap, rfl⟩ := hsl.slice
  obtain ⟨Ap, capp, rfl⟩ := hp.slice
  have HK := hid hk
  have HAT0 := hid h
  have HP0 := hid hp
  have HSL := hid hsl
  have HI := hid hrows
  have HD := hid hd
  have HF := hid hf
  have HDN := hid (Tr.depth_kids n)
  have hnS : ¬ S w.heap.size := fun e => absurd (h.slt hk _ e) (Nat.lt_irrefl _)
  have hng : w.heap.size ≠ k.g := by have := h.glt; omega
  have c1 : 0 < n.kids.length := by omega
  have H1 := hid h1
  have t1' : ((⟨n.text.toArray⟩ : ByteArray).toList == [40, 41]) = true := by rw [ByteArray.toList_eq]; exact t1
  clear h1
  have hd1 : (LI (fun _ => 0) (fun _ _ => true) n.kids).drop 1 = [] := by rw [← H1.out]; exact LI_end _ _ _
  have HL := hid (show LI (fun _ => 0) (fun _ _ => true) n.kids = [(0, true, n.kids[0])] by
    have := LI_drop (fun _ => 0) (fun _ _ => true) n.kids 0 c1
    rw [List.drop_zero, hd1] at this
    exact this)
  have HDX := hid (depth_mem (List.getElem_mem (l := n.kids) (n := 0) c1))
  clear hd1
  have HLIM2 := hid (by have h1 := HLIM.out; rw [HL.out, run_cons, run_nil] at h1; exact h1)
  unfold Wk.Ends
  rw [HL.out] at hf ⊢
  rw [run_cons, run_nil]
  rw [segsLen, segsLen, Tr.segLen_eq] at hf ⊢
  have HF2 := hid hf
  go_enter Try.func47, Try.ntmps47
  go_wp2_with fail
  refine (slot_any HK.out n 0 c1 (HI.out n.kids[0] (List.getElem_mem c1)) (HAT0.out.fresh HK.out ((Touch.refl _ _).alloc _)) HSL.out (HP0.out.mv (Mv.fresh ((Touch.refl _ _).alloc _))) (by have := HD.out; have := HDX.out; have := HDN.out; omega) true (by have := HF2.out; omega) HLIM2.out).mono ?_
  rintro _ W7 ⟨rfl, S7, hat, hmv⟩
  have HAT7 := hid hat
  have HMV7 := hid ((Mv.fresh (show Fresh w _ from (Touch.refl _ _).alloc _)).trans hmv)
  clear hat hmv
  go_wp2_with fail
  first | go_end0 | refine bodyPost_ret (v := .tuple #[]) (results_none rfl _ _ _) rfl ?_
  refine ⟨rfl, S7, ?_, HMV7.out⟩
  have := HAT7.out
  simp only [Nat.zero_add, Nat.add_zero, ← Nat.add_assoc] at this ⊢
  exact this
set_option maxRecDepth 100000 in
set_option maxHeartbeats 4000000 in
theorem tree_square {k : Wk σ κ} (hk : k.Good) (n : Nd) (h7 : (n.kind == 7) = false) (h8 : (n.kind == 8) = false) (h9 : (n.kind == 9) = false) (h11 : (n.kind == 11) = true) (t1 : (n.text == [40, 41]) = false) (t2 : (n.text == [91, 93]) = true) (h1 : n.kids.length = 1) (hrows : ∀ a ∈ n.kids, k.RowS a) :
    k.TreeAs n 0 (LI (fun _ => 0) (fun _ _ => true) n.kids) 0 := by
  intro S f s w p v sl h hsl hp hd hf hlim
  have HLIM := hid hlim
  clear hlim
  have hlen := hsl.len
  unfold maxLen at hlen
  obtain ⟨A, cap, rfl⟩ := hsl.slice
  obtain ⟨Ap, capp, rfl⟩ := hp.slice
  have HK := hid hk
  have HAT0 := hid h
  have HP0 := hid hp
  have HSL := hid hsl
  have HI := hid hrows
  have HD := hid hd
  have HF := hid hf
  have HDN := hid (Tr.depth_kids n)
  have hnS : ¬ S w.heap.size := fun e => absurd (h.slt hk _ e) (Nat.lt_irrefl _)
  have hng : w.heap.size ≠ k.g := by have := h.glt; omega
  have c1 : 0 < n.kids.length := by omega
  have H1 := hid h1
  have t1' : ((⟨n.text.toArray⟩ : ByteArray).toList == [40, 41]) = false := by rw [ByteArray.toList_eq]; exact t1
  have t2' : ((⟨n.text.toArray⟩ : ByteArray).toList == [91, 93]) = true := by rw [ByteArray.toList_eq]; exact t2
  clear h1
  have hd1 : (LI (fun _ => 0) (fun _ _ => true) n.kids).drop 1 = [] := by rw [← H1.out]; exact LI_end _ _ _
  have HL := hid (show LI (fun _ => 0) (fun _ _ => true) n.kids = [(0, true, n.kids[0])] by
    have := LI_drop (fun _ => 0) (fun _ _ => true) n.kids 0 c1
    rw [List.drop_zero, hd1] at this
    exact this)
  have HDX := hid (depth_mem (List.getElem_mem (l := n.kids) (n := 0) c1))
  clear hd1
  have HLIM2 := hid (by have h1 := HLIM.out; rw [HL.out, run_cons, run_nil] at h1; exact h1)
  unfold Wk.Ends
  rw [HL.out] at hf ⊢
  rw [run_cons, run_nil]
  rw [segsLen, segsLen, Tr.segLen_eq] at hf ⊢
  have HF2 := hid hf
  go_enter Try.func47, Try.ntmps47
  go_wp2_with fail
  refine (slot_any HK.out n 0 c1 (HI.out n.kids[0] (List.getElem_mem c1)) (HAT0.out.fresh HK.out ((Touch.refl _ _).alloc _)) HSL.out (HP0.out.mv (Mv.fresh ((Touch.refl _ _).alloc _))) (by have := HD.out; have := HDX.out; have := HDN.out; omega) true (by have := HF2.out; omega) HLIM2.out).mono ?_
  rintro _ W7 ⟨rfl, S7, hat, hmv⟩
  have HAT7 := hid hat
  have HMV7 := hid ((Mv.fresh (show Fresh w _ from (Touch.refl _ _).alloc _)).trans hmv)
  clear hat hmv
  go_wp2_with fail
  first | go_end0 | refine bodyPost_ret (v := .tuple #[]) (results_none rfl _ _ _) rfl ?_
  refine ⟨rfl, S7, ?_, HMV7.out⟩
  have := HAT7.out
  simp only [Nat.zero_add, Nat.add_zero, ← Nat.add_assoc] at this ⊢
  exact this
set_option maxRecDepth 100000 in
set_option maxHeartbeats 4000000 in
theorem tree_matrix {k : Wk σ κ} (hk : k.Good) (n : Nd) (h12 : n.kind = 12) (hrows : ∀ a ∈ n.kids, k.RowS a) :
    k.TreeAs n 1 (LI (fun _ => 1) (fun _ _ => false) n.kids) 1 := by
  have h7 : (n.kind == 7) = false := by rw [h12]; rfl
  have h8 : (n.kind == 8) = false := by rw [h12]; rfl
  have h9 : (n.kind == 9) = false := by rw [h12]; rfl
  have h11 : (n.kind == 11) = false := by rw [h12]; rfl
  have h12' : (n.kind == 12) = true := by rw [h12]; rfl
  clear h12
  intro S f s w p v sl h hsl hp hd hf hlim
  have HLIM := hid hlim
  clear hlim
  have hlen := hsl.len
  unfold maxLen at hlen
  obtain ⟨A, cap, rfl⟩ := hsl.slice
  obtain ⟨Ap, capp, rfl⟩ := hp.slice
  have HK := hid hk
  have HAT0 := hid h
  have HP0 := hid hp
  have HSL := hid hsl
  have HI := hid hrows
  have HD := hid hd
  have HF := hid hf
  have HDN := hid (Tr.depth_kids n)
  have hnS : ¬ S w.heap.size := fun e => absurd (h.slt hk _ e) (Nat.lt_irrefl _)
  have hng : w.heap.size ≠ k.g := by have := h.glt; omega
  obtain ⟨_, b1, _, _, bf⟩ := h.cells
  have hglt := h.glt
  have hb0 : (f : Int) ≤ 100000 := by have := hk.len; omega
  have hb1 : 0 ≤ (f : Int) := by omega
  go_enter Try.func47, Try.ntmps47
  go_wp2_with fail
  refine forget_world (fun W => k.At S (f + 1) s W ∧ Mv k.g S S w W ∧ Blk W w.heap.size 24 #[.int .i64 n.kind, .string ⟨n.text.toArray⟩, .int .i64 n.cols, .slice A n.kids.length cap]) ?_ ?_
  · obtain ⟨hn1, hn2⟩ := HAT0.out.next HK.out (f' := f + 1) ((f : Int) + 1) (by omega)
    have hsz : w.heap.size = (w.setCell ⟨k.g, 1, none⟩ (.int .i64 ((f : Int) + 1))).heap.size := by simp [World.setCell]
    refine ⟨hn1.fresh HK.out ((Touch.refl _ _).alloc _), hn2.trans (Mv.fresh ((Touch.refl _ _).alloc _)), ?_⟩
    rw [hsz]
    exact Blk.new _ _ _
  rintro W1 ⟨hat1, hmv1, hb1'⟩
  have HAT1 := hid hat1
  have HMV1 := hid hmv1
  have HB1 := hid hb1'
  have HP1 := hid (HP0.out.mv hmv1)
  obtain ⟨q0, q1, q2, q3, _, _, _, _, hg4⟩ := Blk.four hb1'
  clear hat1 hmv1 hb1' h hp hsl hd hf b1 bf hglt hb0 hb1
  go_wp2_with fail
  go_loopw [86] (fun i wr => ∃ (j : Nat) (S1 : Nat → Prop) (f1 : Nat) (s1 : σ), i = .int .i64 j ∧ j ≤ n.kids.length ∧ Hid (k.At S1 f1 s1 wr) ∧ Hid (Mv k.g S S1 W1 wr) ∧ Hid (runSegs k.C k.T ((LI (fun _ => 1) (fun _ _ => false) n.kids).drop j) p j f1 s1 = runSegs k.C k.T (LI (fun _ => 1) (fun _ _ => false) n.kids) p 0 (f + 1) s) ∧ Hid (f1 + segsLen ((LI (fun _ => 1) (fun _ _ => false) n.kids).drop j) = f + 1 + segsLen (LI (fun _ => 1) (fun _ _ => false) n.kids))) (fun i _ => n.kids.length - (intOf i).toNat)
  case atStart => exact ⟨0, S, f + 1, s, rfl, Nat.zero_le _, HAT1, Mv.refl _ _ _, rfl, rfl⟩
  case round =>
    clear q0 q1 q2 q3
    obtain ⟨j, S1, f1, s1, rfl, hj, HAT, HMV, HRUN, HLEN⟩ := hrel
    have HB := hid (HMV.out.blk HB1.out hnS hng)
    obtain ⟨q0, q1, q2, q3, _, _, _, _, hg4⟩ := Blk.four HB.out.1
    by_cases c1 : j < n.kids.length
    · have d1 : decide ((j : Int) < (n.kids.length : Int)) = true := by simp only [decide_eq_true_eq]; omega
      have d1n : decide (j < n.kids.length) = true := by simp only [decide_eq_true_eq]; omega
      have d1' : (j : Int) < (n.kids.length : Int) := by omega
      obtain ⟨g, o, sx, rfl, hg, m0, m1, m2, m3, hrk⟩ := HSL.out.get j c1
      obtain ⟨Ax, capx, rfl⟩ := hrk.slice
      have HRK := hid (hrk.low HAT.out.low)
      have HDX := hid (depth_mem (List.getElem_mem (l := n.kids) (n := j) c1))
      have HP2 := hid (HP1.out.mv HMV.out)
      have a0 := Low.cell HAT.out.low m0
      have a1 := Low.cell HAT.out.low m1
      have a2 := Low.cell HAT.out.low m2
      have a3 := Low.cell HAT.out.low m3
      have hgw : g < wr.heap.size := block_lt_of_cell a0
      clear m0 m1 m2 m3 hrk hg
      have HR2 := hid (show runSegs k.C k.T ((LI (fun _ => 1) (fun _ _ => false) n.kids).drop (j + 1)) p (j + 1) (f1 + segLen (1, false, n.kids[j])) (runRow k.C k.T n.kids[j].kids (p ++ [j]) 0 (f1 + 1 + (false).toNat) s1) = runSegs k.C k.T (LI (fun _ => 1) (fun _ _ => false) n.kids) p 0 (f + 1) s by rw [← HRUN.out, LI_drop _ _ _ _ c1, run_cons])
      have HLX := hid (show f1 + ((1 + 2 * (false).toNat + (rowT n.kids[j].kids).length) + segsLen ((LI (fun _ => 1) (fun _ _ => false) n.kids).drop (j + 1))) = f + 1 + segsLen (LI (fun _ => 1) (fun _ _ => false) n.kids) by rw [← HLEN.out, LI_drop _ _ _ _ c1, segsLen, Tr.segLen_eq])
      obtain ⟨_, b1, _, _, bf⟩ := HAT.out.cells
      have hglt := HAT.out.glt
      have hb0 : (f1 : Int) ≤ 100000 := by have := HLEN.out; have := HF.out; have := HK.out.len; omega
      have hb1 : 0 ≤ (f1 : Int) := by omega
      go_wp2_with fail
      have HNX := hid (HAT.out.next HK.out (f' := f1 + 1) ((f1 : Int) + 1) (by omega))
      refine (slot_any HK.out n j c1 (HI.out n.kids[j] (List.getElem_mem c1)) HNX.out.1 HSL.out (HP2.out.mv HNX.out.2) (by have := HD.out; have := HDX.out; have := HDN.out; omega) false (by have := HLX.out; have := HF.out; simp only [Bool.toNat_false] at *; omega) (by have h1 := HLIM.out; rw [← HR2.out] at h1; exact HK.out.lim.2 _ _ _ _ _ h1)).mono ?_
      rintro _ W7 ⟨rfl, S7, hat, hmv⟩
      have HAT7 := hid hat
      have HMV7 := hid ((HMV.out.trans HNX.out.2).trans hmv)
      clear hat hmv
      clear q0 q1 q2 q3 a0 a1 a2 a3 b1 bf hglt hb0 hb1
      go_wp2_with fail
      go_roundw
      case rel => exact ⟨j + 1, S7, f1 + segLen (1, false, n.kids[j]), _, by go_num, c1, by have := HAT7.out; rw [Tr.segLen_eq, ← Nat.add_assoc, ← Nat.add_assoc]; exact this, HMV7, HR2.out, by rw [Hid, ← HLX.out, Tr.segLen_eq]; omega⟩
      case measure => simp [intOf]; omega
    · have d1 : decide ((j : Int) < (n.kids.length : Int)) = false := by simp only [decide_eq_false_iff_not]; omega
      have d1n : decide (j < n.kids.length) = false := by simp only [decide_eq_false_iff_not]; omega
      obtain rfl : j = n.kids.length := by omega
      obtain ⟨_, b1, _, _, bf⟩ := HAT.out.cells
      have hglt := HAT.out.glt
      have hb0 : (f1 : Int) ≤ 100000 := by have := HLEN.out; have := HF.out; have := HK.out.len; omega
      have hb1 : 0 ≤ (f1 : Int) := by omega
      have HNX := hid (HAT.out.next HK.out (f' := f1 + 1) ((f1 : Int) + 1) (by omega))
      go_wp2_with fail
      first | go_end0 | refine bodyPost_ret (v := .tuple #[]) (results_none rfl _ _ _) rfl ?_
      refine ⟨rfl, S1, ?_, (HMV1.out.trans HMV.out).trans HNX.out.2⟩
      have := HNX.out.1
      have h1 := HLEN.out
      have h2 := HRUN.out
      rw [LI_end] at h1 h2
      rw [run_nil] at h2
      rw [segsLen, Nat.add_zero] at h1
      rw [← h1, ← h2]
      exact this
end Go.Proofs.Ytdacpbdamliafaa
