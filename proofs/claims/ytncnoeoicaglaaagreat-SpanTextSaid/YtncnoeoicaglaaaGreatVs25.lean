/- Part 25 of 42 of a proof; its texts, joined: PrU, SnC, SnW. No condition. -/
import Derived.Test.YtncnoeoicaglaaaGreatVs24
import Derived.Test.YtncnoeoicaglaaaGreatVs12
import Derived.Test.YtncnoeoicaglaaaGreatVs6
import Derived.Test.YtncnoeoicaglaaaGreatVs2
import Derived.Test.YtncnoeoicaglaaaGreatVs7
set_option maxRecDepth 100000
set_option maxHeartbeats 2000000
namespace Go.Proofs.YtncnoeoicaglaaaGreat
open Go.RowKit
open Tr (Nd argT baseT rowT itemT cellsT View IsRow)
attribute [local go_sem] Oper.semAt_some
theorem base_scripts_sub (W0 : World) (p B : Nat) (tx cl : Value) (a b : Nd) (ha : RowE W0 p B a) (hb : ArgE W0 p B b) (sl : Value) (hsl : RepL W0 [a, b] sl) : Emits 95 #[pp p, .agg #[.int .i64 7, tx, cl, sl]] W0 p B (baseT a ++ ([Tr.mk7 95] ++ argT b)) := by
 by_cases h1 : a.kids.length = 1
 ·obtain ⟨x, hx⟩ := List.length_eq_one_iff.1 h1
  cases hs : Tr.scripted x with
  | true => exact scripts_78_one W0 p B _ _ (.inl (by decide)) tx cl a b x hx (.inr ⟨hs, group_em W0 p B a ha⟩) hb sl hsl
  | false => exact scripts_78_one W0 p B _ _ (.inl (by decide)) tx cl a b x hx (.inl ⟨hs, ha⟩) hb sl hsl
 ·exact scripts_78_len W0 p B _ _ (.inl (by decide)) tx cl a b h1 (group_em W0 p B a ha) hb sl hsl
theorem base_scripts_sup (W0 : World) (p B : Nat) (tx cl : Value) (a b : Nd) (ha : RowE W0 p B a) (hb : ArgE W0 p B b) (sl : Value) (hsl : RepL W0 [a, b] sl) : Emits 95 #[pp p, .agg #[.int .i64 8, tx, cl, sl]] W0 p B (baseT a ++ ([Tr.mk7 94] ++ argT b)) := by
 by_cases h1 : a.kids.length = 1
 ·obtain ⟨x, hx⟩ := List.length_eq_one_iff.1 h1
  cases hs : Tr.scripted x with
  | true => exact scripts_78_one W0 p B _ _ (.inr (by decide)) tx cl a b x hx (.inr ⟨hs, group_em W0 p B a ha⟩) hb sl hsl
  | false => exact scripts_78_one W0 p B _ _ (.inr (by decide)) tx cl a b x hx (.inl ⟨hs, ha⟩) hb sl hsl
 ·exact scripts_78_len W0 p B _ _ (.inr (by decide)) tx cl a b h1 (group_em W0 p B a ha) hb sl hsl
theorem base_scripts_both (W0 : World) (p B : Nat) (tx cl : Value) (a b d : Nd) (ha : RowE W0 p B a) (hb : ArgE W0 p B b) (hd : ArgE W0 p B d) (sl : Value) (hsl : RepL W0 [a, b, d] sl) : Emits 95 #[pp p, .agg #[.int .i64 9, tx, cl, sl]] W0 p B (baseT a ++ ([Tr.mk7 95] ++ (argT b ++ ([Tr.mk7 94] ++ argT d)))) := by
 by_cases h1 : a.kids.length = 1
 ·obtain ⟨x, hx⟩ := List.length_eq_one_iff.1 h1
  cases hs : Tr.scripted x with
  | true => exact scripts_9_one W0 p B tx cl a b d x hx (.inr ⟨hs, group_em W0 p B a ha⟩) hb hd sl hsl
  | false => exact scripts_9_one W0 p B tx cl a b d x hx (.inl ⟨hs, ha⟩) hb hd sl hsl
 ·exact scripts_9_len W0 p B tx cl a b d h1 (group_em W0 p B a ha) hb hd sl hsl
theorem sym_tok (t : Tr.Bytes) : (if t.length = 1 then (⟨1, t⟩ : Lx.Tok) else ⟨4, t⟩) = ⟨if t.length = 1 then 1 else 4, t⟩ := by split <;> rfl
theorem item_em (W0 : World) (p B : Nat) (x : Nd) (v : View x) (hc : Tr.count x ≤ 1000000) (h : ∀ a ∈ x.kids, RowE W0 p B a) : ItemE W0 p B x := by
 have hA : ∀ a ∈ x.kids, ArgE W0 p B a := fun a ha => argument_em W0 p B a (h a ha)
 cases v with
 | sym t ht => exact ⟨_, fun _ => by kernel_rfl, fun _ _ => by kernel_rfl, fun sx hr => by rw [Tr.itemT_sym, sym_tok]; exact symbol_em W0 p B (.mk 2 t 0 []) sx⟩
 | num t ht => exact ⟨_, fun _ => by kernel_rfl, fun _ _ => by kernel_rfl, fun sx hr => by rw [Tr.itemT_num]; exact number_em W0 p B (.mk 3 t 0 []) sx⟩
 | text t ht => exact ⟨_, fun _ => by kernel_rfl, fun _ _ => by kernel_rfl, fun sx hr => by rw [Tr.itemT_text]; exact quoted_em W0 p B (.mk 4 t 0 []) sx⟩
 | frac a b ha hb => exact ⟨_, fun _ => by kernel_rfl, fun _ _ => by kernel_rfl, fun sx hr => by rw [Tr.itemT_frac]; exact fraction_em W0 p B _ _ _ a b (hA a (by simp [Nd.kids])) (hA b (by simp [Nd.kids])) sx hr⟩
 | root a b ha hb =>
  refine ⟨94, fun _ => by kernel_rfl, fun _ _ => by kernel_rfl, fun sx hr => ?_⟩;rw [Tr.itemT_root]
  by_cases hk : a.kids = []
  ·rw [if_pos hk]; exact root_bare W0 p B _ _ _ a b hk (hA b (by simp [Nd.kids])) sx hr
  ·rw [if_neg hk, List.cons_append, List.append_assoc]; exact root_full W0 p B _ _ _ a b hk (h a (by simp [Nd.kids])) (hA b (by simp [Nd.kids])) sx hr
 | sub a b ha hb => exact ⟨_, fun _ => by kernel_rfl, fun _ _ => by kernel_rfl, fun sx hr => by rw [Tr.itemT_sub]; exact base_scripts_sub W0 p B _ _ a b (h a (by simp [Nd.kids])) (hA b (by simp [Nd.kids])) sx hr⟩
 | sup a b ha hb => exact ⟨_, fun _ => by kernel_rfl, fun _ _ => by kernel_rfl, fun sx hr => by rw [Tr.itemT_sup]; exact base_scripts_sup W0 p B _ _ a b (h a (by simp [Nd.kids])) (hA b (by simp [Nd.kids])) sx hr⟩
 | both a b d ha hb hd => exact ⟨_, fun _ => by kernel_rfl, fun _ _ => by kernel_rfl, fun sx hr => by rw [Tr.itemT_both]; exact base_scripts_both W0 p B _ _ a b d (h a (by simp [Nd.kids])) (hA b (by simp [Nd.kids])) (hA d (by simp [Nd.kids])) sx hr⟩
 | accent t a ht ha => exact ⟨_, fun _ => by kernel_rfl, fun _ _ => by kernel_rfl, fun sx hr => by rw [Tr.itemT_accent]; exact accent_em W0 p B _ _ t a (hA a (by simp [Nd.kids])) sx hr⟩
 | fence t a ht ha =>
  refine ⟨97, fun _ => by kernel_rfl, fun _ _ => by kernel_rfl, fun sx hr => ?_⟩;rw [Tr.itemT_fence]
  by_cases h1 : t = [40, 41]
  ·subst h1
   rw [if_pos (.inl rfl)];exact fence_round W0 p B _ _ a (h a (by simp [Nd.kids])) sx hr
  ·by_cases h2 : t = [91, 93]
   ·subst h2
    rw [if_pos (.inr rfl)];exact fence_square W0 p B _ _ a (h a (by simp [Nd.kids])) sx hr
   ·rw [if_neg (fun h => h.elim h1 h2)]
    exact fence_other W0 p B _ _ t h1 h2 a (hA a (by simp [Nd.kids])) sx hr
 | matrix c ks hc1 hn hm hk =>
  refine ⟨98, fun _ => by kernel_rfl, fun _ _ => by kernel_rfl, fun sx hr => ?_⟩;rw [Tr.itemT_matrix c ks (by rintro rfl; simp at hn)]
  have hle : c ≤ ks.length := by
   rcases Int.lt_or_le (ks.length : Int) c with h' | h'
   ·rw [Int.emod_eq_of_lt (by omega) h'] at hm
    omega
   ·exact h'
  have := Tr.countL_len ks;rw [Tr.count] at hc;exact matrix_em W0 p B _ _ c ks hc1 (by omega) (fun k hk' => h k (by simpa [Nd.kids] using hk')) sx hr
theorem rows_em (W0 : World) (p B : Nat) (m : Nat) : ∀ a : Nd, Tr.count a ≤ m → m ≤ 1000000 → IsRow a → RowE W0 p B a := by
 induction m with
 | zero => intro a h; have := Tr.count_pos a; omega
 | succ m ih =>
  intro a hc hm ha;have h1 := Tr.count_kids a;refine row_em W0 p B a fun x hx => ?_
  have h2 := Tr.count_mem hx;have hv := ha.views x hx;refine item_em W0 p B x hv (by omega) fun b hb => ?_
  have h3 := Tr.count_mem hb;have h4 := Tr.count_kids x;refine ih b (by omega) (by omega) ?_;cases hv with
  | sym t h => simp [Nd.kids] at hb
  | num t h => simp [Nd.kids] at hb
  | text t h => simp [Nd.kids] at hb
  | frac a b ha hb' => simp only [Nd.kids, List.mem_cons, List.not_mem_nil, or_false] at hb; rcases hb with rfl | rfl <;> assumption
  | root a b ha hb' => simp only [Nd.kids, List.mem_cons, List.not_mem_nil, or_false] at hb; rcases hb with rfl | rfl <;> assumption
  | sub a b ha hb' => simp only [Nd.kids, List.mem_cons, List.not_mem_nil, or_false] at hb; rcases hb with rfl | rfl <;> assumption
  | sup a b ha hb' => simp only [Nd.kids, List.mem_cons, List.not_mem_nil, or_false] at hb; rcases hb with rfl | rfl <;> assumption
  | both a b d ha hb' hd => simp only [Nd.kids, List.mem_cons, List.not_mem_nil, or_false] at hb; rcases hb with rfl | rfl | rfl <;> assumption
  | accent t a h ha => simp only [Nd.kids, List.mem_cons, List.not_mem_nil, or_false] at hb; subst hb; assumption
  | fence t a h ha => simp only [Nd.kids, List.mem_cons, List.not_mem_nil, or_false] at hb; subst hb; assumption
  | matrix c ks hc1 hn hm hk => exact hk b hb
theorem ownsRow_low {w : World} {base base' e size n : Nat} {v : Value} {xs : List Value} (h : w.ownsRow base e size v n xs) (hb : base' ≤ base) : w.ownsRow base' e size v n xs := by
 refine ⟨h.1, h.2.imp id ?_⟩;rintro ⟨g, cap, cur, h1, h2, h3⟩;exact ⟨g, cap, cur, h1, Nat.le_trans hb h2, h3⟩
def prCells : Array Value := #[.slice none 0 0, .pointer none, .slice none 0 0]
theorem built_pr : Tryz.prog.built 83 [] = some prCells := by kernel_rfl
theorem Pr.new (w : World) : Pr (w.alloc (.cells prCells 83)) w.heap.size (w.heap.size + 1) (.slice none 0 0) (.slice none 0 0) prCells [] [] :=
 ⟨by omega, ⟨Blk.new _ _ _, .inl rfl, rfl, World.ownsRow_nil _ _ _ _, by simp [Value.ownBlock], fun _ => rfl⟩, rfl, rfl, World.ownsRow_nil _ _ _ _⟩
theorem PSt.new (w : World) : PSt w w.heap.size (w.heap.size + 1) (w.alloc (.cells prCells 83)) [] [] :=
 ⟨(Touch.refl _ _).alloc _, Nat.le_refl _, by simp, _, _, _, Pr.new w⟩
def printS (n : Nd) : List UInt8 := if Tr.valid n then Tr.wtext (rowT n.kids) else []
def printE (n : Nd) : Int := if Tr.valid n then 0 else 1
def printT (n : Nd) : List Lx.PTok := if Tr.valid n then Lx.placed 0 (Tr.sepd none (rowT n.kids)) else []
def TokensOf (n : Nd) (w : World) (e : Ending) (w' : World) : Prop := ∃ v, e = .returned (.tuple #[v, .int .i64 (printE n)]) ∧ w'.ownsRow w.heap.size 134 4 v (printT n).length ((printT n).flatMap ptokCellsP) ∧ Fresh w w'
theorem print_any (n : Nd) (sl : Value) (w : World) (hr : RepL w n.kids sl) (ht : n.text.length ≤ maxLen) (hc : Tr.count n ≤ 1000) :
  Calls Tryz.prog 14 #[nv n sl] w fun e w' => e = .returned (.tuple #[.string ⟨(printS n).toArray⟩, .int .i64 (printE n)]) ∧ Fresh w w' := by
 have HV := hid (fun (w : World) (hr : RepL w n.kids sl) => valid_call n sl w hr ht (by omega));have HR := hid hr;have HC := hid hc;clear hr hc;cases hv : Tr.valid n with
 | false =>
  have HS := hid (show printS n = [] from by unfold printS; rw [hv]; rfl);have HE := hid (show printE n = 1 from by unfold printE; rw [hv]; rfl);rw [HS.out, HE.out];go_enter Tryz.func14, Tryz.ntmps14;go_wp2_with fail
  refine (HV.out _ (HR.out.fresh ((Touch.refl _ _).alloc _))).mono ?_;rintro _ w1 ⟨rfl, hf⟩;have HF := hid (Touch.pre hf);clear hf;go_wp2_with fail
  go_ret2;exact ⟨rfl, HF.out⟩
 | true =>
  have HS := hid (show printS n = Tr.wtext (rowT n.kids) from by unfold printS; rw [hv]; rfl);have HE := hid (show printE n = 0 from by unfold printE; rw [hv]; rfl);have HROW := hid (Tr.valid_row n hv);rw [HS.out, HE.out];go_enter Tryz.func14, Tryz.ntmps14;go_wp2_with fail
  refine (HV.out _ (HR.out.fresh ((Touch.refl _ _).alloc _))).mono ?_;rintro _ w1 ⟨rfl, hf⟩;have HF := hid (Touch.pre hf);have hb1 := hf.blk (Blk.new _ _ _) (fun h => h);have HB := hid hb1;obtain ⟨q0, q1, q2, q3, _, _, _, _, hg⟩ := Blk.four hb1;clear hf hb1;have HEM := hid (rows_em w1 w1.heap.size (w1.heap.size + 1) _ n (Nat.le_refl _) (by have := HC.out; omega) HROW.out sl (HR.out.fresh HF.out) _ _ _ (PSt.new w1) (row_fits n HROW.out HC.out))
  go_wp2_with (refine wpList_build_kind [] built_pr _ rfl rfl rfl (.agg prCells) rfl ?_)
  refine HEM.out.mono ?_;rintro _ w2 ⟨rfl, h2⟩;obtain ⟨vt, vb, cs, hpr, htc⟩ := h2;rw [adds_wtext] at hpr;have HF2 := hid (show Fresh w w2 from HF.out.trans' ((((Touch.refl (fun k => w1.heap.size ≤ k) w1).alloc (.cells prCells 83))).trans (htc.mono (fun k hk => by rcases hk with rfl | ⟨h, _⟩ <;> omega))) (fun i hi => .inr (by have := HF.out.size; omega)));have HPR := hid hpr;clear hpr htc q0 q1 q2 q3;go_wp2_with fail
  refine (bstring_any HPR.out.bld).mono ?_;rintro _ w3 ⟨rfl, h3⟩;have HF3 := hid (show Fresh w w3 from HF2.out.trans' h3 (fun i hi => .inr (by have := (owns_type HPR.out.bld.own hi).1; have := HF.out.size; omega)));clear h3;go_wp2_with fail
  go_ret2;exact ⟨rfl, HF3.out⟩
theorem ptokens_any (n : Nd) (sl : Value) (w : World) (hr : RepL w n.kids sl) (ht : n.text.length ≤ maxLen) (hc : Tr.count n ≤ 1000) :
  Calls Tryz.prog 62 #[nv n sl] w (TokensOf n w) := by
 have HV := hid (fun (w : World) (hr : RepL w n.kids sl) => valid_call n sl w hr ht (by omega));have HR := hid hr;have HC := hid hc;clear hr hc;cases hv : Tr.valid n with
 | false =>
  have HS := hid (show printT n = [] from by unfold printT; rw [hv]; rfl);have HE := hid (show printE n = 1 from by unfold printE; rw [hv]; rfl);go_enter Tryz.func62, Tryz.ntmps62;go_wp2_with fail
  refine (HV.out _ (HR.out.fresh ((Touch.refl _ _).alloc _))).mono ?_;rintro _ w1 ⟨rfl, hf⟩;have HF := hid (Touch.pre hf);clear hf;go_wp2_with fail
  go_ret2;exact ⟨.slice none 0 0, by rw [HE.out]; rfl, by rw [HS.out]; exact World.ownsRow_nil _ _ _ _, HF.out⟩
 | true =>
  have HS := hid (show printT n = Lx.placed 0 (Tr.sepd none (rowT n.kids)) from by unfold printT; rw [hv]; rfl);have HE := hid (show printE n = 0 from by unfold printE; rw [hv]; rfl);have HROW := hid (Tr.valid_row n hv);go_enter Tryz.func62, Tryz.ntmps62;go_wp2_with fail
  refine (HV.out _ (HR.out.fresh ((Touch.refl _ _).alloc _))).mono ?_;rintro _ w1 ⟨rfl, hf⟩;have HF := hid (Touch.pre hf);have hb1 := hf.blk (Blk.new _ _ _) (fun h => h);have HB := hid hb1;obtain ⟨q0, q1, q2, q3, _, _, _, _, hg⟩ := Blk.four hb1;clear hf hb1;have HEM := hid (rows_em w1 w1.heap.size (w1.heap.size + 1) _ n (Nat.le_refl _) (by have := HC.out; omega) HROW.out sl (HR.out.fresh HF.out) _ _ _ (PSt.new w1) (row_fits n HROW.out HC.out))
  go_wp2_with (refine wpList_build_kind [] built_pr _ rfl rfl rfl (.agg prCells) rfl ?_)
  refine HEM.out.mono ?_;rintro _ w2 ⟨rfl, h2⟩;obtain ⟨vt, vb, cs, hpr, htc⟩ := h2;rw [adds_wtext] at hpr;have HF2 := hid (show Fresh w w2 from HF.out.trans' ((((Touch.refl (fun k => w1.heap.size ≤ k) w1).alloc (.cells prCells 83))).trans (htc.mono (fun k hk => by rcases hk with rfl | ⟨h, _⟩ <;> omega))) (fun i hi => .inr (by have := HF.out.size; omega)));have HPR := hid hpr;have r0 : w2.cell? ⟨w1.heap.size, 0, none⟩ = some vt := (hpr.bld.blk.cell 0).trans hpr.tok;clear hpr htc q0 q1 q2 q3;go_wp2_with fail
  go_ret2
  exact ⟨vt, by rw [HE.out]; rfl, by
   rw [HS.out];exact ownsRow_low HPR.out.own (by have := HF.out.size; omega), HF2.out⟩
end Go.Proofs.YtncnoeoicaglaaaGreat
namespace Go.Proofs.YtncnoeoicaglaaaGreat
open Go.RowKit
open Tr (Nd Clo runRow runSegs rowT itemT segs)
structure Mv (g : Nat) (S S' : Nat → Prop) (w w' : World) : Prop where
 touch : Touch (fun b => S b ∨ b = g) w w'
 grow : ∀ b, S' b → S b ∨ w.heap.size ≤ b
theorem Mv.trans {g : Nat} {S S' S'' : Nat → Prop} {a b c : World} (h : Mv g S S' a b) (k : Mv g S' S'' b c) : Mv g S S'' a c :=
 ⟨h.touch.trans' k.touch fun i hi => by
   rcases hi with hi | rfl
   ·exact (h.grow i hi).imp .inl id
   ·exact .inl (.inr rfl),
  fun i hi => by
   rcases k.grow i hi with h1 | h1
   ·exact h.grow i h1
   ·exact .inr (Nat.le_trans h.touch.size h1)⟩
theorem Mv.fresh {g : Nat} {S : Nat → Prop} {a b : World} (h : Fresh a b) : Mv g S S a b := ⟨h.mono fun _ hf => hf.elim, fun _ h => .inl h⟩
theorem Mv.refl (g : Nat) (S : Nat → Prop) (a : World) : Mv g S S a a := Mv.fresh (Touch.refl _ _)
structure Mc (S S' : Nat → Prop) (w w' : World) : Prop where
 touch : Touch S w w'
 grow : ∀ b, S' b → S b ∨ w.heap.size ≤ b
theorem Mc.mv {g : Nat} {S S' : Nat → Prop} {w w' : World} (h : Mc S S' w w') : Mv g S S' w w' := ⟨h.touch.mono fun _ => .inl, h.grow⟩
theorem Mv.blk {g : Nat} {S S' : Nat → Prop} {w w' : World} (h : Mv g S S' w w') {k : Nat} {t : TypeId} {cs : Array Value} (hb : Blk w k t cs) (h1 : ¬ S k) (h2 : k ≠ g) : Blk w' k t cs ∧ ¬ S' k :=
 ⟨h.touch.blk hb (fun e => e.elim h1 h2), fun e => (h.grow k e).elim h1 fun hle => by have := hb.lt; omega⟩
def PathIn (g : Nat) (S : Nat → Prop) (w : World) (v : Value) (p : List Nat) : Prop :=
 ∃ A cap, v = .slice A p.length cap ∧ (p = [] ∨ ∃ b o, A = some ⟨b, o, none⟩ ∧ b < w.heap.size ∧ ¬ S b ∧ b ≠ g ∧ ∀ i (h : i < p.length), w.cell? ⟨b, o + i, none⟩ = some (.int .i64 (p[i] : Nat)))
theorem PathIn.ints {g : Nat} {S : Nat → Prop} {w : World} {v : Value} {p : List Nat} (h : PathIn g S w v p) : Ints w v (up p) := by
 obtain ⟨A, cap, rfl, h⟩ := h;refine ⟨A, cap, by simp, ?_⟩
 rcases h with rfl | ⟨b, o, rfl, h1, _, _, h2⟩
 ·exact .inl rfl
 ·exact .inr ⟨b, o, rfl, h1, fun i hi => by rw [List.getElem_map]; exact h2 i (by simpa using hi)⟩
theorem PathIn.slice {g : Nat} {S : Nat → Prop} {w : World} {v : Value} {p : List Nat} (h : PathIn g S w v p) : ∃ A cap, v = .slice A p.length cap := by
 obtain ⟨A, cap, h, _⟩ := h;exact ⟨A, cap, h⟩
theorem PathIn.mv {g : Nat} {S S' : Nat → Prop} {w w' : World} {v : Value} {p : List Nat} (h : PathIn g S w v p) (k : Mv g S S' w w') : PathIn g S' w' v p := by
 obtain ⟨A, cap, rfl, h⟩ := h;refine ⟨A, cap, rfl, h.imp id ?_⟩;rintro ⟨b, o, rfl, h1, h2, h3, h4⟩;exact ⟨b, o, rfl, Nat.lt_of_lt_of_le h1 k.touch.size, fun e => (k.grow b e).elim h2 (by omega), h3, fun i hi => k.touch.cell (h4 i hi) (fun e => e.elim h2 h3)⟩
theorem PathIn.nil (g : Nat) (S : Nat → Prop) (w : World) : PathIn g S w (.slice none 0 0) [] := ⟨none, 0, rfl, .inl rfl⟩
theorem PathIn.new {g : Nat} {S : Nat → Prop} {w w' : World} {v : Value} {p : List Nat} (hS : ∀ b, S b → b < w.heap.size) (hg : g < w.heap.size) (h : w'.ownsRow w.heap.size 3 1 v (up p).length (intVs (up p))) : PathIn g S w' v p := by
 rcases h.2 with ⟨h1, h2⟩ | ⟨b, cap, cur, h1, hB, _⟩
 ·rw [List.length_map] at h2
  rw [List.length_eq_zero_iff.1 h2, h1];exact PathIn.nil _ _ _
 ·rw [List.length_map] at h1
  refine ⟨_, cap, h1, .inr ⟨b, 0, rfl, (h.lt b (by rw [h1]; rfl)).2, fun e => by have := hS b e; omega, by omega, fun i hi => ?_⟩⟩;have := h.cells (g := b) (by rw [h1]; rfl) i (.int .i64 (p[i] : Nat)) (by simp [hi]);rw [Addr.add_mid, Nat.zero_add] at this;rw [Nat.zero_add];exact this
theorem path_cat {g : Nat} {S : Nat → Prop} {W : World} {A : Option Addr} {cap : Nat} {p : List Nat} (hp : PathIn g S W (.slice A p.length cap) p) (hS : ∀ b, S b → b < W.heap.size) (hg : g < W.heap.size) (hl : p.length ≤ 1000) (i n : Nat) :
  Calls Tryz.prog 87 #[.slice (some ⟨W.heap.size + 1, 0, none⟩) 2 2] (((W.drewN n).alloc (.cells #[.int .i64 (i : Int)] 3)).alloc (.cells #[.slice A p.length cap, .slice (some ⟨W.heap.size, 0, none⟩) 1 1] 46))
   fun e w' => ∃ A' cap', e = .returned (.slice A' (p.length + 1) cap') ∧ PathIn g S w' (.slice A' (p.length + 1) cap') (p ++ [i]) ∧ Fresh W w' := by
 have hb1 : Blk (((W.drewN n).alloc (.cells #[.int .i64 (i : Int)] 3)).alloc (.cells #[.slice A p.length cap, .slice (some ⟨W.heap.size, 0, none⟩) 1 1] 46)) W.heap.size 3 #[.int .i64 (i : Int)] := (Blk.new (W.drewN n) _ _).alloc _;have hb2 : Blk (((W.drewN n).alloc (.cells #[.int .i64 (i : Int)] 3)).alloc (.cells #[.slice A p.length cap, .slice (some ⟨W.heap.size, 0, none⟩) 1 1] 46)) (W.heap.size + 1) 46 #[.slice A p.length cap, .slice (some ⟨W.heap.size, 0, none⟩) 1 1] := Blk.new2 (W.drewN n) _ _ _;have hf : Fresh W (((W.drewN n).alloc (.cells #[.int .i64 (i : Int)] 3)).alloc (.cells #[.slice A p.length cap, .slice (some ⟨W.heap.size, 0, none⟩) 1 1] 46)) := (((Touch.refl _ W).drewN n).alloc _).alloc _;generalize (((W.drewN n).alloc (.cells #[.int .i64 (i : Int)] 3)).alloc (.cells #[.slice A p.length cap, .slice (some ⟨W.heap.size, 0, none⟩) 1 1] 46)) = X at *;refine (concat2 (up p) (up [i]) _ _ _ X (hp.ints.fresh hf) ⟨some ⟨W.heap.size, 0, none⟩, 1, rfl, .inr ⟨W.heap.size, 0, rfl, hb1.lt, fun j hj => ?_⟩⟩ (hb2.cell 0) (hb2.cell 1) (by simp) (by simp; omega)).mono ?_
 ·have : j = 0 := by simpa using hj
  subst this;exact hb1.cell 0
 ·rintro _ w' ⟨v', rfl, ho, hf'⟩
  rw [← List.map_append] at ho;have hP := PathIn.new (g := g) (S := S) (p := p ++ [i]) (fun b hb => Nat.lt_of_lt_of_le (hS b hb) hf.size) (Nat.lt_of_lt_of_le hg hf.size) ho;obtain ⟨A', cap', rfl⟩ := hP.slice;rw [List.length_append] at hP ⊢;exact ⟨A', cap', rfl, hP, hf.trans hf'⟩
structure Wk (σ κ : Type) where
 W0 : World
 g : Nat
 tg : Nat
 tv : Value
 T : List Lx.PTok
 C : Clo σ κ
 fi : Nat
 ci : Array Value
 fo : Nat
 co : Array Value
 St : σ → (Nat → Prop) → World → Prop
 Dn : κ → (Nat → Prop) → World → Nat → Array Value → Prop
 Lim : σ → Prop
 Kp : κ → σ → Prop
variable {σ κ : Type}
structure Wk.Good (k : Wk σ κ) : Prop where
 len : k.T.length ≤ 100000
 place : ∀ t ∈ k.T, t.from_ ≤ 2000000 ∧ t.to_ ≤ 2000000
 far : k.W0.heap.size ≤ k.g
 lt : ∀ s S w b, k.St s S w → S b → k.W0.heap.size ≤ b ∧ b < w.heap.size ∧ b ≠ k.g ∧ b ≠ k.tg
 stmv : ∀ s S w w', k.St s S w → Touch (fun b => b = k.g) w w' → k.St s S w'
 dnmv : ∀ q S S' w w' d cd, k.Dn q S w d cd → Mv k.g S S' w w' → k.Dn q S' w' d cd
 off : ∀ s S w p v (pl : Nat), k.St s S w → PathIn k.g S w v p → p.length ≤ 1000 → pl ≤ 2000000 → k.Lim (k.C.off s p pl) → Calls Tryz.prog k.fo (#[v, .int .i64 (pl : Int)] ++ k.co) w fun e w' => e = .returned (.tuple #[]) ∧ ∃ S', k.St (k.C.off s p pl) S' w' ∧ Mc S S' w w'
 item : ∀ s S w p v (pl : Nat), k.St s S w → PathIn k.g S w v p → p.length ≤ 1000 → pl ≤ 2000000 → k.Lim (k.C.item s p pl) → Calls Tryz.prog k.fi (#[v, .int .i64 (pl : Int)] ++ k.ci) w fun e w' => ∃ d cd S', e = .returned (.func (.func d) #[] cd) ∧ k.St (k.C.item s p pl) S' w' ∧ Mc S S' w w' ∧ k.Dn (k.C.key s) S' w' d cd
 done : ∀ s S w q d cd (pl : Nat), k.St s S w → k.Dn q S w d cd → k.Kp q s → pl ≤ 2000000 → k.Lim (k.C.done s q pl) → Calls Tryz.prog d (#[.int .i64 (pl : Int)] ++ cd) w fun e w' => e = .returned (.tuple #[]) ∧ ∃ S', k.St (k.C.done s q pl) S' w' ∧ Mc S S' w w'
 kp0 : ∀ s p pl, k.Kp (k.C.key s) (k.C.item s p pl)
 kpo : ∀ q s p pl, k.Kp q s → k.Kp q (k.C.off s p pl)
 kpi : ∀ q s p pl, k.Kp q s → k.Kp q (k.C.item s p pl)
 kpd : ∀ q s q' pl, k.Kp q s → k.Kp q (k.C.done s q' pl)
 limo : ∀ s p pl, k.Lim (k.C.off s p pl) → k.Lim s
 limi : ∀ s p pl, k.Lim (k.C.item s p pl) → k.Lim s
 limd : ∀ s q pl, k.Lim (k.C.done s q pl) → k.Lim s
 callo : ∀ (a : Array Value) (w : World), (callFunc k.fo a).run Tryz.prog w = .ok (.enter k.fo a) w
 calli : ∀ (a : Array Value) (w : World), (callFunc k.fi a).run Tryz.prog w = .ok (.enter k.fi a) w
 calld : ∀ q S w d cd, k.Dn q S w d cd → ∀ (a : Array Value) (w : World), (callFunc d a).run Tryz.prog w = .ok (.enter d a) w
structure Wk.At (k : Wk σ κ) (S : Nat → Prop) (f : Nat) (s : σ) (w : World) : Prop where
 low : Low k.W0 w
 box : Blk w k.g 118 #[k.tv, .int .i64 (f : Int), .func (.func k.fi) #[] k.ci, .func (.func k.fo) #[] k.co]
 tok : ∃ A cap, k.tv = .slice A k.T.length cap ∧ ∀ i (h : i < k.T.length), A = some ⟨k.tg, 0, none⟩ ∧ k.tg < w.heap.size ∧ k.tg ≠ k.g ∧ w.cell? ⟨k.tg, i * 4 + 2, none⟩ = some (.int .i64 (k.T[i].from_ : Nat)) ∧ w.cell? ⟨k.tg, i * 4 + 3, none⟩ = some (.int .i64 (k.T[i].to_ : Nat))
 st : k.St s S w
theorem Wk.At.mc {k : Wk σ κ} (hk : k.Good) {S S' : Nat → Prop} {f : Nat} {s s' : σ} {w w' : World} (h : k.At S f s w) (m : Mc S S' w w') (hs : k.St s' S' w') : k.At S' f s' w' := by
 refine ⟨h.low.trans' m.touch fun i hi => .inl (hk.lt s S w i h.st hi).1, m.touch.blk h.box fun e => (hk.lt s S w _ h.st e).2.2.1 rfl, ?_, hs⟩;obtain ⟨A, cap, h1, h2⟩ := h.tok;refine ⟨A, cap, h1, fun i hi => ?_⟩;obtain ⟨a, b, c, d, e⟩ := h2 i hi;exact ⟨a, Nat.lt_of_lt_of_le b m.touch.size, c, m.touch.cell d fun e => (hk.lt s S w _ h.st e).2.2.2 rfl, m.touch.cell e fun e => (hk.lt s S w _ h.st e).2.2.2 rfl⟩
theorem Wk.At.fresh {k : Wk σ κ} (hk : k.Good) {S : Nat → Prop} {f : Nat} {s : σ} {w w' : World} (h : k.At S f s w) (hf : Fresh w w') : k.At S f s w' :=
 h.mc hk ⟨hf.mono fun _ hf => hf.elim, fun _ h => .inl h⟩ (hk.stmv s S w w' h.st (hf.mono fun _ hf => hf.elim))
theorem Wk.At.next {k : Wk σ κ} (hk : k.Good) {S : Nat → Prop} {f f' : Nat} {s : σ} {w : World} (h : k.At S f s w) (x : Int) (hx : x = (f' : Int)) : k.At S f' s (w.setCell ⟨k.g, 1, none⟩ (.int .i64 x)) ∧ Mv k.g S S w (w.setCell ⟨k.g, 1, none⟩ (.int .i64 x)) := by
 subst hx;have ht : Touch (fun b => b = k.g) w (w.setCell ⟨k.g, 1, none⟩ (.int .i64 (f' : Int))) := (Touch.refl (fun b => b = k.g) w).setCell (p := ⟨k.g, 1, none⟩) (.inl rfl) _;refine ⟨⟨h.low.trans' ht fun i hi => by subst hi; exact .inl hk.far, ?_, ?_, hk.stmv s S w _ h.st ht⟩, ⟨ht.mono fun _ => .inr, fun _ h => .inl h⟩⟩
 ·have := h.box.put 1 (.int .i64 (f' : Int))
  exact this
 ·obtain ⟨A, cap, h1, h2⟩ := h.tok
  refine ⟨A, cap, h1, fun i hi => ?_⟩;obtain ⟨a, b, c, d, e⟩ := h2 i hi;exact ⟨a, Nat.lt_of_lt_of_le b ht.size, c, ht.cell d c, ht.cell e c⟩
theorem Wk.At.glt {k : Wk σ κ} {S : Nat → Prop} {f : Nat} {s : σ} {w : World} (h : k.At S f s w) : k.g < w.heap.size := h.box.lt
theorem Wk.At.slt {k : Wk σ κ} (hk : k.Good) {S : Nat → Prop} {f : Nat} {s : σ} {w : World} (h : k.At S f s w) : ∀ b, S b → b < w.heap.size := fun b hb => (hk.lt s S w b h.st hb).2.1
theorem Wk.At.cells {k : Wk σ κ} {S : Nat → Prop} {f : Nat} {s : σ} {w : World} (h : k.At S f s w) :
  w.cell? ⟨k.g, 0, none⟩ = some k.tv ∧ w.cell? ⟨k.g, 1, none⟩ = some (.int .i64 (f : Int)) ∧ w.cell? ⟨k.g, 2, none⟩ = some (.func (.func k.fi) #[] k.ci) ∧ w.cell? ⟨k.g, 3, none⟩ = some (.func (.func k.fo) #[] k.co) ∧ w.frozen? ⟨k.g, 1, none⟩ = false :=
 ⟨h.box.cell 0, h.box.cell 1, h.box.cell 2, h.box.cell 3, h.box.frozen 1⟩
theorem Wk.Good.lim {k : Wk σ κ} (hk : k.Good) : (∀ ks p i f s, k.Lim (runRow k.C k.T ks p i f s) → k.Lim s) ∧ ∀ l p j f s, k.Lim (runSegs k.C k.T l p j f s) → k.Lim s := by
 refine Tr.rows_ind (P := fun ks => ∀ p i f s, k.Lim (runRow k.C k.T ks p i f s) → k.Lim s) (Q := fun l => ∀ p j f s, k.Lim (runSegs k.C k.T l p j f s) → k.Lim s) ?_ ?_ ?_ ?_
 ·intro p i f s h; rw [runRow] at h; exact hk.limo _ _ _ h
 ·intro n ns h1 h2 p i f s h
  rw [runRow] at h;exact hk.limo _ _ _ (hk.limi _ _ _ (h1 _ _ _ _ (hk.limd _ _ _ (h2 _ _ _ _ h))))
 ·intro p j f s h; rw [runSegs] at h; exact h
 ·intro q b a r h1 h2 p j f s h
  rw [runSegs] at h;exact h1 _ _ _ _ (h2 _ _ _ _ h)
theorem Wk.Good.kp {k : Wk σ κ} (hk : k.Good) (q : κ) : (∀ ks p i f s, k.Kp q s → k.Kp q (runRow k.C k.T ks p i f s)) ∧ ∀ l p j f s, k.Kp q s → k.Kp q (runSegs k.C k.T l p j f s) := by
 refine Tr.rows_ind (P := fun ks => ∀ p i f s, k.Kp q s → k.Kp q (runRow k.C k.T ks p i f s)) (Q := fun l => ∀ p j f s, k.Kp q s → k.Kp q (runSegs k.C k.T l p j f s)) ?_ ?_ ?_ ?_
 ·intro p i f s h; rw [runRow]; exact hk.kpo _ _ _ _ h
 ·intro n ns h1 h2 p i f s h
  rw [runRow];exact h2 _ _ _ _ (hk.kpd _ _ _ _ (h1 _ _ _ _ (hk.kpi _ _ _ _ (hk.kpo _ _ _ _ h))))
 ·intro p j f s h; rw [runSegs]; exact h
 ·intro q' b a r h1 h2 p j f s h
  rw [runSegs];exact h2 _ _ _ _ (h1 _ _ _ _ h)
def Wk.Ends (k : Wk σ κ) (S : Nat → Prop) (f : Nat) (s : σ) (w : World) (e : Ending) (w' : World) : Prop := e = .returned (.tuple #[]) ∧ ∃ S', k.At S' f s w' ∧ Mv k.g S S' w w'
def Wk.RowS (k : Wk σ κ) (a : Nd) : Prop := ∀ (S : Nat → Prop) (f : Nat) (s : σ) (w : World) (p : List Nat) (v sl kd tx cl : Value), k.At S f s w → RepL k.W0 a.kids sl → PathIn k.g S w v p → p.length + 2 * Tr.depth a ≤ 500 → f + (rowT a.kids).length ≤ k.T.length → k.Lim (runRow k.C k.T a.kids p 0 f s) →
 Calls Tryz.prog 63 #[.pointer (some ⟨k.g, 0, none⟩), .agg #[kd, tx, cl, sl], v] w (k.Ends S (f + (rowT a.kids).length) (runRow k.C k.T a.kids p 0 f s) w)
def Wk.TreeS (k : Wk σ κ) (n : Nd) : Prop := ∀ (S : Nat → Prop) (f : Nat) (s : σ) (w : World) (p : List Nat) (v sl : Value), k.At S f s w → RepL k.W0 n.kids sl → PathIn k.g S w v p → p.length + 2 * Tr.depth n ≤ 500 → f + (itemT n).length ≤ k.T.length → k.Lim (runSegs k.C k.T (segs n) p 0 f s) →
 Calls Tryz.prog 88 #[.pointer (some ⟨k.g, 0, none⟩), nv n sl, v] w (k.Ends S (f + (itemT n).length) (runSegs k.C k.T (segs n) p 0 f s) w)
end Go.Proofs.YtncnoeoicaglaaaGreat
namespace Go.Proofs.YtncnoeoicaglaaaGreat
open Go.RowKit
open Tr (Nd Clo runRow runSegs rowT itemT segs)
attribute [local go_sem] stillV stillUpon
variable {σ κ : Type}
theorem fromAt_eq (T : List Lx.PTok) (f : Nat) (h : f < T.length) : Tr.fromAt T f = T[f].from_ := by unfold Tr.fromAt; rw [List.getElem?_eq_getElem h]; rfl
theorem endAt_eq (T : List Lx.PTok) (f : Nat) (h : f < T.length) : Tr.endAt T (f + 1) = T[f].to_ := by unfold Tr.endAt; rw [if_neg (by omega), Nat.add_sub_cancel, List.getElem?_eq_getElem h]; rfl
theorem end_any {k : Wk σ κ} (hk : k.Good) {S : Nat → Prop} {f : Nat} {s : σ} {w : World} (h : k.At S f s w) (hf : f ≤ k.T.length) :
  Calls Tryz.prog 89 #[.pointer (some ⟨k.g, 0, none⟩)] w fun e w' => e = .returned (.int .i64 (Tr.endAt k.T f : Nat)) ∧ Fresh w w' := by
 have hlen := hk.len;obtain ⟨q0, q1, q2, q3, _⟩ := h.cells;obtain ⟨A, cap, hv, ht⟩ := h.tok;rw [hv] at q0;clear q2 q3 hv;generalize k.g = g at *;cases f with
 | zero =>
  clear ht hlen hf h;go_enter Tryz.func89, Tryz.ntmps89;go_wp2_with fail
  go_ret;exact ⟨rfl, Touch.refl _ _⟩
 | succ f =>
  have hf' : f < k.T.length := by omega
  obtain ⟨rfl, hlt, _, t2, t3⟩ := ht f hf';have HE := hid (endAt_eq k.T f hf');have c0 : (((f + 1 : Nat) : Int) == (0 : Int)) = false := by rw [beq_eq_false_iff_ne]; omega
  have c0n : (f + 1 == 0) = false := by simp
  have e1 : ((f + 1 : Nat) : Int) = (f : Int) + 1 := by omega
  have e2 : IntKind.i64.wrap ((f : Int) + 1 - 1) = (f : Int) := by rw [show ((f : Int) + 1 - 1) = (f : Int) by omega]; exact IntWalk.i64_in _ (by omega)
  have e3 : (f : Int) < (k.T.length : Int) := by omega
  have e4 : (f : Int) + 1 - 1 = (f : Int) := by omega
  clear hf h t2 ht;rw [HE.out];rw [e1] at q1;rw [e1] at c0;generalize k.T[f] = t at *;generalize k.T.length = m at *;clear e1 HE;go_enter Tryz.func89, Tryz.ntmps89;go_wp2_with fail
  go_quiet (fail)
  go_wp2_with fail
  go_ret;exact ⟨rfl, (Touch.refl _ _).drewN _⟩
theorem wscripted_any (n : Nd) (sl : Value) (w : World) : Calls Tryz.prog 121 #[nv n sl] w fun e w' => e = .returned (.bool (Tr.scripted n)) ∧ Fresh w w' := by
 cases k7 : (n.kind == 7) with
 | true =>
  go_enter Tryz.func121, Tryz.ntmps121;go_wp2_with fail
  go_ret;exact ⟨ret_bool' _ _ (by simp [Tr.scripted, k7]), (Touch.refl _ _).alloc _⟩
 | false =>
  cases k8 : (n.kind == 8) with
  | true =>
   go_enter Tryz.func121, Tryz.ntmps121;go_wp2_with fail
   go_ret;exact ⟨ret_bool' _ _ (by simp [Tr.scripted, k8]), (Touch.refl _ _).alloc _⟩
  | false =>
   go_enter Tryz.func121, Tryz.ntmps121;go_wp2_with fail
   go_ret;exact ⟨ret_bool' _ _ (by simp [Tr.scripted, k7, k8]), (Touch.refl _ _).alloc _⟩
theorem grp_len (a : Nd) (h : a.kids.length ≠ 1) : Tr.grp a = true := by
 unfold Tr.grp;split
 ·rename_i x hx; rw [hx] at h; simp at h
 ·rfl
theorem grp_one (a x : Nd) (h : a.kids = [x]) : Tr.grp a = !Tr.leaf x := by unfold Tr.grp; rw [h]
theorem wgroup_any (n : Nd) (sl : Value) (w : World) (hr : RepL w n.kids sl) : Calls Tryz.prog 122 #[nv n sl] w fun e w' => e = .returned (.bool (Tr.grp n)) ∧ Fresh w w' := by
 have hlen := hr.len;unfold maxLen at hlen
 by_cases h1 : n.kids.length = 1
 ·obtain ⟨x, hx⟩ := List.length_eq_one_iff.1 h1
  rw [grp_one n x hx];rw [hx] at hr;obtain ⟨g, o, cap, sx, rfl, x0, x1, x2, x3, hrx⟩ := hr.one;have hgw : g < w.heap.size := bL x0;clear hrx x1 x2 x3 hlen h1;cases k2 : (x.kind == 2) with
  | true =>
   have k2' : (x.kind != 2) = false := by rw [bne, k2]; rfl
   go_enter Tryz.func122, Tryz.ntmps122;go_wp2_with fail
   go_ret;exact ⟨ret_bool' _ _ (by simp [Tr.leaf, k2]), (Touch.refl _ _).alloc _⟩
  | false =>
   have k2' : (x.kind != 2) = true := by rw [bne, k2]; rfl
   cases k3 : (x.kind == 3) with
   | true =>
    have k3' : (x.kind != 3) = false := by rw [bne, k3]; rfl
    go_enter Tryz.func122, Tryz.ntmps122;go_wp2_with fail
    go_ret;exact ⟨ret_bool' _ _ (by simp [Tr.leaf, k3]), (Touch.refl _ _).alloc _⟩
   | false =>
    have k3' : (x.kind != 3) = true := by rw [bne, k3]; rfl
    go_enter Tryz.func122, Tryz.ntmps122;go_wp2_with fail
    go_ret;exact ⟨ret_bool' _ _ (by simp [Tr.leaf, k2, k3]; rfl), (Touch.refl _ _).alloc _⟩
 ·rw [grp_len n h1]
  obtain ⟨A, cap, rfl⟩ := hr.slice;have b1 : ((n.kids.length : Int) == (1 : Int)) = false := by rw [beq_eq_false_iff_ne]; omega
  have b1' : ((n.kids.length : Int) != (1 : Int)) = true := by rw [bne, b1]; rfl
  have b2 : (n.kids.length == 1) = false := by simpa using h1
  clear hr hlen h1;go_enter Tryz.func122, Tryz.ntmps122;go_wp2_with fail
  go_ret;exact ⟨rfl, (Touch.refl _ _).alloc _⟩
def Wk.SlotEnds (k : Wk σ κ) (S : Nat → Prop) (f : Nat) (s : σ) (w : World) (a : Nd) (p : List Nat) (b : Bool) : Ending → World → Prop :=
 k.Ends S (f + 2 * b.toNat + (rowT a.kids).length) (runRow k.C k.T a.kids p 0 (f + b.toNat) s) w
theorem slot_no {k : Wk σ κ} (hk : k.Good) (n : Nd) (j : Nat) (hj : j < n.kids.length) (hrow : k.RowS n.kids[j]) {S : Nat → Prop} {f : Nat} {s : σ} {w : World} (h : k.At S f s w) {p : List Nat} {v sl : Value}
  (hsl : RepL k.W0 n.kids sl) (hp : PathIn k.g S w v p) (hd : p.length + 1 + 2 * Tr.depth n.kids[j] ≤ 500) (hf : f + (rowT n.kids[j].kids).length ≤ k.T.length) (hlim : k.Lim (runRow k.C k.T n.kids[j].kids (p ++ [j]) 0 (f + false.toNat) s)) :
  Calls Tryz.prog 120 #[.pointer (some ⟨k.g, 0, none⟩), nv n sl, v, .int .i64 (j : Int), .bool false] w (k.SlotEnds S f s w n.kids[j] (p ++ [j]) false) := by
 unfold Wk.SlotEnds;have hlen := hsl.len;unfold maxLen at hlen;have hjl : (j : Int) < (n.kids.length : Int) := by omega
 obtain ⟨A, cap, rfl⟩ := hsl.slice;obtain ⟨g, o, sx, rfl, hg, m0, m1, m2, m3, hrk⟩ := hsl.get j hj;obtain ⟨Ax, capx, rfl⟩ := hrk.slice;obtain ⟨Ap, capp, rfl⟩ := hp.slice;have HROW := hid hrow;have HRK := hid hrk;have M0 := hid m0;have M1 := hid m1;have M2 := hid m2;have M3 := hid m3;have HD := hid hd;have HF := hid hf;have HK := hid hk;have HAT := hid h;have HP := hid hp;have HLIM := hid hlim;clear hlim;clear hrow hrk m0 m1 m2 m3 hd hf hk h hp hsl;generalize n.kids[j] = x at *;generalize n.kids.length = len at *;go_enter Tryz.func120, Tryz.ntmps120;go_wp2_with fail
 refine forget_world (fun W => Fresh w W ∧ Blk W w.heap.size 26 #[.int .i64 n.kind, .string ⟨n.text.toArray⟩, .int .i64 n.cols, .slice (some ⟨g, o, none⟩) len cap]) ⟨(Touch.refl _ _).alloc _, Blk.new _ _ _⟩ ?_;rintro W4 ⟨hf4, hb4⟩;obtain ⟨q0, q1, q2, q3, _, _, _, _, hg4⟩ := Blk.four hb4;have HF4 := hid hf4;have HAT4 := hid (HAT.out.fresh HK.out hf4);have HP4 := hid (HP.out.mv (Mv.fresh hf4));have a0 := Low.cell HAT4.out.low M0.out;have a1 := Low.cell HAT4.out.low M1.out;have a2 := Low.cell HAT4.out.low M2.out;have a3 := Low.cell HAT4.out.low M3.out;have hgw : g < W4.heap.size := bL a0;clear hf4 hb4;have g0 := cR q0;have g1 := cR q1;have g2 := cR q2;have g3 := cR q3;have h0 := cR a0;have h1 := cR a1;have h2 := cR a2;have h3 := cR a3;refine wp_region_mix [([(0, true), (1, true), (2, true), (3, true), (4, true), (5, true), (6, true), (7, true), (8, false), (9, false), (10, false)], 11)] [] (by kernel_rfl) (fun _ _ d _ _ h => by cases d <;> exact h) (by kernel_rfl) ?_;refine wpMix_seg ?_
 repeat (refine wpSeq_plain rfl (fun K hK => ?_); go_simp; refine hK _ ?_; clear hK K)
 refine wpSeq_lone rfl (fun K hK => ?_);go_wp2_with fail
 refine hK _ _ (growing_fresh (((Touch.refl _ _).drewN _).alloc _)) ?_;clear hK K;refine wpSeq_lone rfl (fun K hK => ?_);go_wp2_with fail
 refine hK _ _ (growing_fresh ((((Touch.refl _ _).drewN _).alloc _).alloc _)) ?_;clear hK K;refine wpSeq_lone rfl (fun K hK => ?_);go_wp2_with fail
 refine (path_cat (HP4.out) (HAT4.out.slt HK.out) HAT4.out.glt (by have := HD.out; omega) j 1).mono ?_;rintro _ W6 ⟨A6, cap6, rfl, hp6, hf6⟩;have HP6 := hid hp6;have HF6 := hid hf6;clear hp6 hf6;go_wp2_with fail
 refine hK _ _ (growing_fresh HF6.out) ?_;clear hK K;refine wpSeq_shut rfl (fun K hK => ?_);go_wp2_with fail
 refine (HROW.out _ _ _ _ _ _ _ _ _ _ (HAT4.out.fresh HK.out HF6.out) HRK.out HP6.out (by have := HD.out; simp only [List.length_append, List.length_singleton]; omega) HF.out HLIM.out).mono ?_;rintro _ W7 ⟨rfl, S7, hat, hmv⟩;have HAT7 := hid hat;have HMV7 := hid ((Mv.fresh (HF4.out.trans HF6.out)).trans hmv);clear hat hmv;go_wp2_with fail
 refine wpMix_end ?_;go_wp2_with fail
 go_end0
 exact ⟨rfl, S7, HAT7.out, HMV7.out⟩
theorem slot_yes {k : Wk σ κ} (hk : k.Good) (n : Nd) (j : Nat) (hj : j < n.kids.length) (hrow : k.RowS n.kids[j]) {S : Nat → Prop} {f : Nat} {s : σ} {w : World} (h : k.At S f s w) {p : List Nat} {v sl : Value}
  (hsl : RepL k.W0 n.kids sl) (hp : PathIn k.g S w v p) (hd : p.length + 1 + 2 * Tr.depth n.kids[j] ≤ 500) (hf : f + 2 + (rowT n.kids[j].kids).length ≤ k.T.length) (hlim : k.Lim (runRow k.C k.T n.kids[j].kids (p ++ [j]) 0 (f + true.toNat) s)) :
  Calls Tryz.prog 120 #[.pointer (some ⟨k.g, 0, none⟩), nv n sl, v, .int .i64 (j : Int), .bool true] w (k.SlotEnds S f s w n.kids[j] (p ++ [j]) true) := by
 unfold Wk.SlotEnds;have hlen := hsl.len;unfold maxLen at hlen;have hjl : (j : Int) < (n.kids.length : Int) := by omega
 obtain ⟨A, cap, rfl⟩ := hsl.slice;obtain ⟨g, o, sx, rfl, hg, m0, m1, m2, m3, hrk⟩ := hsl.get j hj;obtain ⟨Ax, capx, rfl⟩ := hrk.slice;obtain ⟨Ap, capp, rfl⟩ := hp.slice;have HROW := hid hrow;have HRK := hid hrk;have M0 := hid m0;have M1 := hid m1;have M2 := hid m2;have M3 := hid m3;have HD := hid hd;have HF := hid hf;have HK := hid hk;have HAT := hid h;have HP := hid hp;have HLIM := hid hlim;clear hlim;clear hrow hrk m0 m1 m2 m3 hd hf hk h hp hsl;obtain ⟨_, b1, _, _, bf⟩ := HAT.out.cells;have hglt := HAT.out.glt;have hlt := HK.out.len;have hb0 : (f : Int) ≤ 100000 := by have := HF.out; omega
 have hb1 : 0 ≤ (f : Int) := by omega
 generalize n.kids[j] = x at *;generalize n.kids.length = len at *;go_enter Tryz.func120, Tryz.ntmps120;go_wp2_with fail
 refine forget_world (fun W => k.At S (f + 1) s W ∧ Mv k.g S S w W ∧ Blk W w.heap.size 26 #[.int .i64 n.kind, .string ⟨n.text.toArray⟩, .int .i64 n.cols, .slice (some ⟨g, o, none⟩) len cap]) ?_ ?_
 ·obtain ⟨hn1, hn2⟩ := HAT.out.next HK.out (f' := f + 1) ((f : Int) + 1) (by omega)
  have hsz : w.heap.size = (w.setCell ⟨k.g, 1, none⟩ (.int .i64 ((f : Int) + 1))).heap.size := by simp [World.setCell]
  refine ⟨hn1.fresh HK.out ((Touch.refl _ _).alloc _), hn2.trans (Mv.fresh ((Touch.refl _ _).alloc _)), ?_⟩;rw [hsz];exact Blk.new _ _ _
 clear b1 bf hglt hlt hb0 hb1;rintro W4 ⟨hat4, hmv4, hb4⟩;obtain ⟨q0, q1, q2, q3, _, _, _, _, hg4⟩ := Blk.four hb4;have HAT4 := hid hat4;have HMV4 := hid hmv4;have HP4 := hid (HP.out.mv hmv4);have a0 := Low.cell HAT4.out.low M0.out;have a1 := Low.cell HAT4.out.low M1.out;have a2 := Low.cell HAT4.out.low M2.out;have a3 := Low.cell HAT4.out.low M3.out;have hgw : g < W4.heap.size := bL a0;clear hat4 hmv4 hb4;have g0 := cR q0;have g1 := cR q1;have g2 := cR q2;have g3 := cR q3;have h0 := cR a0;have h1 := cR a1;have h2 := cR a2;have h3 := cR a3;refine wp_region_mix [([(0, true), (1, true), (2, true), (3, true), (4, true), (5, true), (6, true), (7, true), (8, false), (9, false), (10, false)], 11)] [] (by kernel_rfl) (fun _ _ d _ _ h => by cases d <;> exact h) (by kernel_rfl) ?_;refine wpMix_seg ?_
 repeat (refine wpSeq_plain rfl (fun K hK => ?_); go_simp; refine hK _ ?_; clear hK K)
 refine wpSeq_lone rfl (fun K hK => ?_);go_wp2_with fail
 refine hK _ _ (growing_fresh (((Touch.refl _ _).drewN _).alloc _)) ?_;clear hK K;refine wpSeq_lone rfl (fun K hK => ?_);go_wp2_with fail
 refine hK _ _ (growing_fresh ((((Touch.refl _ _).drewN _).alloc _).alloc _)) ?_;clear hK K;refine wpSeq_lone rfl (fun K hK => ?_);go_wp2_with fail
 refine (path_cat (HP4.out) (HAT4.out.slt HK.out) HAT4.out.glt (by have := HD.out; omega) j 1).mono ?_;rintro _ W6 ⟨A6, cap6, rfl, hp6, hf6⟩;have HP6 := hid hp6;have HF6 := hid hf6;clear hp6 hf6;go_wp2_with fail
 refine hK _ _ (growing_fresh HF6.out) ?_;clear hK K;refine wpSeq_shut rfl (fun K hK => ?_);go_wp2_with fail
 refine (HROW.out _ _ _ _ _ _ _ _ _ _ (HAT4.out.fresh HK.out HF6.out) HRK.out HP6.out (by have := HD.out; simp only [List.length_append, List.length_singleton]; omega) (by have := HF.out; omega) HLIM.out).mono ?_;rintro _ W7 ⟨rfl, S7, hat, hmv⟩;have HAT7 := hid hat;have HMV7 := hid ((HMV4.out.trans (Mv.fresh HF6.out)).trans hmv);clear hat hmv q0 q1 q2 q3 a0 a1 a2 a3 g0 g1 g2 g3 h0 h1 h2 h3;go_wp2_with fail
 refine wpMix_end ?_;obtain ⟨_, b1, _, _, bf⟩ := HAT7.out.cells;have hglt := HAT7.out.glt;have hlt := HK.out.len;have hb0 : ((f + 1 + (rowT x.kids).length : Nat) : Int) ≤ 100000 := by have := HF.out; omega
 have hb1 : 0 ≤ ((f + 1 + (rowT x.kids).length : Nat) : Int) := by omega
 clear hlt;have HNX := hid (HAT7.out.next HK.out (f' := f + 2 * true.toNat + (rowT x.kids).length) (((f + 1 + (rowT x.kids).length : Nat) : Int) + 1) (by simp only [Bool.toNat_true]; omega));generalize ((f + 1 + (rowT x.kids).length : Nat) : Int) = nx at *;go_wp2_with fail
 go_end0
 exact ⟨rfl, S7, HNX.out.1, HMV7.out.trans HNX.out.2⟩
end Go.Proofs.YtncnoeoicaglaaaGreat
