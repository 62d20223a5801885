/- Part 21 of 33 of a proof; its texts, joined: MoF, MoP, MkB. No condition. -/
import Derived.Test.YtfnjcldgicohaaaGreatWa20
import Derived.Test.YtfnjcldgicohaaaGreatWa19
import Derived.Test.YtfnjcldgicohaaaGreatWa11
import Derived.Maps.RangeWalk
import Derived.WideMake
set_option maxRecDepth 100000
set_option maxHeartbeats 2000000
namespace Go.Proofs.YtfnjcldgicohaaaGreat
open Go.RowKit
open Tr (Nd)
open El (E Attrs attrV hasA rowNil)
theorem rtext_oth (n : List UInt8) (a : Attrs) (ks : List E) (t : List UInt8) (k : Int) (hk : k = 0 ∨ k = 5 ∨ k = 6 ∨ k = 7 ∨ k = 8 ∨ k = 9 ∨ k = 12) (A : Option Addr) (ca : Nat) (vk : Value) (w : World) (hr : RepV w (.mk n a ks t) (.slice A a.length ca) vk) : Calls Tryz.prog 57 #[.agg #[.string ⟨n.toArray⟩, .slice A a.length ca, vk, .string ⟨t.toArray⟩], .int .i64 k] w fun x w' => x = .returned (.tuple #[.string ⟨([] : List UInt8).toArray⟩, .bool (((a.length : Int) == (0 : Int)) && t.isEmpty)]) ∧ Fresh w w' := by
 have htl : t.length ≤ maxLen := hr.2.2.2;have hl1 : a.length ≤ maxLen := by obtain ⟨_, _, _, h, _⟩ := hr.1; exact h.1
 have HTL := hid htl;unfold maxLen at hl1 htl;have HE := hid hr;clear hr
 rcases hk with rfl | rfl | rfl | rfl | rfl | rfl | rfl
 all_goals
  go_enter Tryz.func57, Tryz.ntmps57;cases h1 : ((a.length : Int) == (0 : Int)) with
  | false =>
   have h1m : ((a.length : Int) != (0 : Int)) = true := by rw [bne, h1]; rfl
   go_wp2_with fail
   refine wp_region_quiet_lit (by kernel_rfl) (by kernel_rfl) ?_
   repeat (with_reducible refine wpQuiet_step (fun K hK => ?_); go_simp; first | (refine hK _ ?_; clear hK K) | (apply Exists.intro; refine ⟨fun _ => ?_, hK _ ?_⟩; (fail); clear hK K))
   refine wpQuiet_nil ?_;rintro _ ⟨nq, rfl⟩;go_wp2_with fail
   refine bodyPost_ret (results_tmp2 rfl _ _ _) rfl ?_;exact ⟨congrArg Ending.returned (show Value.tuple #[_, _] = Value.tuple #[_, _] by first | rfl | (congr 2 <;> first | rfl | (simp only [*] <;> rfl))), (by first | exact (Touch.refl _ _) | exact (Touch.refl _ _).alloc _ | exact ((Touch.refl _ _).alloc _).alloc _ | exact (((Touch.refl _ _).alloc _).alloc _).alloc _ | exact (Touch.refl _ _).drewN _ | exact ((Touch.refl _ _).alloc _).drewN _ | exact (((Touch.refl _ _).alloc _).alloc _).drewN _)⟩
  | true =>
   have h1m : ((a.length : Int) != (0 : Int)) = false := by rw [bne, h1]; rfl
   go_wp2_with fail
   refine wp_region_quiet_lit (by kernel_rfl) (by kernel_rfl) ?_
   repeat (with_reducible refine wpQuiet_step (fun K hK => ?_); go_simp; first | (refine hK _ ?_; clear hK K) | (apply Exists.intro; refine ⟨fun _ => ?_, hK _ ?_⟩; (fail); clear hK K))
   refine wpQuiet_nil ?_;rintro _ ⟨nq, rfl⟩;go_wp2_with fail
   refine bodyPost_ret (results_tmp2 rfl _ _ _) rfl ?_;exact ⟨congrArg Ending.returned (show Value.tuple #[_, _] = Value.tuple #[_, _] by first | rfl | (congr 2 <;> first | rfl | (simp only [*] <;> rfl))), (by first | exact (Touch.refl _ _) | exact (Touch.refl _ _).alloc _ | exact ((Touch.refl _ _).alloc _).alloc _ | exact (((Touch.refl _ _).alloc _).alloc _).alloc _ | exact (Touch.refl _ _).drewN _ | exact ((Touch.refl _ _).alloc _).drewN _ | exact (((Touch.refl _ _).alloc _).alloc _).drewN _)⟩
theorem len0 {α : Type} (a : List α) : ((a.length : Int) == (0 : Int)) = a.isEmpty := by
 cases a with
 | nil => rfl
 | cons x a => rw [List.isEmpty_cons, beq_eq_false_iff_ne, List.length_cons]; omega
theorem lenk {α : Type} (a : List α) (k : Nat) : ((a.length : Int) == (k : Int)) = decide (a.length = k) := by
 rw [Bool.eq_iff_iff, beq_iff_eq, decide_eq_true_eq]; omega
theorem beq_nil (t : List UInt8) : (t == ([] : List UInt8)) = t.isEmpty := by cases t <;> rfl
theorem beq_dec (t s : List UInt8) : (t == s) = decide (t = s) := by rw [Bool.eq_iff_iff, beq_iff_eq, decide_eq_true_eq]
theorem kind_cases (n : List UInt8) : (El.kindR n = 2 ∨ El.kindR n = 3 ∨ El.kindR n = 4 ∨ El.kindR n = 10 ∨ El.kindR n = 11) ∨ (El.kindR n = 0 ∨ El.kindR n = 5 ∨ El.kindR n = 6 ∨ El.kindR n = 7 ∨ El.kindR n = 8 ∨ El.kindR n = 9 ∨ El.kindR n = 12) := by
 by_cases h : n ∈ kNames
 ·obtain ⟨j, hj, he⟩ := List.mem_iff_getElem.1 h
  rw [kind_at n j hj he];have : ∀ i : Fin 13, (kInts[i.1]'i.2 = 2 ∨ kInts[i.1]'i.2 = 3 ∨ kInts[i.1]'i.2 = 4 ∨ kInts[i.1]'i.2 = 10 ∨ kInts[i.1]'i.2 = 11) ∨ (kInts[i.1]'i.2 = 0 ∨ kInts[i.1]'i.2 = 5 ∨ kInts[i.1]'i.2 = 6 ∨ kInts[i.1]'i.2 = 7 ∨ kInts[i.1]'i.2 = 8 ∨ kInts[i.1]'i.2 = 9 ∨ kInts[i.1]'i.2 = 12) := by decide
  exact this ⟨j, hj⟩
 ·rw [kind_none n (by cases hc : kNames.contains n with | false => rfl | true => exact absurd (List.contains_iff_mem.1 hc) h)]
  decide
theorem rtext_any (e : E) (va vk : Value) (w : World) (hr : RepV w e va vk) (hl : ∀ x ∈ e.attrs, x.2.length ≤ 1000) :
  Calls Tryz.prog 57 #[ev e va vk, .int .i64 (El.kindR e.name)] w fun x w' => x = .returned (.tuple #[.string ⟨(El.textR e (El.kindR e.name)).1.toArray⟩, .bool (El.textR e (El.kindR e.name)).2]) ∧ Fresh w w' := by
 obtain ⟨A, ca, hva⟩ := hr.1.slice;subst hva
 have hv : ∀ nm, (attrV e.attrs nm).length ≤ 1000 := by
  intro nm;obtain ⟨n, a, ks, t⟩ := e;simp only [E.attrs] at hl ⊢;clear hr
  induction a with
  | nil => exact Nat.zero_le _
  | cons x a ih =>
   show (if x.1 = nm then x.2 else attrV a nm).length ≤ 1000;split
   ·exact hl x (List.mem_cons_self ..)
   ·exact ih fun y hy => hl y (List.mem_cons_of_mem _ hy)
 have hkc := kind_cases e.name;obtain ⟨n, a, ks, t⟩ := e;simp only [E.attrs, E.name] at *;generalize El.kindR n = k at hkc ⊢
 rcases hkc with (rfl | rfl | rfl | rfl | rfl) | hk
 ·refine (rtext_sym n a ks t A ca vk w hr).mono fun x w' h => ⟨h.1.trans ?_, h.2⟩
  show _ = Ending.returned (.tuple #[.string ⟨t.toArray⟩, .bool (a.isEmpty && Tr.symbol t && (El.lettsR t == decide (n = El.nMi)))]);rw [len0, beq_dec]; rfl
 ·refine (rtext_num n a ks t A ca vk w hr).mono fun x w' h => ⟨h.1.trans ?_, h.2⟩
  show _ = Ending.returned (.tuple #[.string ⟨t.toArray⟩, .bool (a.isEmpty && Tr.valid (.mk 1 [] 0 [.mk 3 t 0 []]))]);rw [len0]
 ·refine (rtext_quo n a ks t A ca vk w hr).mono fun x w' h => ⟨h.1.trans ?_, h.2⟩
  show _ = Ending.returned (.tuple #[.string ⟨t.toArray⟩, .bool (a.isEmpty && Tr.valid (.mk 1 [] 0 [.mk 4 t 0 []]))]);rw [len0]
 ·refine (rtext_acc n a ks t (attrV a El.nAccent) (hasA a El.nAccent) rfl rfl A ca vk w hr).mono fun x w' h => ⟨h.1.trans ?_, h.2⟩
  show _ = Ending.returned (.tuple #[.string ⟨(attrV a El.nAccent).toArray⟩, .bool (hasA a El.nAccent && decide (a.length = 1) && t.isEmpty && Tr.accents.contains (attrV a El.nAccent))]);rw [show ((a.length : Int) == (1 : Int)) = decide (a.length = 1) from lenk a 1, beq_nil]
 ·refine (rtext_fen n a ks t (attrV a El.nOpen) (attrV a El.nClose) (hasA a El.nOpen) (hasA a El.nClose) rfl rfl rfl rfl (hv _) (hv _) A ca vk w hr).mono fun x w' h => ⟨h.1.trans ?_, h.2⟩
  show _ = Ending.returned (.tuple #[.string ⟨(attrV a El.nOpen ++ attrV a El.nClose).toArray⟩, .bool (hasA a El.nOpen && hasA a El.nClose && decide (a.length = 2) && t.isEmpty && decide ((attrV a El.nOpen).length = 1) && decide ((attrV a El.nClose).length = 1) && Tr.valid (.mk 1 [] 0 [.mk 11 (attrV a El.nOpen ++ attrV a El.nClose) 0 [rowNil]]))]);rw [show ((a.length : Int) == (2 : Int)) = decide (a.length = 2) from lenk a 2, beq_nil, show (((attrV a El.nOpen).length : Int) == (1 : Int)) = decide ((attrV a El.nOpen).length = 1) from lenk _ 1, show (((attrV a El.nClose).length : Int) == (1 : Int)) = decide ((attrV a El.nClose).length = 1) from lenk _ 1]
 ·refine (rtext_oth n a ks t k hk A ca vk w hr).mono fun x w' h => ⟨h.1.trans ?_, h.2⟩
  have : El.textR (.mk n a ks t) k = ([], a.isEmpty && t.isEmpty) := by
   unfold El.textR
   rcases hk with rfl | rfl | rfl | rfl | rfl | rfl | rfl <;> rfl
  rw [this, len0]
theorem textR_len (e : E) (k : Int) (ht : e.text.length ≤ maxLen) (hl : ∀ x ∈ e.attrs, x.2.length ≤ 1000) : (El.textR e k).1.length ≤ maxLen := by
 have hv : ∀ nm, (attrV e.attrs nm).length ≤ 1000 := by
  intro nm;obtain ⟨n, a, ks, t⟩ := e;simp only [E.attrs] at hl ⊢;clear ht
  induction a with
  | nil => exact Nat.zero_le _
  | cons x a ih =>
   show (if x.1 = nm then x.2 else attrV a nm).length ≤ 1000;split
   ·exact hl x (List.mem_cons_self ..)
   ·exact ih fun y hy => hl y (List.mem_cons_of_mem _ hy)
 obtain ⟨n, a, ks, t⟩ := e;simp only [E.attrs, E.text] at *
 dsimp only [El.textR]
 have h1 := hv El.nAccent;have h2 := hv El.nOpen;have h3 := hv El.nClose;unfold maxLen at *;split
 ·exact ht
 ·split
  ·exact ht
  ·split
   ·show (attrV a El.nAccent).length ≤ _; omega
   ·split
    ·show (attrV a El.nOpen ++ attrV a El.nClose).length ≤ _; rw [List.length_append]; omega
    ·exact Nat.zero_le _
end Go.Proofs.YtfnjcldgicohaaaGreat
namespace Go.Proofs.YtfnjcldgicohaaaGreat.El
open Tr (Nd)
def Res {α : Type} (v : Bool × Nat) (r : α × Rd) (x : α) : Prop := (v.1 = true → r = (x, (v.2, -1))) ∧ (v.1 = false → r.2.2 = (v.2 : Int) - 1)
theorem seq_law (f : E → Rd → Nd × Rd) (F : List E → Rd → List Nd × Rd) (G : E → Nd) (hn : ∀ s, F [] s = ([], s))
  (hc : ∀ x xs s, F (x :: xs) s = if s.2 < 0 then ((f x s).1 :: (F xs (f x s).2).1, (F xs (f x s).2).2) else ([], s)) (p : E) (l : List E)
  (h : ∀ x ∈ l, ∀ k, Res (vis (admF p x) k x) (f x (k, -1)) (G x)) : ∀ k, Res (visL p k l) (F l (k, -1)) (l.map G) := by
 have hstop : ∀ l s, ¬ s.2 < 0 → F l s = ([], s) := by
  intro l s hs;cases l with
  | nil => exact hn s
  | cons x xs => rw [hc, if_neg hs]
 induction l with
 | nil => intro k; rw [visL, hn]; exact ⟨fun _ => rfl, fun h => by cases h⟩
 | cons x l ih =>
  intro k;have ih' := ih (fun y hy => h y (List.mem_cons_of_mem _ hy));have hx := h x (List.mem_cons_self ..) k;have hlt := vis_lt x (admF p x) k;rw [visL, hc, if_pos (show (((k, -1) : Rd)).2 < 0 by show (-1 : Int) < 0; decide)]
  rcases hv : vis (admF p x) k x with ⟨b, k'⟩
  rw [hv] at hx hlt;cases b with
  | true =>
   rw [hx.1 rfl];have := ih' k';show Res (visL p k' l) _ _;refine ⟨fun h1 => ?_, fun h1 => ?_⟩
   ·rw [this.1 h1]; rfl
   ·rw [this.2 h1]
  | false =>
   have h2 := hx.2 rfl;have hlt' : k < k' := hlt.1;have h3 : ¬ (f x (k, -1)).2.2 < 0 := by rw [h2]; show ¬ (k' : Int) - 1 < 0; omega
   rw [hstop l _ h3];exact ⟨fun h => (by cases h), fun _ => h2⟩
theorem lines_law (f : E → Rd → List Nd × Rd) (F : List E → Rd → List Nd × Rd) (G : E → List Nd) (hn : ∀ s, F [] s = ([], s))
  (hc : ∀ x xs s, F (x :: xs) s = if s.2 < 0 then ((f x s).1 ++ (F xs (f x s).2).1, (F xs (f x s).2).2) else ([], s)) (p : E) (l : List E)
  (h : ∀ x ∈ l, ∀ k, Res (vis (admF p x) k x) (f x (k, -1)) (G x)) : ∀ k, Res (visL p k l) (F l (k, -1)) (l.flatMap G) := by
 have hstop : ∀ l s, ¬ s.2 < 0 → F l s = ([], s) := by
  intro l s hs;cases l with
  | nil => exact hn s
  | cons x xs => rw [hc, if_neg hs]
 induction l with
 | nil => intro k; rw [visL, hn]; exact ⟨fun _ => rfl, fun h => by cases h⟩
 | cons x l ih =>
  intro k;have ih' := ih (fun y hy => h y (List.mem_cons_of_mem _ hy));have hx := h x (List.mem_cons_self ..) k;have hlt := vis_lt x (admF p x) k;rw [visL, hc, if_pos (show (((k, -1) : Rd)).2 < 0 by show (-1 : Int) < 0; decide), List.flatMap_cons]
  rcases hv : vis (admF p x) k x with ⟨b, k'⟩
  rw [hv] at hx hlt;cases b with
  | true =>
   rw [hx.1 rfl];have := ih' k';show Res (visL p k' l) _ _;refine ⟨fun h1 => ?_, fun h1 => ?_⟩
   ·rw [this.1 h1]
   ·rw [this.2 h1]
  | false =>
   have h2 := hx.2 rfl;have hlt' : k < k' := hlt.1;have h3 : ¬ (f x (k, -1)).2.2 < 0 := by rw [h2]; show ¬ (k' : Int) - 1 < 0; omega
   rw [hstop l _ h3];exact ⟨fun h => (by cases h), fun _ => h2⟩
theorem rItems_stop (l : List E) (s : Rd) (h : ¬ s.2 < 0) : rItems l s = ([], s) := by
 cases l with
 | nil => rw [rItems]
 | cons x l => rw [rItems, if_neg h]
theorem rRows_stop (nm : Bytes) (l : List E) (s : Rd) (h : ¬ s.2 < 0) : rRows nm l s = ([], s) := by
 cases l with
 | nil => rw [rRows]
 | cons x l => rw [rRows, if_neg h]
theorem rLines_stop (c : Int) (l : List E) (s : Rd) (h : ¬ s.2 < 0) : rLines c l s = ([], s) := by
 cases l with
 | nil => rw [rLines]
 | cons x l => cases x; rw [rLines, if_neg h]
theorem items_law (p : E) (l : List E) (h : ∀ x ∈ l, ∀ k, Res (vis (admF p x) k x) (rItem x (k, -1)) (itemN x)) (k : Nat) : Res (visL p k l) (rItems l (k, -1)) (itemsN l) := by
 rw [itemsN_map];exact seq_law rItem rItems itemN (fun s => by rw [rItems]) (fun x xs s => by rw [rItems]) p l h k
theorem rows_law (nm : Bytes) (p : E) (l : List E) (h : ∀ x ∈ l, ∀ k, Res (vis (admF p x) k x) (rRow nm x (k, -1)) (rowN x)) (k : Nat) : Res (visL p k l) (rRows nm l (k, -1)) (rowsN l) := by
 rw [rowsN_map];exact seq_law (rRow nm) (rRows nm) rowN (fun s => by rw [rRows]) (fun x xs s => by rw [rRows]) p l h k
theorem cells_law (c : Int) (p : E) (l : List E) (h : ∀ x ∈ l, ∀ k, Res (vis (admF p x) k x) (rRows nMtd x.kids (ent (okLine c x) (k, -1))) (rowsN x.kids)) (k : Nat) : Res (visL p k l) (rLines c l (k, -1)) (cellsN l) := by
 rw [cellsN_map];exact lines_law (fun x s => rRows nMtd x.kids (ent (okLine c x) s)) (rLines c) (fun x => rowsN x.kids) (fun s => by rw [rLines]) (fun x xs s => by cases x; rw [rLines]; rfl) p l h k
theorem ent_ok (k : Nat) : ent true (k, -1) = (k + 1, -1) := rfl
theorem ent_no (k : Nat) : ent false (k, -1) = (k + 1, (k : Int)) := rfl
theorem ent_stop (k : Nat) : ¬ (ent false (k, -1)).2 < 0 := by rw [ent_no]; show ¬ (k : Int) < 0; omega
theorem emp {α : Type} (l : List α) : l.isEmpty = decide (l.length = 0) := by cases l <;> rfl
theorem row_own (nm : Bytes) (hn : nm ∈ rowNames) (e : E) : (decide (e.name = nm) && ownF e) = okRow nm e := by
 obtain ⟨n, a, ks, t⟩ := e;unfold okRow;simp only [E.name, E.attrs, E.text]
 by_cases h : n = nm
 ·subst h
  have h1 : n = nMath ∨ n = nMrow ∨ n = nMtd := by simpa [rowNames] using hn
  rw [emp a]
  rcases h1 with rfl | rfl | rfl
  all_goals
   show (true && (t.isEmpty && true && true && decide (a.length = 0))) = _;cases t.isEmpty <;> simp
 ·simp [h]
theorem row_law (nm : Bytes) (hn : nm ∈ rowNames) (e : E) (h : ∀ x ∈ e.kids, ∀ k, Res (vis (admF e x) k x) (rItem x (k, -1)) (itemN x)) (k : Nat) :
  Res (vis (decide (e.name = nm)) k e) (rRow nm e (k, -1)) (rowN e) := by
 have ho := row_own nm hn e;rw [vis_eq, ho];obtain ⟨n, a, ks, t⟩ := e;rw [rRow];cases hb : okRow nm (.mk n a ks t) with
 | true =>
  rw [if_pos rfl, ent_ok];have := items_law (.mk n a ks t) ks h (k + 1);refine ⟨fun h1 => ?_, fun h1 => ?_⟩
  ·rw [show visL (.mk n a ks t) (k + 1) (E.mk n a ks t).kids = visL (.mk n a ks t) (k + 1) ks from rfl] at *
   simp only [this.1 h1]; rfl
  ·exact this.2 h1
 | false =>
  rw [if_neg (by decide)];have hs := rItems_stop ks _ (ent_stop k);rw [ent_no] at hs;simp only [ent_no, hs];exact ⟨fun h => (by cases h), fun _ => by show (k : Int) = ((k + 1 : Nat) : Int) - 1; omega⟩
theorem line_own (c : Nat) (e : E) : ((decide (e.name = nMtr) && decide (e.kids.length = c)) && ownF e) = okLine c e := by
 obtain ⟨n, a, ks, t⟩ := e;unfold okLine;simp only [E.name, E.attrs, E.text, E.kids]
 by_cases h : n = nMtr
 ·subst h
  rw [emp a];show (true && decide (ks.length = c) && (t.isEmpty && (decide (1 ≤ ks.length) && decide (ks.length ≤ 16)) && true && decide (a.length = 0))) = _;show _ = (true && decide (a.length = 0) && t.isEmpty && decide (1 ≤ ks.length) && decide (ks.length ≤ 16) && decide ((ks.length : Int) = (c : Int)));have : decide ((ks.length : Int) = (c : Int)) = decide (ks.length = c) := by rw [decide_eq_decide]; omega
  rw [this];cases t.isEmpty <;> cases decide (ks.length = c) <;> cases decide (1 ≤ ks.length) <;> cases decide (ks.length ≤ 16) <;> cases decide (a.length = 0) <;> rfl
 ·simp [h]
theorem line_law (c : Nat) (e : E) (h : e.name = nMtr → ∀ x ∈ e.kids, ∀ k, Res (vis (admF e x) k x) (rRow nMtd x (k, -1)) (rowN x)) (k : Nat) :
  Res (vis (decide (e.name = nMtr) && decide (e.kids.length = c)) k e) (rRows nMtd e.kids (ent (okLine c e) (k, -1))) (rowsN e.kids) := by
 rw [vis_eq, line_own c e];cases hb : okLine c e with
 | true =>
  rw [if_pos rfl, ent_ok];exact rows_law nMtd e e.kids (h (by unfold okLine at hb; simp only [Bool.and_eq_true, decide_eq_true_eq] at hb; exact hb.1.1.1.1.1)) (k + 1)
 | false =>
  rw [if_neg (by decide), rRows_stop _ _ _ (ent_stop k), ent_no];exact ⟨fun h => (by cases h), fun _ => by show (k : Int) = ((k + 1 : Nat) : Int) - 1; omega⟩
def admI (e : E) : Bool := !(decide (e.name = nMath) || decide (e.name = nMrow) || decide (e.name = nMtd) || decide (e.name = nMtr))
theorem letts_eq (t : Bytes) (h : Tr.symbol t = true) : lettsR t = lett t := by
 unfold Tr.symbol at h;unfold lettsR
 match t, h with
 | [], h => simp at h
 | [c], _ => show (false || (true && letter c)) = letter c; cases letter c <;> rfl
 | a :: b :: s, h =>
  simp only [Bool.and_eq_true, List.all_cons] at h;have h1 : letter a = true := h.1.1.1.1.1;show (decide (1 < s.length + 1 + 1) || _) = letter a;rw [h1, decide_eq_true (by omega)]; rfl
theorem hasA_of (a : Attrs) (nm : Bytes) (h : attrV a nm ≠ []) : hasA a nm = true := by
 induction a with
 | nil => exact absurd rfl h
 | cons x a ih =>
  unfold hasA at *;rw [List.any_cons]
  by_cases h1 : x.1 = nm
  ·rw [h1]; simp
  ·rw [ih (by intro h2; apply h; show (if x.1 = nm then _ else _) = _; rw [if_neg h1]; exact h2), Bool.or_true]
theorem item_own (e : E) : (admI e && ownF e) = okItem e := by
 obtain ⟨n, a, ks, t⟩ := e;have ek : ks.isEmpty = decide (ks.length = 0) := emp ks;have ea : a.isEmpty = decide (a.length = 0) := emp a
 by_cases hn : n ∈ itemNames
 ·simp only [itemNames, List.mem_cons, List.not_mem_nil, or_false] at hn
  rcases hn with rfl | rfl | rfl | rfl | rfl | rfl | rfl | rfl | rfl | rfl | rfl | rfl | rfl
  ·show (true && (lett t && a.isEmpty && ks.isEmpty && validI 2 t 0)) = (true && (a.isEmpty && Tr.symbol t && (lettsR t == true)) && decide (ks.length = 0))
   rw [validI_eq _ _ _ (by omega), ek];show (true && (lett t && a.isEmpty && decide (ks.length = 0) && (true && (Tr.symbol t && true)))) = _;cases hs : Tr.symbol t with
   | true => rw [letts_eq t hs]; cases lett t <;> cases a.isEmpty <;> simp
   | false => simp
  ·show (true && (!lett t && a.isEmpty && ks.isEmpty && validI 2 t 0)) = (true && (a.isEmpty && Tr.symbol t && (lettsR t == false)) && decide (ks.length = 0))
   rw [validI_eq _ _ _ (by omega), ek];show (true && (!lett t && a.isEmpty && decide (ks.length = 0) && (true && (Tr.symbol t && true)))) = _;cases hs : Tr.symbol t with
   | true => rw [letts_eq t hs]; cases lett t <;> cases a.isEmpty <;> simp
   | false => simp
  ·show (true && (true && a.isEmpty && ks.isEmpty && validI 3 t 0)) = (true && (a.isEmpty && validI 3 t 0) && decide (ks.length = 0))
   rw [ek]; cases a.isEmpty <;> cases validI 3 t 0 <;> simp
  ·show (true && (true && a.isEmpty && ks.isEmpty && validI 4 t 0)) = (true && (a.isEmpty && validI 4 t 0) && decide (ks.length = 0))
   rw [ek]; cases a.isEmpty <;> cases validI 4 t 0 <;> simp
  ·show (true && (t.isEmpty && decide (ks.length = 2) && true && decide (a.length = 0))) = (true && (a.isEmpty && t.isEmpty) && decide (ks.length = 2))
   rw [ea]; cases t.isEmpty <;> cases decide (a.length = 0) <;> simp
  ·show (true && (t.isEmpty && decide (ks.length = 1) && true && decide (a.length = 0))) = (true && (a.isEmpty && t.isEmpty) && decide (ks.length = 1))
   rw [ea]; cases t.isEmpty <;> cases decide (a.length = 0) <;> simp
  ·show (true && (t.isEmpty && decide (ks.length = 2) && true && decide (a.length = 0))) = (true && (a.isEmpty && t.isEmpty) && decide (ks.length = 2))
   rw [ea]; cases t.isEmpty <;> cases decide (a.length = 0) <;> simp
  ·show (true && (t.isEmpty && decide (ks.length = 2) && true && decide (a.length = 0))) = (true && (a.isEmpty && t.isEmpty) && decide (ks.length = 2))
   rw [ea]; cases t.isEmpty <;> cases decide (a.length = 0) <;> simp
  ·show (true && (t.isEmpty && decide (ks.length = 2) && true && decide (a.length = 0))) = (true && (a.isEmpty && t.isEmpty) && decide (ks.length = 2))
   rw [ea]; cases t.isEmpty <;> cases decide (a.length = 0) <;> simp
  ·show (true && (t.isEmpty && decide (ks.length = 3) && true && decide (a.length = 0))) = (true && (a.isEmpty && t.isEmpty) && decide (ks.length = 3))
   rw [ea]; cases t.isEmpty <;> cases decide (a.length = 0) <;> simp
  ·show (true && (t.isEmpty && decide (ks.length = 1) && validI 10 (attrV a nAccent) 1 && decide (a.length = 1))) = (true && (hasA a nAccent && decide (a.length = 1) && t.isEmpty && Tr.accents.contains (attrV a nAccent)) && decide (ks.length = 1))
   rw [validI_eq _ _ _ (by omega)];show (_ && (_ && (true && (Tr.accents.contains (attrV a nAccent) && true)) && _)) = _;cases hc : Tr.accents.contains (attrV a nAccent) with
   | true =>
    rw [hasA_of a nAccent (by intro h; rw [h] at hc; revert hc; decide)];cases t.isEmpty <;> cases decide (a.length = 1) <;> simp
   | false => simp
  ·show (true && (t.isEmpty && decide (ks.length = 1) && (decide ((attrV a nOpen).length = 1) && decide ((attrV a nClose).length = 1) && validI 11 (attrV a nOpen ++ attrV a nClose) 1) && decide (a.length = 2))) =
    (true && (hasA a nOpen && hasA a nClose && decide (a.length = 2) && t.isEmpty && decide ((attrV a nOpen).length = 1) && decide ((attrV a nClose).length = 1) && validI 11 (attrV a nOpen ++ attrV a nClose) 1) && decide (ks.length = 1))
   cases h1 : decide ((attrV a nOpen).length = 1) with
   | false => simp
   | true =>
    cases h2 : decide ((attrV a nClose).length = 1) with
    | false => simp
    | true =>
     rw [hasA_of a nOpen (by intro h; rw [h] at h1; revert h1; decide), hasA_of a nClose (by intro h; rw [h] at h2; revert h2; decide)];cases t.isEmpty <;> cases decide (a.length = 2) <;> cases validI 11 (attrV a nOpen ++ attrV a nClose) 1 <;> simp
  ·show (true && (t.isEmpty && decide (1 ≤ ks.length) && true && decide (a.length = 0))) = (true && (a.isEmpty && t.isEmpty) && decide (1 ≤ ks.length))
   rw [ea]; cases t.isEmpty <;> cases decide (a.length = 0) <;> simp
 ·simp only [itemNames, List.mem_cons, List.not_mem_nil, or_false, not_or] at hn
  obtain ⟨h1, h2, h3, h4, h5, h6, h7, h8, h9, h10, h11, h12, h13⟩ := hn;have hk : kindR n = 0 := by unfold kindR; simp only [h1, h2, h3, h4, h5, h6, h7, h8, h9, h10, h11, h12, h13, if_false]
  have hr : okItem (.mk n a ks t) = false := by
   unfold okItem;simp only [E.name, hk];rfl
  rw [hr];unfold admI ownF leafK slotsR;simp only [E.name, h1, h2, h3, h4, h5, h6, h7, h8, h9, h10, h11, h12, h13, if_false, ne_eq, not_true_eq_false]
  by_cases g1 : n = nMath
  ·simp [g1]
  ·by_cases g2 : n = nMrow
   ·simp [g2]
   ·by_cases g3 : n = nMtd
    ·simp [g3]
    ·by_cases g4 : n = nMtr
     ·simp [g4]
     ·simp [g1, g2, g3, g4]
theorem adm_row (p x : E) (h : p.name ∈ rowNames) : admF p x = admI x := by
 obtain ⟨n, a, ks, t⟩ := p;obtain ⟨m, b, ls, s⟩ := x;have h1 : n = nMath ∨ n = nMrow ∨ n = nMtd := by simpa [rowNames, E.name] using h
 show (if _ then _ else _) = _;rw [if_pos h1];rfl
theorem adm_rows (p x : E) (h : p.name ∈ itemNames) (h2 : p.name ≠ nMtable) : admF p x = decide (x.name = nMrow) := by
 obtain ⟨n, a, ks, t⟩ := p;obtain ⟨m, b, ls, s⟩ := x;have hadm : ∀ m ∈ itemNames, ¬ (m = nMath ∨ m = nMrow ∨ m = nMtd) ∧ m ≠ nMtr := by decide
 obtain ⟨h3, h4⟩ := hadm n h;show (if _ then _ else if _ then _ else if _ then _ else _) = _;rw [if_neg h3, if_neg (show ¬ n = nMtable from h2), if_neg h4];rfl
theorem adm_table (p x : E) (h : p.name = nMtable) (hk : p.kids ≠ []) : admF p x = (decide (x.name = nMtr) && decide (x.kids.length = colsN p.kids)) := by
 obtain ⟨n, a, ks, t⟩ := p;obtain ⟨m, b, ls, s⟩ := x;obtain rfl : n = nMtable := h
 match ks, hk with
 | [], hk => exact absurd rfl hk
 | .mk _ _ js _ :: _, _ => rfl
theorem adm_mtr (p x : E) (h : p.name = nMtr) : admF p x = decide (x.name = nMtd) := by
 obtain ⟨n, a, ks, t⟩ := p;obtain ⟨m, b, ls, s⟩ := x;obtain rfl : n = nMtr := h;rfl
theorem okItem_name (e : E) (h : okItem e = true) : e.name ∈ itemNames := by
 unfold okItem kindR at h;simp only [itemNames, List.mem_cons, List.not_mem_nil, or_false]
 by_cases hn : e.name = nMi ∨ e.name = nMo ∨ e.name = nMn ∨ e.name = nMtext ∨ e.name = nMfrac ∨ e.name = nMsqrt ∨ e.name = nMroot ∨ e.name = nMsub ∨ e.name = nMsup ∨ e.name = nMsubsup ∨ e.name = nMover ∨ e.name = nMfenced ∨ e.name = nMtable
 ·exact hn
 ·simp only [not_or] at hn
  obtain ⟨h1, h2, h3, h4, h5, h6, h7, h8, h9, h10, h11, h12, h13⟩ := hn;simp only [h1, h2, h3, h4, h5, h6, h7, h8, h9, h10, h11, h12, h13, if_false] at h;simp at h
theorem rowsN_len (l : List E) : (rowsN l).length = l.length := by rw [rowsN_map, List.length_map]
theorem end_rows (e : E) (ho : okItem e = true) (h : e.name ≠ nMtable) (cs : List Nd) (c : Nat) : endItem e (rowsN e.kids) (-1) = mkN e.name e.attrs e.text (rowsN e.kids) cs c := by
 have hn := okItem_name e ho
 have hs : slotsK e.name e.kids.length (kindR e.name) = true := by
  unfold okItem at ho;simp only [Bool.and_eq_true] at ho;exact ho.2
 have hl := rowsN_len e.kids;obtain ⟨n, a, ks, t⟩ := e;simp only [E.name, E.attrs, E.text, E.kids] at *;generalize rowsN ks = rs at *;rw [← hl] at hs;simp only [itemNames, List.mem_cons, List.not_mem_nil, or_false] at hn
 rcases hn with rfl | rfl | rfl | rfl | rfl | rfl | rfl | rfl | rfl | rfl | rfl | rfl | rfl
 ·have : rs = [] := List.length_eq_zero_iff.1 (of_decide_eq_true hs)
  subst this; rfl
 ·have : rs = [] := List.length_eq_zero_iff.1 (of_decide_eq_true hs)
  subst this; rfl
 ·have : rs = [] := List.length_eq_zero_iff.1 (of_decide_eq_true hs)
  subst this; rfl
 ·have : rs = [] := List.length_eq_zero_iff.1 (of_decide_eq_true hs)
  subst this; rfl
 ·rfl
 ·have h1 : rs.length = 1 := of_decide_eq_true hs
  match rs, h1 with
  | [x], _ => rfl
 ·have h1 : rs.length = 2 := of_decide_eq_true hs
  match rs, h1 with
  | [x, y], _ => rfl
 ·rfl
 ·rfl
 ·rfl
 ·have h1 : rs.length = 1 := of_decide_eq_true hs
  match rs, h1 with
  | [x], _ => rfl
 ·have h1 : rs.length = 1 := of_decide_eq_true hs
  match rs, h1 with
  | [x], _ => rfl
 ·exact absurd rfl h
theorem rItem_eq (e : E) (s : Rd) : rItem e s = (let r := if kindR e.name = 12 then rLines (colsN e.kids) e.kids (ent (okItem e) s) else rRows nMrow e.kids (ent (okItem e) s); (endItem e r.1 r.2.2, r.2)) := by
 cases e; rw [rItem]; rfl
theorem kind_12 : ∀ n ∈ itemNames, n ≠ nMtable → ¬ kindR n = 12 := by decide
theorem both_law : ∀ (m : Nat) (e : E), count e ≤ m → (∀ nm ∈ rowNames, ∀ k, Res (vis (decide (e.name = nm)) k e) (rRow nm e (k, -1)) (rowN e)) ∧ ∀ k, Res (vis (admI e) k e) (rItem e (k, -1)) (itemN e) := by
 intro m
 induction m with
 | zero => intro e h; have := count_pos e; omega
 | succ m ih =>
  intro e hm
  have hk : ∀ x ∈ e.kids, count x ≤ m := by
   intro x hx;have := count_mem hx;rw [count_kids] at hm;omega
  refine ⟨fun nm hn k => ?_, fun k => ?_⟩
  ·by_cases h : e.name = nm
   ·exact row_law nm hn e (fun x hx k => by rw [adm_row e x (by rw [h]; exact hn)]; exact (ih x (hk x hx)).2 k) k
   ·have h1 : okRow nm e = false := by unfold okRow; simp [h]
    rw [vis_eq, row_own nm hn, h1, if_neg (by decide)];obtain ⟨n, a, ks, t⟩ := e;rw [rRow, h1];have hs := rItems_stop ks _ (ent_stop k);rw [ent_no] at hs;simp only [ent_no, hs];exact ⟨fun h => (by cases h), fun _ => by show (k : Int) = ((k + 1 : Nat) : Int) - 1; omega⟩
  ·rw [vis_eq, item_own, rItem_eq, itemN_eq]
   cases hb : okItem e with
   | false =>
    rw [if_neg (by decide), rRows_stop _ _ _ (ent_stop k), rLines_stop _ _ _ (ent_stop k), ite_self, ent_no];exact ⟨fun h => (by cases h), fun _ => by show (k : Int) = ((k + 1 : Nat) : Int) - 1; omega⟩
   | true =>
    have hn := okItem_name e hb;rw [if_pos rfl, ent_ok]
    by_cases h12 : e.name = nMtable
    ·have hk0 : e.kids ≠ [] := by
      unfold okItem at hb;rw [h12] at hb;simp only [Bool.and_eq_true] at hb;have h1 : 1 ≤ e.kids.length := of_decide_eq_true hb.2;intro h; rw [h] at h1; cases h1
     rw [if_pos (by rw [h12]; rfl)]
     have := cells_law (colsN e.kids) e e.kids (fun x hx k => by
      rw [adm_table e x h12 hk0];refine line_law (colsN e.kids) x (fun hx2 y hy k => ?_) k;rw [adm_mtr x y hx2];exact (ih y (by have := count_mem hy; have := count_kids x; have := hk x hx; omega)).1 nMtd (by decide) k) (k + 1)
     refine ⟨fun h1 => ?_, fun h1 => ?_⟩
     ·rw [this.1 h1]
      obtain ⟨n, a, ks, t⟩ := e;obtain rfl : n = nMtable := h12;rfl
     ·exact this.2 h1
    ·rw [if_neg (kind_12 e.name hn h12)]
     have := rows_law nMrow e e.kids (fun x hx k => by rw [adm_rows e x hn h12]; exact (ih x (hk x hx)).1 nMrow (by decide) k) (k + 1);refine ⟨fun h1 => ?_, fun h1 => ?_⟩
     ·rw [this.1 h1]
      show (endItem e (rowsN e.kids) (-1), _) = _;rw [end_rows e hb h12]
     ·exact this.2 h1
theorem node_eq (e : E) : refNodeF e = nodeF e := by
 have h := (both_law _ e (Nat.le_refl _)).1 nMath (by decide) 0;have hlt := vis_lt e (decide (e.name = nMath)) 0;unfold refNodeF nodeF faultF;cases hv : (vis (decide (e.name = nMath)) 0 e).1 with
 | true =>
  have h1 := h.1 hv;rw [h1];rfl
 | false =>
  have h1 := h.2 hv;rw [h1, if_pos (show (0 : Int) ≤ ((vis (decide (e.name = nMath)) 0 e).2 : Int) - 1 by omega)];rfl
end Go.Proofs.YtfnjcldgicohaaaGreat.El
namespace Go.Proofs.YtfnjcldgicohaaaGreat
open Go.RowKit Go.Maps
theorem strKeys : Keyed Tryz.prog 9 := string_keyed Tryz.underlying9
section
variable {H : Type}
def rkL : List (List UInt8 × Int) := [(El.nMfrac, 5), (El.nMsub, 7), (El.nMsup, 8), (El.nMsubsup, 9)]
def rkD : DataW H := rkL.foldl (fun D x => D.put (.string x.1) (.lit (.int .i64 x.2))) (.map [])
theorem rkD_is : (rkD : DataW H) = .map [(.string El.nMfrac, .lit (.int .i64 5)), (.string El.nMsub, .lit (.int .i64 7)), (.string El.nMsubsup, .lit (.int .i64 9)), (.string El.nMsup, .lit (.int .i64 8))] := by rfl
theorem rkD_at (x : List UInt8) (zd : DataW H) : (rkD : DataW H).atKey (.string x) zd = match rkL.find? (·.1 == x) with | some y => .lit (.int .i64 y.2) | none => zd := by
 rw [rkD_is]
 by_cases h1 : El.nMfrac = x
 ·subst h1; rfl
 by_cases h2 : El.nMsub = x
 ·subst h2; rfl
 by_cases h3 : El.nMsup = x
 ·subst h3; rfl
 by_cases h4 : El.nMsubsup = x
 ·subst h4; rfl
 have b1 : (El.nMfrac == x) = false := beq_eq_false_iff_ne.2 h1;have b2 : (El.nMsub == x) = false := beq_eq_false_iff_ne.2 h2;have b3 : (El.nMsup == x) = false := beq_eq_false_iff_ne.2 h3;have b4 : (El.nMsubsup == x) = false := beq_eq_false_iff_ne.2 h4;simp only [DataW.atKey, Lit.sameKey, rkL, List.find?_cons, List.find?_nil, b1, b2, b3, b4]
theorem rkD_entry (x : List UInt8) (c : Int) (h : ∀ zd, (rkD : DataW H).atKey (.string x) zd = .lit (.int .i64 c)) : rkL.find? (·.1 == x) = some (x, c) := by
 have h1 := h (.lit (.int .i64 (c + 1)));rw [rkD_at] at h1;cases hf : rkL.find? (·.1 == x) with
 | none =>
  rw [hf] at h1;simp only [DataW.lit.injEq, Lit.int.injEq, true_and] at h1;omega
 | some y =>
  rw [hf] at h1;simp only [DataW.lit.injEq, Lit.int.injEq, true_and] at h1;have h2 := List.find?_some hf;simp only [beq_iff_eq] at h2;subst h1 h2;rfl
end
section
variable {w : World}
theorem keyOf_strs (x : List UInt8) (h : x.length ≤ maxLen) : keyOf Tryz.prog 9 (.string ⟨x.toArray⟩) = some (.string x) := by
 have hs : (⟨x.toArray⟩ : ByteArray).size ≤ maxLen := by show x.toArray.size ≤ _; simpa using h
 simp [keyOf, Tryz.underlying9, mapKey, hs]
theorem rowKinds_any (H : Type) (w : World) : Calls Tryz.prog 46 #[] w fun e w' => e = .returned (.map (some w.heap.size)) ∧ w'.ownsMap (H := H) Tryz.prog 9 (plainElem Tryz.prog 3) w.heap.size 4 rkD ∧ Fresh w w' := by
 have hmm : ∀ W : World, (Instr.makeMap 84 none).run Tryz.prog W = .ok (.map (some W.heap.size)) (W.alloc (.map #[] 0)) := fun W => run_makeMap_plain W 84
 have hw : ∀ n : Int, (Lit.int .i64 n).wf = true → plainElem (H := H) Tryz.prog 3 (.int .i64 n) = some (.lit (.int .i64 n), []) := fun n h => plainElem_int Tryz.underlying3 h
 obtain ⟨w1, r1, o1, g1⟩ := (World.ownsMap_made (H := H) w Tryz.prog 9 (plainElem Tryz.prog 3)).update strKeys Tryz.underlying84 (by decide) (keyOf_strs El.nMfrac (by decide)) (hw 5 (by decide));obtain ⟨w2, r2, o2, g2⟩ := o1.update strKeys Tryz.underlying84 (by decide) (keyOf_strs El.nMsub (by decide)) (hw 7 (by decide));obtain ⟨w3, r3, o3, g3⟩ := o2.update strKeys Tryz.underlying84 (by decide) (keyOf_strs El.nMsup (by decide)) (hw 8 (by decide));obtain ⟨w4, r4, o4, g4⟩ := o3.update strKeys Tryz.underlying84 (by decide) (keyOf_strs El.nMsubsup (by decide)) (hw 9 (by decide));have hf : Fresh w w4 := (((((Touch.refl _ w).alloc (.map #[] 0)).grown g1 (fun k hk => .inr (by cases hk; exact Nat.le_refl _))).grown g2 (fun k hk => .inr (by cases hk; exact Nat.le_refl _))).grown g3 (fun k hk => .inr (by cases hk; exact Nat.le_refl _))).grown g4 (fun k hk => .inr (by cases hk; exact Nat.le_refl _));have HF := hid hf;have HO := hid o4;simp only [El.nMfrac, El.nMsub, El.nMsup, El.nMsubsup] at r1 r2 r3 r4;clear o1 o2 o3 o4 g1 g2 g3 g4 hf hw;go_enter Tryz.func46, Tryz.ntmps46;go_wp2_with fail
 go_ret;exact ⟨rfl, HO.out, HF.out⟩
end
end Go.Proofs.YtfnjcldgicohaaaGreat
