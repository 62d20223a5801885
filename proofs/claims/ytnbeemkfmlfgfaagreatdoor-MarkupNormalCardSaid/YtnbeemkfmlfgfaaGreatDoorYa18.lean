/- Part 18 of 35 of a proof; its texts, joined: XqA, XmP. No condition. -/
import Derived.Test.YtnbeemkfmlfgfaaGreatDoorYa17
import Derived.Test.YtnbeemkfmlfgfaaGreatDoorYa12
set_option maxRecDepth 100000
namespace Go.Proofs.YtnbeemkfmlfgfaaGreatDoor.Xp
open El (E Attrs Bytes letter inner printable)
structure Loc {α : Type} (r : Bytes → Rs α) : Prop where
 sfx : ∀ l, Sfx (r l).left l
 ok : ∀ (q : Bytes) (b : UInt8) (l : Bytes) (x : α) (c : Nat), r (q ++ b :: l) = .ok x (b :: l) c → (∀ o, r (q ++ b :: o) = .ok x (b :: o) c) ∧ (r q = .ok x [] c ∨ r q = .bad [])
 bad : ∀ (q : Bytes) (b : UInt8) (l : Bytes), r (q ++ b :: l) = .bad (b :: l) → (∀ o, r (q ++ b :: o) = .bad (b :: o)) ∧ r q = .bad []
def bindR {α β : Type} (r : Bytes → Rs α) (f : α → Nat → Bytes → Rs β) (l : Bytes) : Rs β := match r l with
 | .bad l1 => .bad l1
 | .ok x l1 c => f x c l1
theorem bindR_bad {α β : Type} {r : Bytes → Rs α} {f : α → Nat → Bytes → Rs β} {l l1 : Bytes} (h : r l = .bad l1) : bindR r f l = .bad l1 := by unfold bindR; rw [h]
theorem bindR_ok {α β : Type} {r : Bytes → Rs α} {f : α → Nat → Bytes → Rs β} {l l1 : Bytes} {x : α} {c : Nat} (h : r l = .ok x l1 c) : bindR r f l = f x c l1 := by unfold bindR; rw [h]
def peekR {α : Type} (f : UInt8 → Bytes → Rs α) : Bytes → Rs α
 | [] => .bad []
 | b :: l => f b (b :: l)
theorem Loc.mid {α : Type} {r : Bytes → Rs α} (h : Loc r) {p m l : Bytes} {b : UInt8} {y : α} {c : Nat} (h1 : r (p ++ (m ++ b :: l)) = .ok y (m ++ b :: l) c) :
  (∀ o, r (p ++ (m ++ b :: o)) = .ok y (m ++ b :: o) c) ∧ (r (p ++ m) = .ok y m c ∨ (m = [] ∧ r (p ++ m) = .bad [])) := by
 cases m with
 | nil =>
  obtain ⟨h2, h3⟩ := h.ok p b l y c h1;refine ⟨h2, ?_⟩;rw [List.append_nil]
  rcases h3 with h3 | h3
  ·exact .inl h3
  ·exact .inr ⟨rfl, h3⟩
 | cons b' m' =>
  obtain ⟨h2, _⟩ := h.ok p b' (m' ++ b :: l) y c h1;exact ⟨fun o => h2 (m' ++ b :: o), .inl (h2 m')⟩
theorem Loc.bind {α β : Type} {r : Bytes → Rs α} {f : α → Nat → Bytes → Rs β} (hr : Loc r) (hf : ∀ x c, Loc (f x c)) : Loc (bindR r f) := by
 have hsfx : ∀ l, Sfx (bindR r f l).left l := by
  intro l;have h1 := hr.sfx l;cases h : r l with
  | bad l1 => rw [bindR_bad h]; rw [h] at h1; exact h1
  | ok x l1 c => rw [bindR_ok h]; rw [h] at h1; exact ((hf x c).sfx l1).trans h1
 have key : ∀ (q : Bytes) (b : UInt8) (l : Bytes) (y : α) (l1 : Bytes) (c1 : Nat), r (q ++ b :: l) = .ok y l1 c1 → (f y c1 l1).left = b :: l →
   ∃ m, l1 = m ++ b :: l ∧ (∀ o, r (q ++ b :: o) = .ok y (m ++ b :: o) c1) ∧ (r q = .ok y m c1 ∨ (m = [] ∧ r q = .bad [])) := by
  intro q b l y l1 c1 h1 h2;obtain ⟨p, hp⟩ := hr.sfx (q ++ b :: l);obtain ⟨m, hm⟩ := (hf y c1).sfx l1;rw [h1] at hp;rw [h2] at hm;have hp : q ++ b :: l = p ++ l1 := hp;subst hm;rw [← List.append_assoc] at hp;have hq := List.append_cancel_right hp;subst hq;rw [List.append_assoc] at h1;obtain ⟨h3, h4⟩ := hr.mid h1;exact ⟨m, rfl, (fun o => by rw [List.append_assoc]; exact h3 o), h4⟩
 refine ⟨hsfx, fun q b l x c h => ?_, fun q b l h => ?_⟩
 ·cases h1 : r (q ++ b :: l) with
  | bad l1 => rw [bindR_bad h1] at h; cases h
  | ok y l1 c1 =>
   rw [bindR_ok h1] at h;obtain ⟨m, rfl, h3, h4⟩ := key q b l y l1 c1 h1 (by rw [h]; rfl);obtain ⟨h5, h6⟩ := (hf y c1).ok m b l x c h;refine ⟨fun o => by rw [bindR_ok (h3 o)]; exact h5 o, ?_⟩
   rcases h4 with h4 | ⟨_, h4⟩
   ·rw [bindR_ok h4]; exact h6
   ·rw [bindR_bad h4]; exact .inr rfl
 ·cases h1 : r (q ++ b :: l) with
  | bad l1 =>
   rw [bindR_bad h1] at h;have h : l1 = b :: l := by injection h
   subst h;obtain ⟨h5, h6⟩ := hr.bad q b l h1;exact ⟨fun o => bindR_bad (h5 o), bindR_bad h6⟩
  | ok y l1 c1 =>
   rw [bindR_ok h1] at h;obtain ⟨m, rfl, h3, h4⟩ := key q b l y l1 c1 h1 (by rw [h]; rfl);obtain ⟨h5, h6⟩ := (hf y c1).bad m b l h;refine ⟨fun o => by rw [bindR_ok (h3 o)]; exact h5 o, ?_⟩
   rcases h4 with h4 | ⟨_, h4⟩
   ·rw [bindR_ok h4]; exact h6
   ·exact bindR_bad h4
theorem app_self {q l : Bytes} (h : q ++ l = l) : q = [] := by
 have := congrArg List.length h;rw [List.length_append] at this;exact List.length_eq_zero_iff.1 (by omega)
theorem Loc.stop {α : Type} : Loc (fun l => (Rs.bad l : Rs α)) := by
 refine ⟨fun l => Sfx.refl l, (fun q b l x c h => by cases h), fun q b l h => ?_⟩;have h : q ++ b :: l = b :: l := by injection h
 have := app_self h;subst this;exact ⟨fun o => rfl, rfl⟩
theorem Loc.pure {α : Type} (x : α) (c : Nat) : Loc (fun l => Rs.ok x l c) := by
 refine ⟨fun l => Sfx.refl l, fun q b l y c' h => ?_, (fun q b l h => by cases h)⟩;injection h with e1 e2 e3
 have := app_self e2;subst this e1 e3;exact ⟨fun o => rfl, .inl rfl⟩
theorem Loc.take {α : Type} (x : α) (c : Nat) : Loc (fun l => Rs.ok x (l.drop 1) c) := by
 refine ⟨fun l => Sfx.drop 1 l, fun q b l y c' h => ?_, (fun q b l h => by cases h)⟩;injection h with e1 e2 e3
 subst e1 e3;cases q with
 | nil =>
  have := congrArg List.length e2;simp only [List.nil_append, List.drop_succ_cons, List.drop_zero, List.length_cons] at this;omega
 | cons a q =>
  have := app_self (show q ++ b :: l = b :: l from e2);subst this;exact ⟨fun o => rfl, .inl rfl⟩
theorem span_all {p : UInt8 → Bool} : ∀ (q : Bytes) (b : UInt8) (l : Bytes), (q ++ b :: l).dropWhile p = b :: l → q.all p = true ∧ p b = false
 | [], b, l, h => by
  refine ⟨rfl, ?_⟩;cases hb : p b with
  | false => rfl
  | true =>
   rw [List.nil_append, List.dropWhile_cons, if_pos hb] at h;have := (Sfx.dropWhile p l).len;rw [h, List.length_cons] at this;omega
 | a :: q, b, l, h => by
  rw [List.cons_append, List.dropWhile_cons] at h;cases ha : p a with
  | false =>
   rw [if_neg (by rw [ha]; decide)] at h;have := congrArg List.length h;rw [List.length_cons, List.length_append, List.length_cons] at this;omega
  | true =>
   rw [if_pos ha] at h;obtain ⟨h1, h2⟩ := span_all q b l h;exact ⟨by rw [List.all_cons, ha, h1]; rfl, h2⟩
theorem take_all {p : UInt8 → Bool} : ∀ (q l : Bytes), q.all p = true → (q ++ l).takeWhile p = q ++ l.takeWhile p ∧ (q ++ l).dropWhile p = l.dropWhile p
 | [], _, _ => ⟨rfl, rfl⟩
 | a :: q, l, h => by
  rw [List.all_cons, Bool.and_eq_true] at h;obtain ⟨h1, h2⟩ := take_all q l h.2;rw [List.cons_append, List.takeWhile_cons, List.dropWhile_cons, if_pos h.1, if_pos h.1, h1, h2];exact ⟨rfl, rfl⟩
theorem take_stop {p : UInt8 → Bool} {b : UInt8} (l : Bytes) (h : p b = false) : (b :: l).takeWhile p = [] ∧ (b :: l).dropWhile p = b :: l := by
 rw [List.takeWhile_cons, List.dropWhile_cons, h];exact ⟨rfl, rfl⟩
theorem Loc.span {α : Type} (p : UInt8 → Bool) (f : Bytes → α) (c : Nat) : Loc (fun l => Rs.ok (f (l.takeWhile p)) (l.dropWhile p) c) := by
 refine ⟨fun l => Sfx.dropWhile p l, fun q b l y c' h => ?_, (fun q b l h => by cases h)⟩;injection h with e1 e2 e3
 obtain ⟨h1, h2⟩ := span_all q b l e2
 have h3 : ∀ o, (q ++ b :: o).takeWhile p = q ∧ (q ++ b :: o).dropWhile p = b :: o := fun o => by
  obtain ⟨h4, h5⟩ := take_all q (b :: o) h1;obtain ⟨h6, h7⟩ := take_stop o h2;rw [h4, h5, h6, h7, List.append_nil];exact ⟨rfl, rfl⟩
 rw [(h3 l).1] at e1;subst e1 e3;refine ⟨fun o => by rw [(h3 o).1, (h3 o).2], .inl ?_⟩;obtain ⟨h4, h5⟩ := take_all q [] h1;rw [List.append_nil] at h4 h5;rw [h4, h5, List.takeWhile_nil, List.dropWhile_nil, List.append_nil]
theorem Loc.peek {α : Type} {f : UInt8 → Bytes → Rs α} (h : ∀ b, Loc (f b)) : Loc (peekR f) := by
 refine ⟨fun l => ?_, fun q b l x c h1 => ?_, fun q b l h1 => ?_⟩
 ·cases l with
  | nil => exact Sfx.refl _
  | cons b l => exact (h b).sfx _
 ·cases q with
  | nil => exact ⟨((h b).ok [] b l x c h1).1, .inr rfl⟩
  | cons a q => exact (h a).ok (a :: q) b l x c h1
 ·cases q with
  | nil => exact ⟨((h b).bad [] b l h1).1, rfl⟩
  | cons a q => exact (h a).bad (a :: q) b l h1
theorem Loc.ite {α : Type} {P : Prop} [Decidable P] {r1 r2 : Bytes → Rs α} (h1 : Loc r1) (h2 : Loc r2) : Loc (if P then r1 else r2) := by
 split
 ·exact h1
 ·exact h2
theorem Loc.fuel {α : Type} {r : Nat → Bytes → Rs α} {rA : Bytes → Rs α} (h : ∀ f, Loc (r f)) (hf : ∀ l f, l.length < f → r f l = rA l) : Loc rA := by
 refine ⟨fun l => ?_, fun q b l x c h1 => ?_, fun q b l h1 => ?_⟩
 ·rw [← hf l (l.length + 1) (by omega)]; exact (h _).sfx l
 ·rw [← hf _ ((q ++ b :: l).length + 1) (by omega)] at h1
  constructor
  ·intro o
   have hl := hf (q ++ b :: l) ((q ++ b :: l).length + 1) (by omega);rw [h1] at hl;have h2 := hf (q ++ b :: l) ((q ++ b :: l).length + (q ++ b :: o).length + 1) (by omega);rw [← hl] at h2;rw [← hf _ ((q ++ b :: l).length + (q ++ b :: o).length + 1) (by omega)];exact ((h _).ok q b l x c h2).1 o
  ·rw [← hf q ((q ++ b :: l).length + 1) (by rw [List.length_append]; omega)]
   exact ((h _).ok q b l x c h1).2
 ·rw [← hf _ ((q ++ b :: l).length + 1) (by omega)] at h1
  constructor
  ·intro o
   have hl := hf (q ++ b :: l) ((q ++ b :: l).length + 1) (by omega);rw [h1] at hl;have h2 := hf (q ++ b :: l) ((q ++ b :: l).length + (q ++ b :: o).length + 1) (by omega);rw [← hl] at h2;rw [← hf _ ((q ++ b :: l).length + (q ++ b :: o).length + 1) (by omega)];exact ((h _).bad q b l h2).1 o
  ·rw [← hf q ((q ++ b :: l).length + 1) (by rw [List.length_append]; omega)]
   exact ((h _).bad q b l h1).2
theorem Loc.of_eq {α : Type} {r r' : Bytes → Rs α} (h : Loc r) (e : ∀ l, r' l = r l) : Loc r' := by
 have : r' = r := funext e;rw [this]; exact h
theorem loc_expect (b : UInt8) (c : Nat) : Loc (expectR b c) := by
 refine (Loc.peek (f := fun x => if x = b then (fun l => Rs.ok () (l.drop 1) c) else (fun l => Rs.bad l)) fun x => Loc.ite (Loc.take () c) Loc.stop).of_eq fun l => ?_
 cases l with
 | nil => rfl
 | cons x l =>
  show (if x = b then _ else _) = (if x = b then _ else _ : Bytes → Rs Unit) (x :: l);split <;> rfl
theorem loc_name (c : Nat) : Loc (nameR c) := by
 refine (Loc.peek (f := fun x => if letter x = true then (fun l => Rs.ok (l.takeWhile inner) (l.dropWhile inner) c) else (fun l => Rs.bad l)) fun x => Loc.ite (Loc.span inner (fun ws => ws) c) Loc.stop).of_eq fun l => ?_
 cases l with
 | nil => rfl
 | cons x l =>
  show (if letter x = true then _ else _) = (if letter x = true then _ else _ : Bytes → Rs Bytes) (x :: l);split <;> rfl
theorem replR_none {c : Nat} {p l : Bytes} {b : UInt8} (h1 : repls.find? (fun x => x.1 == p ++ [b]) = none) (h2 : repls.any (fun x => pre (p ++ [b]) x.1) = false) : replR c p (b :: l) = .bad (b :: l) := by
 rw [replR, h1, h2]; rfl
theorem replR_some {c : Nat} {p l : Bytes} {b : UInt8} {x : Bytes × UInt8} (h1 : repls.find? (fun x => x.1 == p ++ [b]) = some x) : replR c p (b :: l) = .ok x.2 l c := by
 rw [replR, h1]
theorem replR_more {c : Nat} {p l : Bytes} {b : UInt8} (h1 : repls.find? (fun x => x.1 == p ++ [b]) = none) (h2 : repls.any (fun x => pre (p ++ [b]) x.1) = true) : replR c p (b :: l) = replR c (p ++ [b]) l := by
 rw [replR, h1, h2]; rfl
theorem replR_nil (c : Nat) (p : Bytes) : replR c p [] = .bad [] := by rw [replR]
theorem loc_repl_at (c : Nat) : ∀ (q p : Bytes) (b : UInt8) (l : Bytes), (∀ x c', replR c p (q ++ b :: l) = .ok x (b :: l) c' → (∀ o, replR c p (q ++ b :: o) = .ok x (b :: o) c') ∧ (replR c p q = .ok x [] c' ∨ replR c p q = .bad [])) ∧
  (replR c p (q ++ b :: l) = .bad (b :: l) → (∀ o, replR c p (q ++ b :: o) = .bad (b :: o)) ∧ replR c p q = .bad [])
 | [], p, b, l => by
  have hlt : ∀ r : Rs UInt8, Sfx r.left l → r.left ≠ b :: l := fun r h e => by
   have := h.len;rw [e, List.length_cons] at this;omega
  rw [List.nil_append];cases h1 : repls.find? (fun x => x.1 == p ++ [b]) with
  | some y =>
   rw [replR_some h1];exact ⟨fun x c' h => absurd (congrArg Rs.left h) (hlt _ (Sfx.refl l)), (fun h => by cases h)⟩
  | none =>
   cases h2 : repls.any (fun x => pre (p ++ [b]) x.1) with
   | true =>
    rw [replR_more h1 h2];exact ⟨fun x c' h => absurd (congrArg Rs.left h) (hlt _ (replR_left c l _)), fun h => absurd (congrArg Rs.left h) (hlt _ (replR_left c l _))⟩
   | false =>
    exact ⟨(fun x c' h => by rw [replR_none h1 h2] at h; cases h), fun _ => ⟨fun o => replR_none h1 h2, replR_nil c p⟩⟩
 | a :: q, p, b, l => by
  rw [List.cons_append];cases h1 : repls.find? (fun x => x.1 == p ++ [a]) with
  | some y =>
   rw [replR_some h1];refine ⟨fun x c' h => ?_, (fun h => by cases h)⟩;injection h with e1 e2 e3
   have := app_self e2;subst this e1 e3;exact ⟨fun o => replR_some h1, .inl (replR_some h1)⟩
  | none =>
   cases h2 : repls.any (fun x => pre (p ++ [a]) x.1) with
   | true =>
    obtain ⟨i1, i2⟩ := loc_repl_at c q (p ++ [a]) b l;simp only [List.cons_append, replR_more h1 h2];exact ⟨i1, i2⟩
   | false =>
    rw [replR_none h1 h2];refine ⟨(fun x c' h => by cases h), fun h => ?_⟩;have h : a :: (q ++ b :: l) = b :: l := by injection h
    have := app_self (show (a :: q) ++ b :: l = b :: l from h);cases this
theorem loc_repl (c : Nat) (p : Bytes) : Loc (replR c p) := ⟨fun l => replR_left c l p, fun q b l x c' => (loc_repl_at c q p b l).1 x c', fun q b l => (loc_repl_at c q p b l).2⟩
theorem loc_char (n c : Nat) : Loc (charR n c) := by
 refine (Loc.peek (f := fun b => if 200 ≤ n ∨ b = 60 ∨ printable b = false then (fun l => Rs.bad l) else if b = 38 then replR c [] else (fun l => Rs.ok b (l.drop 1) c)) fun x => Loc.ite Loc.stop (Loc.ite (loc_repl c []) (Loc.take x c))).of_eq fun l => ?_
 cases l with
 | nil => rfl
 | cons b l =>
  show (if 200 ≤ n ∨ b = 60 ∨ printable b = false then _ else if b = 38 then _ else _) = (if 200 ≤ n ∨ b = 60 ∨ printable b = false then _ else if b = 38 then _ else _ : Bytes → Rs UInt8) (b :: l);split
  ·rfl
  ·split <;> rfl
theorem loc_textF (q : UInt8) (c : Nat) : ∀ (f : Nat) (acc : Bytes), Loc (textR q c f acc)
 | 0, acc => Loc.stop.of_eq fun l => by rw [textR]
 | f + 1, acc => by
  refine (Loc.peek (f := fun b => if b = q then (fun l => Rs.ok acc l c) else bindR (charR acc.length c) (fun x _ => textR q c f (acc ++ [x]))) fun x => Loc.ite (Loc.pure acc c) (Loc.bind (loc_char _ _) fun x _ => loc_textF q c f (acc ++ [x]))).of_eq fun l => ?_
  cases l with
  | nil => rw [textR]; rfl
  | cons b l =>
   rw [textR];show (if b = q then _ else _) = (if b = q then _ else _ : Bytes → Rs Bytes) (b :: l);split
   ·rfl
   ·cases h : charR acc.length c (b :: l) with
    | bad l2 => rw [bindR_bad h]
    | ok x l2 c2 => rw [bindR_ok h]
theorem loc_text (q : UInt8) (c : Nat) (acc : Bytes) : Loc (textA q c acc) := Loc.fuel (r := fun f => textR q c f acc) (fun f => loc_textF q c f acc) fun l f h => textR_fuel q c f acc l h
theorem loc_attr (ats : Attrs) (c : Nat) : Loc (attrR ats c) := by
 refine (Loc.bind (loc_name c) (f := fun nm _ => peekR (fun b => if b ≠ 61 ∨ ats.any (fun x => x.1 == nm) = true then (fun l => Rs.bad l) else
   bindR (fun l => Rs.ok () (l.drop 1) c) (fun _ _ => bindR (expectR 34 c) (fun _ _ => bindR (textA 34 c []) (fun v _ l => Rs.ok (nm, v) (l.drop 1) c))))) fun nm _ => Loc.peek fun b => Loc.ite Loc.stop
   (Loc.bind (Loc.take () c) fun _ _ => Loc.bind (loc_expect 34 c) fun _ _ => Loc.bind (loc_text 34 c []) fun v _ => Loc.take (nm, v) c)).of_eq fun l => ?_
 cases h : nameR c l with
 | bad l1 => rw [bindR_bad h, attrR_bad h]
 | ok nm l1 c1 =>
  rw [bindR_ok h, attrR_ok h];cases l1 with
  | nil => rfl
  | cons b l2 =>
   show (if b ≠ 61 ∨ ats.any (fun x => x.1 == nm) = true then _ else _) = (if b ≠ 61 ∨ ats.any (fun x => x.1 == nm) = true then _ else _ : Bytes → Rs (Bytes × Bytes)) (b :: l2);split
   ·rfl
   ·show attrK2 nm c (expectR 34 c l2) = bindR (expectR 34 c) _ l2
    cases he : expectR 34 c l2 with
    | bad l3 => rw [bindR_bad he]; rfl
    | ok u l3 c3 =>
     rw [bindR_ok he];show attrK3 nm c (textA 34 c [] l3) = _;cases ht : textA 34 c [] l3 with
     | bad l4 => rw [bindR_bad ht]; rfl
     | ok v l4 c4 => rw [bindR_ok ht]; rfl
theorem drop_lt {l l2 : Bytes} {b : UInt8} (h : l.dropWhile white = b :: l2) : ((b :: l2).length < l.length) = ((l.takeWhile white) ≠ []) := by
 have h1 : (l.takeWhile white ++ l.dropWhile white).length = l.length := by rw [List.takeWhile_append_dropWhile]
 rw [h, List.length_append] at h1;apply propext
 constructor
 ·intro h2 h3
  rw [h3, List.length_nil] at h1;omega
 ·intro h2
  have : (l.takeWhile white).length ≠ 0 := fun h => h2 (List.length_eq_zero_iff.1 h)
  omega
theorem loc_attrs (c : Nat) : ∀ (f : Nat) (ats : Attrs), Loc (attrsR c f ats)
 | 0, ats => Loc.stop.of_eq fun l => by rw [attrsR]
 | f + 1, ats => by
  refine (Loc.bind (Loc.span white (fun ws => ws) c) (f := fun ws _ => peekR (fun b => if b = 47 then bindR (fun l => Rs.ok () (l.drop 1) c) (fun _ _ => bindR (expectR 62 c) (fun _ _ l => Rs.ok (ats, true) l c))
    else if b = 62 then (fun l => Rs.ok (ats, false) (l.drop 1) c) else if ws ≠ [] ∧ letter b = true ∧ ats.length < 8 then bindR (attrR ats c) (fun a _ => attrsR c f (ats ++ [a])) else (fun l => Rs.bad l))) fun ws _ => Loc.peek fun b => Loc.ite
    (Loc.bind (Loc.take () c) fun _ _ => Loc.bind (loc_expect 62 c) fun _ _ => Loc.pure (ats, true) c) (Loc.ite (Loc.take (ats, false) c) (Loc.ite (Loc.bind (loc_attr ats c) fun a _ => loc_attrs c f (ats ++ [a])) Loc.stop))).of_eq fun l => ?_
  rw [attrsR];show _ = peekR _ (l.dropWhile white);cases hd : l.dropWhile white with
  | nil => rfl
  | cons b l2 =>
   show (if b = 47 then _ else if b = 62 then _ else if (b :: l2).length < l.length ∧ letter b = true ∧ ats.length < 8 then _ else _) = (if b = 47 then _ else if b = 62 then _ else if l.takeWhile white ≠ [] ∧ letter b = true ∧ ats.length < 8 then _ else _ : Bytes → Rs (Attrs × Bool)) (b :: l2)
   by_cases h47 : b = 47
   ·rw [if_pos h47, if_pos h47]
    show _ = bindR (expectR 62 c) _ l2;cases he : expectR 62 c l2 with
    | bad l3 => rw [bindR_bad he]
    | ok u l3 c3 => rw [bindR_ok he]
   ·rw [if_neg h47, if_neg h47]
    by_cases h62 : b = 62
    ·rw [if_pos h62, if_pos h62]; rfl
    ·rw [if_neg h62, if_neg h62]
     by_cases hc : l.takeWhile white ≠ [] ∧ letter b = true ∧ ats.length < 8
     ·rw [if_pos (by rw [drop_lt hd]; exact hc), if_pos hc]
      cases ha : attrR ats c (b :: l2) with
      | bad l3 => rw [bindR_bad ha]
      | ok a l3 c3 => rw [bindR_ok ha]
     ·rw [if_neg (by rw [drop_lt hd]; exact hc), if_neg hc]
theorem loc_lit (c : Nat) : ∀ s : Bytes, Loc (litR c s)
 | [] => (Loc.pure () c).of_eq fun l => by rw [litR]
 | b :: s => (Loc.bind (loc_expect b c) fun _ _ => loc_lit c s).of_eq fun l => by
  rw [litR];cases he : expectR b c l with
  | bad l1 => rw [bindR_bad he]
  | ok u l1 c1 => rw [bindR_ok he]
theorem loc_end (nm : Bytes) (c : Nat) : Loc (endR nm c) := by
 refine (Loc.bind (loc_expect 47 c) fun _ _ => Loc.bind (loc_lit c nm) fun _ _ => Loc.bind (Loc.span white (fun _ => ()) c) fun _ _ => loc_expect 62 c).of_eq fun l => ?_
 unfold endR;cases he : expectR 47 c l with
 | bad l1 => rw [bindR_bad he]
 | ok u l1 c1 =>
  rw [bindR_ok he]
  dsimp only
  cases hl : litR c nm l1 with
  | bad l2 => rw [bindR_bad hl]
  | ok u l2 c2 => rw [bindR_ok hl]; rfl
theorem loc_kidsF {el : Bytes → Nat → Rs E} (hel : ∀ c, Loc fun l => el l c) : ∀ (f : Nat) (ks : List E) (c : Nat), Loc fun l => kidsR el f ks l c
 | 0, ks, c => Loc.stop.of_eq fun l => by rw [kidsR]
 | f + 1, ks, c => by
  refine (Loc.peek (f := fun b => if b = 47 then (fun l => Rs.ok ks l c) else bindR (fun l => el l c) (fun e c1 => bindR (fun l => Rs.ok () (l.dropWhile white) c1) (fun _ _ => peekR (fun b2 => if b2 = 60 then bindR (fun l => Rs.ok () (l.drop 1) c1) (fun _ _ l => kidsR el f (ks ++ [e]) l c1) else (fun l => Rs.bad l)))))
   fun b => Loc.ite (Loc.pure ks c) (Loc.bind (hel c) fun e c1 => Loc.bind (Loc.span white (fun _ => ()) c1) fun _ _ => Loc.peek fun b2 => Loc.ite (Loc.bind (Loc.take () c1) fun _ _ => loc_kidsF hel f (ks ++ [e]) c1) Loc.stop)).of_eq fun l => ?_
  cases l with
  | nil => rw [kidsR]; rfl
  | cons b l =>
   rw [kidsR];show (if b = 47 then _ else _) = (if b = 47 then _ else _ : Bytes → Rs (List E)) (b :: l);split
   ·rfl
   ·cases he : el (b :: l) c with
    | bad l1 => rw [bindR_bad (r := fun l => el l c) he]
    | ok e l1 c1 =>
     rw [bindR_ok (r := fun l => el l c) he];show _ = peekR _ (l1.dropWhile white)
     dsimp only
     cases hd : l1.dropWhile white with
     | nil => rfl
     | cons b2 l3 =>
      show (if b2 = 60 then _ else _) = (if b2 = 60 then _ else _ : Bytes → Rs (List E)) (b2 :: l3);split <;> rfl
theorem kidsR_fuel' {el : Bytes → Nat → Rs E} (hel : ∀ l c, Sfx (el l c).left l) : ∀ (m f : Nat) (ks : List E) (l : Bytes) (c : Nat), l.length ≤ m → l.length < f → kidsR el f ks l c = kidsR el (l.length + 1) ks l c := by
 intro m
 induction m with
 | zero =>
  intro f ks l c hm hf;obtain ⟨f, rfl⟩ : ∃ k, f = k + 1 := ⟨f - 1, by omega⟩;have : l = [] := List.length_eq_zero_iff.1 (by omega);subst this;rw [kidsR, kidsR]
 | succ m ih =>
  intro f ks l c hm hf;obtain ⟨f, rfl⟩ : ∃ k, f = k + 1 := ⟨f - 1, by omega⟩;cases l with
  | nil => rw [kidsR, kidsR]
  | cons b l =>
   rw [kidsR, kidsR];have h1 := (hel (b :: l) c).len;split
   ·rfl
   ·cases he : el (b :: l) c with
    | bad l1 => rfl
    | ok e l1 c1 =>
     rw [he] at h1;have h1 : l1.length ≤ (b :: l).length := h1;have h2 := (Sfx.dropWhile white l1).len
     dsimp only
     cases hd : l1.dropWhile white with
     | nil => rfl
     | cons b2 l3 =>
      rw [hd] at h2;rw [List.length_cons] at hm hf h1 h2
      dsimp only
      split
      ·rw [ih f (ks ++ [e]) l3 c1 (by omega) (by omega), ih (b :: l).length (ks ++ [e]) l3 c1 (by omega) (by rw [List.length_cons]; omega)]
      ·rfl
theorem kidsR_fuel {el : Bytes → Nat → Rs E} (hel : ∀ l c, Sfx (el l c).left l) (f : Nat) (ks : List E) (l : Bytes) (c : Nat) (h : l.length < f) : kidsR el f ks l c = kidsR el (l.length + 1) ks l c := kidsR_fuel' hel _ f ks l c (Nat.le_refl _) h
def kidsA (el : Bytes → Nat → Rs E) (ks : List E) (l : Bytes) (c : Nat) : Rs (List E) := kidsR el (l.length + 1) ks l c
theorem loc_kids {el : Bytes → Nat → Rs E} (hel : ∀ c, Loc fun l => el l c) (ks : List E) (c : Nat) : Loc fun l => kidsA el ks l c :=
 Loc.fuel (r := fun f l => kidsR el f ks l c) (fun f => loc_kidsF hel f ks c) fun l f h => kidsR_fuel (fun l c => (hel c).sfx l) f ks l c h
theorem loc_content {el : Bytes → Nat → Rs E} (hel : ∀ c, Loc fun l => el l c) (nm : Bytes) (c : Nat) : Loc fun l => contentR el nm l c := by
 refine (Loc.bind (Loc.span white (fun ws => ws) c) (f := fun ws _ => peekR (fun b => if b = 60 then
    bindR (fun l => Rs.ok () (l.drop 1) c) (fun _ _ => bindR (fun l => kidsA el [] l c) (fun ks c3 => bindR (endR nm c3) (fun _ _ l => Rs.ok (ks, if spacesB ws && ks.isEmpty then ws else []) l c3)))
   else if spacesB ws = false then (fun l => Rs.bad l) else bindR (textA 60 c ws) (fun t _ => bindR (fun l => Rs.ok () (l.drop 1) c) (fun _ _ => bindR (endR nm c) (fun _ _ l => Rs.ok ([], t) l c)))))
   fun ws _ => Loc.peek fun b => Loc.ite (Loc.bind (Loc.take () c) fun _ _ => Loc.bind (loc_kids hel [] c) fun ks c3 => Loc.bind (loc_end nm c3) fun _ _ => Loc.pure _ c3)
    (Loc.ite Loc.stop (Loc.bind (loc_text 60 c ws) fun t _ => Loc.bind (Loc.take () c) fun _ _ => Loc.bind (loc_end nm c) fun _ _ => Loc.pure _ c))).of_eq fun l => ?_
 show contentR el nm l c = peekR _ (l.dropWhile white);unfold contentR;cases hd : l.dropWhile white with
 | nil => rfl
 | cons b l2 =>
  show (if b = 60 then _ else if spacesB (l.takeWhile white) = false then _ else _) = (if b = 60 then _ else if spacesB (l.takeWhile white) = false then _ else _ : Bytes → Rs (List E × Bytes)) (b :: l2);split
  ·show _ = bindR (fun l => kidsA el [] l c) _ l2
   cases hk : kidsR el (l2.length + 1) [] l2 c with
   | bad l3 => rw [bindR_bad (r := fun l => kidsA el [] l c) hk]
   | ok ks l3 c3 =>
    rw [bindR_ok (r := fun l => kidsA el [] l c) hk]
    dsimp only
    cases he : endR nm c3 l3 with
    | bad l4 => rw [bindR_bad he]
    | ok u l4 c4 => rw [bindR_ok he]
  ·split
   ·rfl
   ·cases ht : textR 60 c ((b :: l2).length + 1) (l.takeWhile white) (b :: l2) with
    | bad l3 => rw [bindR_bad (r := textA 60 c (l.takeWhile white)) ht]
    | ok t l3 c3 =>
     rw [bindR_ok (r := textA 60 c (l.takeWhile white)) ht];show _ = bindR (endR nm c) _ (l3.drop 1)
     dsimp only
     cases he : endR nm c (l3.drop 1) with
     | bad l4 => rw [bindR_bad he]
     | ok u l4 c4 => rw [bindR_ok he]
theorem loc_elem : ∀ (n c : Nat), Loc fun l => elementR n l c
 | 0, c => Loc.stop.of_eq fun l => by rw [elementR]
 | n + 1, c => by
  refine (Loc.peek (f := fun b => if letter b = false ∨ 3000 ≤ c then (fun l => Rs.bad l) else bindR (fun l => Rs.ok (l.takeWhile inner) (l.dropWhile inner) (c + 1)) (fun nm _ => bindR (attrsR (c + 1) 9 []) (fun p _ =>
    match p with
    | (ats, true) => fun l => Rs.ok (.mk nm ats [] []) l (c + 1)
    | (ats, false) => bindR (fun l => contentR (elementR n) nm l (c + 1)) (fun q c2 l => Rs.ok (.mk nm ats q.1 q.2) l c2))))
   fun b => Loc.ite Loc.stop (Loc.bind (Loc.span inner (fun ws => ws) (c + 1)) fun nm _ => Loc.bind (loc_attrs (c + 1) 9 []) fun p _ => by
    obtain ⟨ats, z⟩ := p;cases z with
    | true => exact Loc.pure _ (c + 1)
    | false => exact Loc.bind (loc_content (loc_elem n) nm (c + 1)) fun q c2 => Loc.pure _ c2)).of_eq fun l => ?_
  cases l with
  | nil => rw [elementR]; rfl
  | cons b l =>
   rw [elementR];show (if letter b = false ∨ 3000 ≤ c then _ else _) = (if letter b = false ∨ 3000 ≤ c then _ else _ : Bytes → Rs E) (b :: l);split
   ·rfl
   ·show _ = bindR (attrsR (c + 1) 9 []) _ ((b :: l).dropWhile inner)
    cases ha : attrsR (c + 1) 9 [] ((b :: l).dropWhile inner) with
    | bad l1 => rw [bindR_bad ha]
    | ok p l1 c1 =>
     rw [bindR_ok ha];obtain ⟨ats, z⟩ := p;cases z with
     | true => rfl
     | false =>
      dsimp only
      cases hc : contentR (elementR n) ((b :: l).takeWhile inner) l1 (c + 1) with
      | bad l2 => rw [bindR_bad (r := fun l0 => contentR (elementR n) ((b :: l).takeWhile inner) l0 (c + 1)) hc]
      | ok q l2 c2 => rw [bindR_ok (r := fun l0 => contentR (elementR n) ((b :: l).takeWhile inner) l0 (c + 1)) hc]
def headR : Bytes → Rs E := bindR (fun l => Rs.ok () (l.dropWhile white) 0) (fun _ _ => bindR (expectR 60 0) (fun _ _ => bindR (fun l => elementR 64 l 0) (fun e c l => Rs.ok e (l.dropWhile white) c)))
theorem loc_head : Loc headR := Loc.bind (Loc.span white (fun _ => ()) 0) fun _ _ => Loc.bind (loc_expect 60 0) fun _ _ => Loc.bind (loc_elem 64 0) fun e c => Loc.span white (fun _ => e) c
def headK : Rs E → Rs E
 | .bad l1 => .bad l1
 | .ok e [] c => .ok e [] c
 | .ok _ (b :: l1) _ => .bad (b :: l1)
theorem document_head (l : Bytes) : documentR l = headK (headR l) := by
 show documentR l = headK (bindR (expectR 60 0) _ (l.dropWhile white));unfold documentR;cases he : expectR 60 0 (l.dropWhile white) with
 | bad l1 => rw [bindR_bad he]; rfl
 | ok u l1 c1 =>
  rw [bindR_ok he]
  dsimp only
  cases hl : elementR 64 l1 0 with
  | bad l2 => rw [bindR_bad (r := fun l => elementR 64 l 0) hl]; rfl
  | ok e l2 c2 =>
   rw [bindR_ok (r := fun l => elementR 64 l 0) hl]
   dsimp only
   cases hd : l2.dropWhile white with
   | nil => rfl
   | cons b l3 => rfl
theorem document_rejects (q : Bytes) (b : UInt8) (l : Bytes) (h : documentR (q ++ b :: l) = .bad (b :: l)) : (∀ o, documentR (q ++ b :: o) = .bad (b :: o)) ∧ (documentR q = .bad [] ∨ ∃ e c, documentR q = .ok e [] c) := by
 rw [document_head] at h;cases h1 : headR (q ++ b :: l) with
 | bad l1 =>
  rw [h1] at h;have h : l1 = b :: l := by injection h
  subst h;obtain ⟨h2, h3⟩ := loc_head.bad q b l h1;exact ⟨fun o => by rw [document_head, h2]; rfl, .inl (by rw [document_head, h3]; rfl)⟩
 | ok e l1 c =>
  rw [h1] at h;cases l1 with
  | nil => cases h
  | cons b1 l1 =>
   have h : b1 :: l1 = b :: l := by injection h
   injection h with e1 e2
   subst e1 e2;obtain ⟨h2, h3⟩ := loc_head.ok q b1 l1 e c h1;refine ⟨fun o => by rw [document_head, h2]; rfl, ?_⟩
   rcases h3 with h3 | h3
   ·exact .inr ⟨e, c, by rw [document_head, h3]; rfl⟩
   ·exact .inl (by rw [document_head, h3]; rfl)
theorem documentR_left (l : Bytes) : Sfx (documentR l).left l := by
 have h := loc_head.sfx l;rw [document_head];cases h1 : headR l with
 | bad l1 => rw [h1] at h; exact h
 | ok e l1 c =>
  rw [h1] at h;cases l1 with
  | nil => exact h
  | cons b l1 => exact h
theorem documentR_ok {l : Bytes} {e : E} {l1 : Bytes} {c : Nat} (h : documentR l = .ok e l1 c) : l1 = [] := by
 rw [document_head] at h;cases h1 : headR l with
 | bad l1 => rw [h1] at h; cases h
 | ok e l1 c =>
  rw [h1] at h;cases l1 with
  | nil => cases h; rfl
  | cons b l1 => cases h
end Go.Proofs.YtnbeemkfmlfgfaaGreatDoor.Xp
namespace Go.Proofs.YtnbeemkfmlfgfaaGreatDoor.El
def escB (b : UInt8) : Bytes := if b = 38 then [38, 97, 109, 112, 59] else if b = 60 then [38, 108, 116, 59] else if b = 62 then [38, 103, 116, 59] else if b = 34 then [38, 113, 117, 111, 116, 59] else [b]
def escL (s : Bytes) : Bytes := s.flatMap escB
theorem escL_snoc (s : Bytes) (b : UInt8) : escL (s ++ [b]) = escL s ++ escB b := by unfold escL; rw [List.flatMap_append]; simp
theorem escL_nil : escL [] = [] := rfl
def attrW (a : Bytes × Bytes) : Bytes := 32 :: a.1 ++ [61, 34] ++ escL a.2 ++ [34]
def attrsW (l : Attrs) : Bytes := l.flatMap attrW
theorem attrsW_snoc (l : Attrs) (j : Nat) (h : j < l.length) : attrsW (l.take (j + 1)) = attrsW (l.take j) ++ attrW l[j] := by
 unfold attrsW; rw [List.take_add_one, List.getElem?_eq_getElem h, List.flatMap_append]; simp
theorem attrsW_le (l : Attrs) (j : Nat) : (attrsW (l.take j)).length ≤ (attrsW l).length := by
 have : attrsW l = attrsW (l.take j) ++ attrsW (l.drop j) := by unfold attrsW; rw [← List.flatMap_append, List.take_append_drop]
 rw [this, List.length_append]; omega
mutual
def writeE : E → Bytes
 | .mk n a ks t => 60 :: n ++ attrsW a ++ (if t.isEmpty && ks.isEmpty then [47, 62] else 62 :: escL t ++ writeL ks ++ ([60, 47] ++ n ++ [62]))
def writeL : List E → Bytes
 | [] => []
 | x :: xs => writeE x ++ writeL xs
end
theorem writeL_map (l : List E) : writeL l = l.flatMap writeE := by
 induction l with
 | nil => rw [writeL]; rfl
 | cons x l ih => rw [writeL, ih, List.flatMap_cons]
theorem writeL_snoc (l : List E) (j : Nat) (h : j < l.length) : writeL (l.take (j + 1)) = writeL (l.take j) ++ writeE l[j] := by
 rw [writeL_map, writeL_map, List.take_add_one, List.getElem?_eq_getElem h, List.flatMap_append]; simp
theorem writeL_le (l : List E) (j : Nat) : (writeL (l.take j)).length ≤ (writeL l).length := by
 have : writeL l = writeL (l.take j) ++ writeL (l.drop j) := by rw [writeL_map, writeL_map, writeL_map, ← List.flatMap_append, List.take_append_drop]
 rw [this, List.length_append]; omega
end Go.Proofs.YtnbeemkfmlfgfaaGreatDoor.El
