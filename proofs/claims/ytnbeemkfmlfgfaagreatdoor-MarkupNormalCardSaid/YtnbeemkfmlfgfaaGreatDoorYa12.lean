/- Part 12 of 35 of a proof; its texts, joined: ElM, XpM, ElP, MkA, XmA. No condition. -/
import Derived.Test.YtnbeemkfmlfgfaaGreatDoorYa1
import Derived.Test.YtnbeemkfmlfgfaaGreatDoorYa9
import Derived.Test.YtnbeemkfmlfgfaaGreatDoorYa6
set_option maxRecDepth 100000
set_option maxHeartbeats 400000
namespace Go.Proofs.YtnbeemkfmlfgfaaGreatDoor.El
abbrev Bytes := List UInt8
abbrev Attrs := List (Bytes × Bytes)
inductive E where
 | mk (name : Bytes) (attrs : Attrs) (kids : List E) (text : Bytes)
namespace E
def name : E → Bytes | mk n _ _ _ => n
def attrs : E → Attrs | mk _ a _ _ => a
def kids : E → List E | mk _ _ k _ => k
def text : E → Bytes | mk _ _ _ t => t
end E
theorem E.eta (e : E) : e = .mk e.name e.attrs e.kids e.text := by cases e; rfl
mutual
def count : E → Nat
 | .mk _ _ ks _ => 1 + countL ks
def countL : List E → Nat
 | [] => 0
 | n :: ns => count n + countL ns
end
mutual
def depth : E → Nat
 | .mk _ _ ks _ => depthL ks + 1
def depthL : List E → Nat
 | [] => 0
 | n :: ns => max (depth n) (depthL ns)
end
theorem count_pos (n : E) : 0 < count n := by cases n; rw [count]; omega
theorem depth_pos (n : E) : 0 < depth n := by cases n; rw [depth]; omega
theorem count_kids (n : E) : count n = 1 + countL n.kids := by cases n; rw [count]; rfl
theorem depth_kids (n : E) : depth n = depthL n.kids + 1 := by cases n; rw [depth]; rfl
theorem countL_take (l : List E) (i : Nat) (h : i < l.length) : countL (l.take (i + 1)) = countL (l.take i) + count l[i] := by
 induction l generalizing i with
 | nil => simp at h
 | cons x l ih =>
  cases i with
  | zero => simp [countL]
  | succ i =>
   simp only [List.take_succ_cons, countL, List.getElem_cons_succ];rw [ih i (by simpa using h)]; omega
theorem countL_app (l m : List E) : countL (l ++ m) = countL l + countL m := by
 induction l with
 | nil => simp [countL]
 | cons x l ih => rw [List.cons_append, countL, countL, ih]; omega
theorem depthL_app (l m : List E) : depthL (l ++ m) = max (depthL l) (depthL m) := by
 induction l with
 | nil => simp [depthL]
 | cons x l ih => rw [List.cons_append, depthL, depthL, ih]; omega
theorem depthL_take (l : List E) (i : Nat) (h : i < l.length) : depthL (l.take (i + 1)) = max (depthL (l.take i)) (depth l[i]) := by
 rw [List.take_add_one, List.getElem?_eq_getElem h, depthL_app];simp [depthL]
theorem countL_le (l : List E) (i : Nat) : countL (l.take i) ≤ countL l := by
 induction l generalizing i with
 | nil => simp [countL]
 | cons x l ih =>
  cases i with
  | zero => simp [countL]
  | succ i => simp only [List.take_succ_cons, countL]; have := ih i; omega
theorem count_mem {l : List E} {n : E} (h : n ∈ l) : count n ≤ countL l := by
 induction l with
 | nil => cases h
 | cons x l ih =>
  rw [countL]
  rcases List.mem_cons.1 h with rfl | h
  ·omega
  ·have := ih h; omega
theorem depth_mem {l : List E} {n : E} (h : n ∈ l) : depth n ≤ depthL l := by
 induction l with
 | nil => cases h
 | cons x l ih =>
  rw [depthL]
  rcases List.mem_cons.1 h with rfl | h
  ·omega
  ·have := ih h; omega
theorem countL_len (l : List E) : l.length ≤ countL l := by
 induction l with
 | nil => simp [countL]
 | cons x l ih => rw [countL]; have := count_pos x; simp; omega
theorem E.ind {p : E → Prop} (h : ∀ n, (∀ m ∈ n.kids, p m) → p n) (n : E) : p n := by
 have : ∀ k n, count n ≤ k → p n := by
  intro k
  induction k with
  | zero => intro n hn; have := count_pos n; omega
  | succ k ih =>
   intro n hn;refine h n fun m hm => ih m ?_
   have := count_mem hm;have := count_kids n;omega
 exact this _ n (Nat.le_refl _)
def letter (b : UInt8) : Bool := (decide (97 ≤ b) && decide (b ≤ 122)) || (decide (65 ≤ b) && decide (b ≤ 90))
def inner (b : UInt8) : Bool := letter b || (decide (48 ≤ b) && decide (b ≤ 57)) || b == 45
def printable (b : UInt8) : Bool := decide (32 ≤ b) && decide (b ≤ 126)
def nameOK : Bytes → Bool
 | [] => false
 | b :: s => letter b && s.all inner
def valueOK (s : Bytes) : Bool := s.all printable && decide (s.length ≤ 200)
def attrsOK (a : Attrs) : Bool := a.all (fun x => nameOK x.1 && valueOK x.2) && decide (a.map (·.1)).Nodup
def ownOK (e : E) : Bool := nameOK e.name && valueOK e.text && (e.text.isEmpty || e.kids.isEmpty) && decide (e.attrs.length ≤ 8) && attrsOK e.attrs
mutual
def proper : E → Bool
 | .mk n a ks t => ownOK (.mk n a ks t) && properL ks
def properL : List E → Bool
 | [] => true
 | x :: xs => proper x && properL xs
end
def valid (e : E) : Bool := proper e && decide (count e ≤ 3000) && decide (depth e ≤ 64)
theorem proper_eq (e : E) : proper e = (ownOK e && properL e.kids) := by cases e; rw [proper]; rfl
theorem properL_all (l : List E) : properL l = l.all proper := by
 induction l with
 | nil => rw [properL]; rfl
 | cons x l ih => rw [properL, ih, List.all_cons]
mutual
def eqE : E → E → Bool
 | .mk n a ks t, .mk n' a' ks' t' => n == n' && a == a' && t == t' && eqL ks ks'
def eqL : List E → List E → Bool
 | [], [] => true
 | n :: ns, m :: ms => eqE n m && eqL ns ms
 | _, _ => false
end
theorem eqE_eq (n m : E) : eqE n m = ((n.name == m.name) && (n.attrs == m.attrs) && (n.text == m.text) && eqL n.kids m.kids) := by
 cases n; cases m; rw [eqE]; rfl
theorem eqE_iff (n : E) : ∀ m, eqE n m = true ↔ n = m := by
 induction n using E.ind with
 | h n ih =>
  intro m
  have hL : ∀ (l l' : List E), (∀ x ∈ l, ∀ y, eqE x y = true ↔ x = y) → (eqL l l' = true ↔ l = l') := by
   intro l
   induction l with
   | nil => intro l' _; cases l' <;> simp [eqL]
   | cons x l ihl =>
    intro l' h;cases l' with
    | nil => simp [eqL]
    | cons y l' =>
     rw [eqL, Bool.and_eq_true, h x (by simp) y, ihl l' (fun z hz => h z (by simp [hz]))];simp
  rw [eqE_eq, Bool.and_eq_true, Bool.and_eq_true, Bool.and_eq_true, hL n.kids m.kids ih, beq_iff_eq, beq_iff_eq, beq_iff_eq, E.eta n, E.eta m];simp [E.name, E.attrs, E.kids, E.text]
  constructor
  ·rintro ⟨⟨⟨h1, h2⟩, h3⟩, h4⟩; exact ⟨h1, h2, h4, h3⟩
  ·rintro ⟨h1, h2, h4, h3⟩; exact ⟨⟨⟨h1, h2⟩, h3⟩, h4⟩
theorem eqE_self (n : E) : eqE n n = true := (eqE_iff n n).2 rfl
theorem eqL_length : ∀ (l m : List E), l.length ≠ m.length → eqL l m = false
 | [], [], h => absurd rfl h
 | [], _ :: _, _ => by rw [eqL] <;> simp
 | _ :: _, [], _ => by rw [eqL] <;> simp
 | x :: l, y :: m, h => by rw [eqL, eqL_length l m (by simpa using h), Bool.and_false]
end Go.Proofs.YtnbeemkfmlfgfaaGreatDoor.El
namespace Go.Proofs.YtnbeemkfmlfgfaaGreatDoor.Xp
open El (E Attrs Bytes letter inner printable)
inductive Rs (α : Type) where
 | ok (x : α) (l : Bytes) (c : Nat)
 | bad (l : Bytes)
def white (b : UInt8) : Bool := b == 32 || b == 9 || b == 10 || b == 13
def expectR (b : UInt8) (c : Nat) : Bytes → Rs Unit
 | [] => .bad []
 | x :: l => if x = b then .ok () l c else .bad (x :: l)
def nameR (c : Nat) : Bytes → Rs Bytes
 | [] => .bad []
 | x :: l => if letter x then .ok ((x :: l).takeWhile inner) ((x :: l).dropWhile inner) c else .bad (x :: l)
def repls : List (Bytes × UInt8) := [([38, 97, 109, 112, 59], 38), ([38, 108, 116, 59], 60), ([38, 103, 116, 59], 62), ([38, 113, 117, 111, 116, 59], 34)]
def pre (s t : Bytes) : Bool := t.take s.length == s
def replR (c : Nat) : Bytes → Bytes → Rs UInt8
 | _, [] => .bad []
 | p, b :: l => match repls.find? (fun x => x.1 == p ++ [b]) with
  | some x => .ok x.2 l c
  | none => if repls.any (fun x => pre (p ++ [b]) x.1) then replR c (p ++ [b]) l else .bad (b :: l)
def charR (n c : Nat) : Bytes → Rs UInt8
 | [] => .bad []
 | b :: l => if 200 ≤ n ∨ b = 60 ∨ printable b = false then .bad (b :: l) else if b = 38 then replR c [] (b :: l) else .ok b l c
def textR (q : UInt8) (c : Nat) : Nat → Bytes → Bytes → Rs Bytes
 | 0, _, l => .bad l
 | f + 1, acc, l => match l with
  | [] => .bad []
  | b :: l' => if b = q then .ok acc (b :: l') c else match charR acc.length c (b :: l') with
   | .bad l2 => .bad l2
   | .ok x l2 _ => textR q c f (acc ++ [x]) l2
def attrR (as_ : Attrs) (c : Nat) (l : Bytes) : Rs (Bytes × Bytes) := match nameR c l with
 | .bad l1 => .bad l1
 | .ok nm l1 _ => match l1 with
  | [] => .bad []
  | b :: l2 => if b ≠ 61 ∨ as_.any (fun x => x.1 == nm) = true then .bad (b :: l2) else match expectR 34 c l2 with
   | .bad l3 => .bad l3
   | .ok _ l3 _ => match textR 34 c (l3.length + 1) [] l3 with
    | .bad l4 => .bad l4
    | .ok v l4 _ => .ok (nm, v) (l4.drop 1) c
def attrsR (c : Nat) : Nat → Attrs → Bytes → Rs (Attrs × Bool)
 | 0, _, l => .bad l
 | f + 1, as_, l => match l.dropWhile white with
  | [] => .bad []
  | b :: l2 => if b = 47 then (match expectR 62 c l2 with
    | .bad l3 => .bad l3
    | .ok _ l3 _ => .ok (as_, true) l3 c)
   else if b = 62 then .ok (as_, false) l2 c
   else if (b :: l2).length < l.length ∧ letter b = true ∧ as_.length < 8 then (match attrR as_ c (b :: l2) with
    | .bad l3 => .bad l3
    | .ok a l3 _ => attrsR c f (as_ ++ [a]) l3)
   else .bad (b :: l2)
def litR (c : Nat) : Bytes → Bytes → Rs Unit
 | [], l => .ok () l c
 | b :: s, l => match expectR b c l with
  | .bad l1 => .bad l1
  | .ok _ l1 _ => litR c s l1
def endR (nm : Bytes) (c : Nat) (l : Bytes) : Rs Unit := match expectR 47 c l with
 | .bad l1 => .bad l1
 | .ok _ l1 _ => match litR c nm l1 with
  | .bad l2 => .bad l2
  | .ok _ l2 _ => expectR 62 c (l2.dropWhile white)
def kidsR (el : Bytes → Nat → Rs E) : Nat → List E → Bytes → Nat → Rs (List E)
 | 0, _, l, _ => .bad l
 | f + 1, ks, l, c => match l with
  | [] => .bad []
  | b :: l' => if b = 47 then .ok ks (b :: l') c else match el (b :: l') c with
   | .bad l1 => .bad l1
   | .ok e l1 c1 => match l1.dropWhile white with
    | [] => .bad []
    | b2 :: l3 => if b2 = 60 then kidsR el f (ks ++ [e]) l3 c1 else .bad (b2 :: l3)
def spacesB (gap : Bytes) : Bool := gap.all (fun b => b == 32) && decide (gap.length ≤ 200)
def contentR (el : Bytes → Nat → Rs E) (nm : Bytes) (l : Bytes) (c : Nat) : Rs (List E × Bytes) := match l.dropWhile white with
 | [] => .bad []
 | b :: l2 =>
  if b = 60 then (match kidsR el (l2.length + 1) [] l2 c with
   | .bad l3 => .bad l3
   | .ok ks l3 c3 => match endR nm c3 l3 with
    | .bad l4 => .bad l4
    | .ok _ l4 _ => .ok (ks, if spacesB (l.takeWhile white) && ks.isEmpty then l.takeWhile white else []) l4 c3)
  else if spacesB (l.takeWhile white) = false then .bad (b :: l2)
  else match textR 60 c ((b :: l2).length + 1) (l.takeWhile white) (b :: l2) with
   | .bad l3 => .bad l3
   | .ok t l3 _ => match endR nm c (l3.drop 1) with
    | .bad l4 => .bad l4
    | .ok _ l4 _ => .ok ([], t) l4 c
def elementR : Nat → Bytes → Nat → Rs E
 | 0, l, _ => .bad l
 | n + 1, l, c => match l with
  | [] => .bad []
  | b :: l' => if letter b = false ∨ 3000 ≤ c then .bad (b :: l') else match attrsR (c + 1) 9 [] ((b :: l').dropWhile inner) with
   | .bad l1 => .bad l1
   | .ok (as_, true) l1 _ => .ok (.mk ((b :: l').takeWhile inner) as_ [] []) l1 (c + 1)
   | .ok (as_, false) l1 _ => match contentR (elementR n) ((b :: l').takeWhile inner) l1 (c + 1) with
    | .bad l2 => .bad l2
    | .ok (ks, t) l2 c2 => .ok (.mk ((b :: l').takeWhile inner) as_ ks t) l2 c2
def documentR (l : Bytes) : Rs E := match expectR 60 0 (l.dropWhile white) with
 | .bad l1 => .bad l1
 | .ok _ l1 _ => match elementR 64 l1 0 with
  | .bad l2 => .bad l2
  | .ok e l2 c2 => match l2.dropWhile white with
   | [] => .ok e [] c2
   | b :: l3 => .bad (b :: l3)
def nilE : E := .mk [] [] [] []
def parseX (T : Bytes) : E × Int × Int := match documentR T with
 | .ok e _ _ => (e, 0, 0)
 | .bad l => (nilE, (T.length : Int) - l.length, 3)
def Sfx (l' l : Bytes) : Prop := ∃ p, l = p ++ l'
theorem Sfx.refl (l : Bytes) : Sfx l l := ⟨[], rfl⟩
theorem Sfx.trans {a b c : Bytes} (h : Sfx a b) (h' : Sfx b c) : Sfx a c := by
 obtain ⟨p, rfl⟩ := h;obtain ⟨q, rfl⟩ := h';exact ⟨q ++ p, by rw [List.append_assoc]⟩
theorem Sfx.cons {a : Bytes} (b : UInt8) : Sfx a (b :: a) := ⟨[b], rfl⟩
theorem Sfx.dropWhile (p : UInt8 → Bool) (l : Bytes) : Sfx (l.dropWhile p) l := ⟨l.takeWhile p, (List.takeWhile_append_dropWhile ..).symm⟩
theorem Sfx.len {a b : Bytes} (h : Sfx a b) : a.length ≤ b.length := by
 obtain ⟨p, rfl⟩ := h;rw [List.length_append]; omega
theorem Sfx.drop (n : Nat) (l : Bytes) : Sfx (l.drop n) l := ⟨l.take n, (List.take_append_drop n l).symm⟩
def Rs.left {α : Type} : Rs α → Bytes
 | .ok _ l _ => l
 | .bad l => l
theorem expectR_left (b : UInt8) (c : Nat) (l : Bytes) : Sfx (expectR b c l).left l := by
 cases l with
 | nil => exact Sfx.refl _
 | cons x l =>
  show Sfx (if x = b then _ else _ : Rs Unit).left _;split
  ·exact Sfx.cons _
  ·exact Sfx.refl _
theorem nameR_left (c : Nat) (l : Bytes) : Sfx (nameR c l).left l := by
 cases l with
 | nil => exact Sfx.refl _
 | cons x l =>
  show Sfx (if letter x then _ else _ : Rs Bytes).left _;split
  ·exact Sfx.dropWhile _ _
  ·exact Sfx.refl _
theorem replR_left (c : Nat) : ∀ (l p : Bytes), Sfx (replR c p l).left l
 | [], p => by rw [replR]; exact Sfx.refl _
 | b :: l, p => by
  rw [replR];split
  ·exact Sfx.cons _
  ·split
   ·exact (replR_left c l _).trans (Sfx.cons _)
   ·exact Sfx.refl _
theorem charR_left (n c : Nat) (l : Bytes) : Sfx (charR n c l).left l := by
 cases l with
 | nil => exact Sfx.refl _
 | cons b l =>
  show Sfx (if _ then _ else if _ then _ else _ : Rs UInt8).left _;split
  ·exact Sfx.refl _
  ·split
   ·exact replR_left c _ _
   ·exact Sfx.cons _
theorem textR_left (q : UInt8) (c : Nat) : ∀ (f : Nat) (acc l : Bytes), Sfx (textR q c f acc l).left l
 | 0, _, l => by rw [textR]; exact Sfx.refl _
 | f + 1, acc, [] => by rw [textR]; exact Sfx.refl _
 | f + 1, acc, b :: l => by
  rw [textR];have h := charR_left acc.length c (b :: l);split
  ·exact Sfx.refl _
  ·cases hc : charR acc.length c (b :: l) with
   | bad l2 => rw [hc] at h; exact h
   | ok x l2 c2 => rw [hc] at h; exact (textR_left q c f _ l2).trans h
theorem attrR_left (as_ : Attrs) (c : Nat) (l : Bytes) : Sfx (attrR as_ c l).left l := by
 unfold attrR;have h := nameR_left c l;cases hn : nameR c l with
 | bad l1 => rw [hn] at h; exact h
 | ok nm l1 _ =>
  rw [hn] at h;cases l1 with
  | nil => exact h
  | cons b l2 =>
   dsimp only
   split
   ·exact h
   ·have h2 := expectR_left 34 c l2
    cases he : expectR 34 c l2 with
    | bad l3 => rw [he] at h2; exact (h2.trans (Sfx.cons _)).trans h
    | ok u l3 _ =>
     rw [he] at h2;have h3 := textR_left 34 c (l3.length + 1) [] l3
     dsimp only
     cases ht : textR 34 c (l3.length + 1) [] l3 with
     | bad l4 => rw [ht] at h3; exact ((h3.trans h2).trans (Sfx.cons _)).trans h
     | ok v l4 _ => rw [ht] at h3; exact ((((Sfx.drop 1 l4).trans h3).trans h2).trans (Sfx.cons _)).trans h
theorem attrsR_left (c : Nat) : ∀ (f : Nat) (as_ : Attrs) (l : Bytes), Sfx (attrsR c f as_ l).left l
 | 0, _, l => by rw [attrsR]; exact Sfx.refl _
 | f + 1, as_, l => by
  rw [attrsR];have h := Sfx.dropWhile white l;cases hd : l.dropWhile white with
  | nil => rw [hd] at h; exact h
  | cons b l2 =>
   rw [hd] at h
   dsimp only
   split
   ·have h2 := expectR_left 62 c l2
    cases he : expectR 62 c l2 with
    | bad l3 => rw [he] at h2; exact (h2.trans (Sfx.cons _)).trans h
    | ok u l3 _ => rw [he] at h2; exact (h2.trans (Sfx.cons _)).trans h
   ·split
    ·exact (Sfx.cons _).trans h
    ·split
     ·have h2 := attrR_left as_ c (b :: l2)
      cases ha : attrR as_ c (b :: l2) with
      | bad l3 => rw [ha] at h2; exact h2.trans h
      | ok a l3 _ => rw [ha] at h2; exact ((attrsR_left c f _ l3).trans h2).trans h
     ·exact h
theorem litR_left (c : Nat) : ∀ (s l : Bytes), Sfx (litR c s l).left l
 | [], l => by rw [litR]; exact Sfx.refl _
 | b :: s, l => by
  rw [litR];have h := expectR_left b c l;cases he : expectR b c l with
  | bad l1 => rw [he] at h; exact h
  | ok u l1 _ => rw [he] at h; exact (litR_left c s l1).trans h
theorem endR_left (nm : Bytes) (c : Nat) (l : Bytes) : Sfx (endR nm c l).left l := by
 unfold endR;have h := expectR_left 47 c l;cases he : expectR 47 c l with
 | bad l1 => rw [he] at h; exact h
 | ok u l1 _ =>
  rw [he] at h;have h2 := litR_left c nm l1
  dsimp only
  cases hl : litR c nm l1 with
  | bad l2 => rw [hl] at h2; exact h2.trans h
  | ok v l2 _ => rw [hl] at h2; exact (((expectR_left 62 c _).trans (Sfx.dropWhile white l2)).trans h2).trans h
theorem kidsR_left (el : Bytes → Nat → Rs E) (hel : ∀ l c, Sfx (el l c).left l) : ∀ (f : Nat) (ks : List E) (l : Bytes) (c : Nat), Sfx (kidsR el f ks l c).left l
 | 0, _, l, _ => by rw [kidsR]; exact Sfx.refl _
 | f + 1, ks, [], c => by rw [kidsR]; exact Sfx.refl _
 | f + 1, ks, b :: l, c => by
  rw [kidsR];have h := hel (b :: l) c;split
  ·exact Sfx.refl _
  ·cases he : el (b :: l) c with
   | bad l1 => rw [he] at h; exact h
   | ok e l1 c1 =>
    rw [he] at h;have h2 := Sfx.dropWhile white l1
    dsimp only
    cases hd : l1.dropWhile white with
    | nil => rw [hd] at h2; exact h2.trans h
    | cons b2 l3 =>
     rw [hd] at h2
     dsimp only
     split
     ·exact (((kidsR_left el hel f _ l3 c1).trans (Sfx.cons _)).trans h2).trans h
     ·exact h2.trans h
theorem contentR_left (el : Bytes → Nat → Rs E) (hel : ∀ l c, Sfx (el l c).left l) (nm l : Bytes) (c : Nat) : Sfx (contentR el nm l c).left l := by
 unfold contentR;have h := Sfx.dropWhile white l;cases hd : l.dropWhile white with
 | nil => rw [hd] at h; exact h
 | cons b l2 =>
  rw [hd] at h
  dsimp only
  split
  ·have h2 := kidsR_left el hel (l2.length + 1) [] l2 c
   cases hk : kidsR el (l2.length + 1) [] l2 c with
   | bad l3 => rw [hk] at h2; exact (h2.trans (Sfx.cons _)).trans h
   | ok ks l3 c3 =>
    rw [hk] at h2;have h3 := endR_left nm c3 l3
    dsimp only
    cases he : endR nm c3 l3 with
    | bad l4 => rw [he] at h3; exact ((h3.trans h2).trans (Sfx.cons _)).trans h
    | ok u l4 _ => rw [he] at h3; exact ((h3.trans h2).trans (Sfx.cons _)).trans h
  ·split
   ·exact h
   ·have h2 := textR_left 60 c ((b :: l2).length + 1) (l.takeWhile white) (b :: l2)
    cases ht : textR 60 c ((b :: l2).length + 1) (l.takeWhile white) (b :: l2) with
    | bad l3 => rw [ht] at h2; exact h2.trans h
    | ok t l3 _ =>
     rw [ht] at h2;have h3 := endR_left nm c (l3.drop 1)
     dsimp only
     cases he : endR nm c (l3.drop 1) with
     | bad l4 => rw [he] at h3; exact ((h3.trans (Sfx.drop 1 l3)).trans h2).trans h
     | ok u l4 _ => rw [he] at h3; exact ((h3.trans (Sfx.drop 1 l3)).trans h2).trans h
theorem elementR_left : ∀ (n : Nat) (l : Bytes) (c : Nat), Sfx (elementR n l c).left l
 | 0, l, _ => by rw [elementR]; exact Sfx.refl _
 | n + 1, [], c => by rw [elementR]; exact Sfx.refl _
 | n + 1, b :: l, c => by
  rw [elementR];have h := (attrsR_left (c + 1) 9 [] ((b :: l).dropWhile inner)).trans (Sfx.dropWhile inner (b :: l));split
  ·exact Sfx.refl _
  ·cases ha : attrsR (c + 1) 9 [] ((b :: l).dropWhile inner) with
   | bad l1 => rw [ha] at h; exact h
   | ok p l1 _ =>
    rw [ha] at h;obtain ⟨as_, z⟩ := p;cases z with
    | true => exact h
    | false =>
     have h2 := contentR_left (elementR n) (elementR_left n) ((b :: l).takeWhile inner) l1 (c + 1)
     dsimp only
     cases hc : contentR (elementR n) ((b :: l).takeWhile inner) l1 (c + 1) with
     | bad l2 => rw [hc] at h2; exact h2.trans h
     | ok q l2 c2 => rw [hc] at h2; exact h2.trans h
end Go.Proofs.YtnbeemkfmlfgfaaGreatDoor.Xp
namespace Go.Proofs.YtnbeemkfmlfgfaaGreatDoor.El
open Tr (Nd)
def nMath : Bytes := [109, 97, 116, 104]
def nMi : Bytes := [109, 105]
def nMo : Bytes := [109, 111]
def nMn : Bytes := [109, 110]
def nMtext : Bytes := [109, 116, 101, 120, 116]
def nMrow : Bytes := [109, 114, 111, 119]
def nMfrac : Bytes := [109, 102, 114, 97, 99]
def nMsqrt : Bytes := [109, 115, 113, 114, 116]
def nMroot : Bytes := [109, 114, 111, 111, 116]
def nMsub : Bytes := [109, 115, 117, 98]
def nMsup : Bytes := [109, 115, 117, 112]
def nMsubsup : Bytes := [109, 115, 117, 98, 115, 117, 112]
def nMover : Bytes := [109, 111, 118, 101, 114]
def nAccent : Bytes := [97, 99, 99, 101, 110, 116]
def nMfenced : Bytes := [109, 102, 101, 110, 99, 101, 100]
def nOpen : Bytes := [111, 112, 101, 110]
def nClose : Bytes := [99, 108, 111, 115, 101]
def nMtable : Bytes := [109, 116, 97, 98, 108, 101]
def nMtr : Bytes := [109, 116, 114]
def nMtd : Bytes := [109, 116, 100]
def grid {α : Type} (c : Nat) (l : List α) : List (List α) := (List.range ((l.length + c - 1) / c)).map fun r => (l.drop (r * c)).take c
theorem grid_cut {α : Type} (c : Nat) (hc : 0 < c) (l : List α) (i r : Nat) (h : r * c + c ≤ i) : ((l.take i).drop (r * c)).take c = (l.drop (r * c)).take c := by
 rw [List.drop_take, List.take_take, Nat.min_eq_left (by omega)]
theorem ceil_mul (c k : Nat) (hc : 0 < c) : (k * c + c - 1) / c = k := by
 rw [show k * c + c - 1 = c * k + (c - 1) by rw [Nat.mul_comm]; omega, Nat.mul_add_div hc, Nat.div_eq_of_lt (by omega)];omega
theorem ceil_in (c k j : Nat) (hc : 0 < c) (hj : 0 < j) (hjc : j ≤ c) : (k * c + j + c - 1) / c = k + 1 := by
 rw [show k * c + j + c - 1 = c * (k + 1) + (j - 1) by rw [Nat.mul_comm c, Nat.add_mul]; omega, Nat.mul_add_div hc, Nat.div_eq_of_lt (by omega)]
theorem grid_nil {α : Type} (c : Nat) (hc : 0 < c) : grid c ([] : List α) = [] := by
 unfold grid;rw [show (List.length ([] : List α) + c - 1) / c = 0 from Nat.div_eq_of_lt (by simp; omega)];rfl
theorem grid_row {α : Type} (c : Nat) (hc : 0 < c) (l : List α) (k : Nat) (h : k * c + c ≤ l.length) : grid c (l.take (k * c + c)) = grid c (l.take (k * c)) ++ [(l.drop (k * c)).take c] := by
 unfold grid;rw [List.length_take, List.length_take, Nat.min_eq_left h, Nat.min_eq_left (by omega), ceil_mul c k hc, ceil_in c k c hc hc (Nat.le_refl _), List.range_succ, List.map_append]
 congr 1
 ·refine List.map_congr_left fun r hr => ?_
  have hr := List.mem_range.1 hr;have h1 : r * c + c ≤ k * c := by rw [← Nat.succ_mul]; exact Nat.mul_le_mul_right _ hr
  rw [grid_cut c hc l _ r (by omega), grid_cut c hc l _ r h1]
 ·rw [List.map_singleton, grid_cut c hc l _ k (Nat.le_refl _)]
theorem grid_new {α : Type} (c : Nat) (hc : 0 < c) (l : List α) (k : Nat) (h : k * c < l.length) : grid c (l.take (k * c + 1)) = grid c (l.take (k * c)) ++ [[l[k * c]]] := by
 unfold grid;rw [List.length_take, List.length_take, Nat.min_eq_left (by omega), Nat.min_eq_left (by omega), ceil_mul c k hc, ceil_in c k 1 hc (by omega) hc, List.range_succ, List.map_append]
 congr 1
 ·refine List.map_congr_left fun r hr => ?_
  have hr := List.mem_range.1 hr;have h1 : r * c + c ≤ k * c := by rw [← Nat.succ_mul]; exact Nat.mul_le_mul_right _ hr
  rw [grid_cut c hc l _ r (by omega), grid_cut c hc l _ r h1]
 ·rw [List.map_singleton, List.drop_take, show k * c + 1 - k * c = 1 by omega, List.take_take, Nat.min_eq_right (by omega), List.drop_eq_getElem_cons h]
  rfl
theorem grid_more {α : Type} (c : Nat) (hc : 0 < c) (l : List α) (k j : Nat) (hj : 0 < j) (hjc : j < c) (h : k * c + j < l.length) :
  ∃ L r, grid c (l.take (k * c + j)) = L ++ [r] ∧ grid c (l.take (k * c + j + 1)) = L ++ [r ++ [l[k * c + j]]] ∧ r.length = j := by
 refine ⟨(List.range k).map fun r => (l.drop (r * c)).take c, (l.drop (k * c)).take j, ?_, ?_, ?_⟩
 ·unfold grid
  rw [List.length_take, Nat.min_eq_left (by omega), ceil_in c k j hc hj (by omega), List.range_succ, List.map_append]
  congr 1
  ·refine List.map_congr_left fun r hr => ?_
   have hr := List.mem_range.1 hr;have h1 : r * c + c ≤ k * c := by rw [← Nat.succ_mul]; exact Nat.mul_le_mul_right _ hr
   rw [grid_cut c hc l _ r (by omega)]
  ·rw [List.map_singleton, List.drop_take, List.take_take, show min c (k * c + j - k * c) = j by omega]
 ·unfold grid
  rw [List.length_take, Nat.min_eq_left (by omega), show k * c + j + 1 = k * c + (j + 1) by omega, ceil_in c k (j + 1) hc (by omega) (by omega), List.range_succ, List.map_append]
  congr 1
  ·refine List.map_congr_left fun r hr => ?_
   have hr := List.mem_range.1 hr;have h1 : r * c + c ≤ k * c := by rw [← Nat.succ_mul]; exact Nat.mul_le_mul_right _ hr
   rw [grid_cut c hc l _ r (by omega)]
  ·rw [List.map_singleton, List.drop_take, List.take_take, show min c (k * c + (j + 1) - k * c) = j + 1 by omega, List.take_add_one, List.getElem?_drop, List.getElem?_eq_getElem h]
   rfl
 ·rw [List.length_take, List.length_drop]; omega
def mrow (n : Bytes) (l : List E) : E := .mk n [] l []
def lett : Bytes → Bool
 | [] => false
 | b :: _ => letter b
def mkE (k : Int) (t : Bytes) (c : Int) (ss : List (List E)) : E :=
 if k = 2 then .mk (if lett t then nMi else nMo) [] [] t
 else if k = 3 then .mk nMn [] [] t
 else if k = 4 then .mk nMtext [] [] t
 else if k = 6 then (match ss with
  | [] :: r => .mk nMsqrt [] (r.map (mrow nMrow)) []
  | a :: b :: _ => .mk nMroot [] [mrow nMrow b, mrow nMrow a] []
  | _ => .mk [] [] [] [])
 else if k = 10 then .mk nMover [(nAccent, t)] (ss.map (mrow nMrow)) []
 else if k = 11 then .mk nMfenced [(nOpen, t.take 1), (nClose, t.drop 1)] (ss.map (mrow nMrow)) []
 else if k = 12 then .mk nMtable [] ((grid c.toNat (ss.map (mrow nMtd))).map (mrow nMtr)) []
 else .mk (if k = 5 then nMfrac else if k = 7 then nMsub else if k = 8 then nMsup else nMsubsup) [] (ss.map (mrow nMrow)) []
mutual
def elE : Nd → E
 | .mk k t c ks => mkE k t c (slotsE ks)
def elK : List Nd → List E
 | [] => []
 | n :: ns => elE n :: elK ns
def slotsE : List Nd → List (List E)
 | [] => []
 | .mk _ _ _ ks :: ns => elK ks :: slotsE ns
end
def elM (n : Nd) : E := mrow nMath (elK n.kids)
theorem elE_eq (n : Nd) : elE n = mkE n.kind n.text n.cols (slotsE n.kids) := by cases n; rw [elE]; rfl
theorem elK_map (l : List Nd) : elK l = l.map elE := by
 induction l with
 | nil => rw [elK]; rfl
 | cons x l ih => rw [elK, ih]; rfl
theorem slotsE_map (l : List Nd) : slotsE l = l.map fun n => elK n.kids := by
 induction l with
 | nil => rw [slotsE]; rfl
 | cons x l ih => cases x; rw [slotsE, ih]; rfl
end Go.Proofs.YtnbeemkfmlfgfaaGreatDoor.El
namespace Go.Proofs.YtnbeemkfmlfgfaaGreatDoor
open Go.RowKit
theorem or32_256 : ∀ n : Fin 256, bits BinOp.or IntKind.u8 (n.1 : Int) 32 = ((n.1 ||| 32 : Nat) : Int) := by decide +kernel
theorem or32_is (b : UInt8) : bits BinOp.or IntKind.u8 (b.toNat : Int) 32 = ((b.toNat ||| 32 : Nat) : Int) := or32_256 ⟨b.toNat, b.toNat_lt⟩
theorem or32_l256 : ∀ n : Fin 256, (decide ((97 : Int) ≤ ((n.1 ||| 32 : Nat) : Int)) && decide (((n.1 ||| 32 : Nat) : Int) ≤ (122 : Int))) = El.letter (UInt8.ofNat n.1) := by decide +kernel
theorem or32 (b : UInt8) : (decide ((97 : Int) ≤ ((b.toNat ||| 32 : Nat) : Int)) && decide (((b.toNat ||| 32 : Nat) : Int) ≤ (122 : Int))) = El.letter b := by
 have := or32_l256 ⟨b.toNat, b.toNat_lt⟩;simpa using this
theorem first_byte {s : ByteArray} {b : UInt8} {r : List UInt8} (hs : s.data.toList = b :: r) : s.toList.isEmpty = false ∧ ∃ h : 0 < s.size, s[0] = b := by
 have hl : s.data.toList.length = s.size := by simp
 have hsz : 0 < s.size := by rw [← hl, hs]; simp
 refine ⟨?_, hsz, ?_⟩
 ·rw [ByteArray.toList_eq, hs]; rfl
 ·have : s.data.toList[0]'(by rw [hs]; simp) = b := by simp [hs]
  rw [← this];simp
  rfl
theorem mletter_any (s : ByteArray) (w : World) : Calls Tryz.prog 129 #[.string s] w fun e w' => e = .returned (.bool (El.lett s.data.toList)) ∧ w' = w := by
 cases hs : s.data.toList with
 | nil =>
  have e0 : s.toList.isEmpty = true := by rw [ByteArray.toList_eq, hs]; rfl
  clear hs;go_enter Tryz.func129, Tryz.ntmps129;go_wp2_with fail
  go_ret;exact ⟨rfl, rfl⟩
 | cons b r =>
  obtain ⟨e0, hsz, hb⟩ := first_byte hs;clear hs;have hx : bits BinOp.or IntKind.u8 ((s[0]'hsz).toNat : Int) 32 = ((b.toNat ||| 32 : Nat) : Int) := by rw [hb]; exact or32_is b
  clear hb;have hl := or32 b;show Calls _ _ _ _ fun e w' => e = .returned (.bool (El.letter b)) ∧ w' = w
  rw [← hl];clear hl;cases h1 : decide ((97 : Int) ≤ ((b.toNat ||| 32 : Nat) : Int)) with
  | false =>
   have h1n : decide (97 ≤ b.toNat ||| 32) = false := by have hx := h1; simp only [decide_eq_false_iff_not] at hx ⊢; omega
   go_enter Tryz.func129, Tryz.ntmps129;go_wp2_with fail
   go_ret;exact ⟨rfl, rfl⟩
  | true =>
   have h1n : decide (97 ≤ b.toNat ||| 32) = true := by have hx := h1; simp only [decide_eq_true_eq] at hx ⊢; omega
   cases h2 : decide (((b.toNat ||| 32 : Nat) : Int) ≤ (122 : Int)) with
   | false =>
    have h2n : decide (b.toNat ||| 32 ≤ 122) = false := by have hx := h2; simp only [decide_eq_false_iff_not] at hx ⊢; omega
    go_enter Tryz.func129, Tryz.ntmps129;go_wp2_with fail
    go_ret;exact ⟨rfl, rfl⟩
   | true =>
    have h2n : decide (b.toNat ||| 32 ≤ 122) = true := by have hx := h2; simp only [decide_eq_true_eq] at hx ⊢; omega
    go_enter Tryz.func129, Tryz.ntmps129;go_wp2_with fail
    go_ret;exact ⟨rfl, rfl⟩
def letts (s : List UInt8) : Bool := decide (1 < s.length) || (s.length == 1 && El.lett s)
theorem rletters_any (s : ByteArray) (w : World) : Calls Tryz.prog 118 #[.string s] w fun e w' => e = .returned (.bool (letts s.data.toList)) ∧ w' = w := by
 have hl : s.data.toList.length = s.size := by simp
 unfold letts;rw [hl]
 by_cases c1 : 1 < s.size
 ·have d1 : decide ((1 : Int) < (s.size : Int)) = true := dT (by omega)
  have d1n : decide (1 < s.size) = true := dT c1;rw [d1n];go_enter Tryz.func118, Tryz.ntmps118;go_wp2_with fail
  go_ret;exact ⟨rfl, rfl⟩
 ·have d1 : decide ((1 : Int) < (s.size : Int)) = false := dF (by omega)
  have d1n : decide (1 < s.size) = false := dF c1;rw [d1n];cases hs : s.data.toList with
  | nil =>
   have hz : s.size = 0 := by rw [← hl, hs]; rfl
   have d2 : ((s.size : Int) == (1 : Int)) = false := by rw [hz]; rfl
   have d2n : (s.size == 1) = false := by rw [hz]; rfl
   rw [d2n];clear hs hl hz;go_enter Tryz.func118, Tryz.ntmps118;go_wp2_with fail
   go_ret;exact ⟨rfl, rfl⟩
  | cons b r =>
   obtain ⟨_, hsz, hb⟩ := first_byte hs;have hz : s.size = 1 := by omega
   have d2 : ((s.size : Int) == (1 : Int)) = true := by rw [hz]; rfl
   have d2n : (s.size == 1) = true := by rw [hz]; rfl
   rw [d2n];clear hs hl hz;have HB := hid hb;have HL := hid (fun w => letter_byte (s[0]'hsz) w);clear hb;go_enter Tryz.func118, Tryz.ntmps118;go_wp2_with fail
   refine (HL.out _).mono ?_;rintro _ w' ⟨rfl, hw⟩;subst hw;go_wp2_with fail
   go_ret;exact ⟨ret_bool (by rw [HB.out]; rfl), rfl⟩
theorem inner_256 : ∀ n : Fin 256, El.inner (UInt8.ofNat n.1) = (El.letter (UInt8.ofNat n.1) || (decide ((48 : Int) ≤ (n.1 : Int)) && decide ((n.1 : Int) ≤ (57 : Int))) || ((n.1 : Int) == (45 : Int))) := by decide +kernel
theorem inner_or (b : UInt8) : El.inner b = (El.letter b || (decide ((48 : Int) ≤ (b.toNat : Int)) && decide ((b.toNat : Int) ≤ (57 : Int))) || ((b.toNat : Int) == (45 : Int))) := by
 have := inner_256 ⟨b.toNat, b.toNat_lt⟩;simpa using this
theorem prin_256 : ∀ n : Fin 256, El.printable (UInt8.ofNat n.1) = (decide ((32 : Int) ≤ (n.1 : Int)) && decide ((n.1 : Int) ≤ (126 : Int))) := by decide +kernel
theorem prin_or (b : UInt8) : El.printable b = (decide ((32 : Int) ≤ (b.toNat : Int)) && decide ((b.toNat : Int) ≤ (126 : Int))) := by
 have := prin_256 ⟨b.toNat, b.toNat_lt⟩;simpa using this
theorem xletter_byte (b : UInt8) (w : World) : Calls Tryz.prog 165 #[.int .u8 (b.toNat : Int)] w fun e w' => e = .returned (.bool (El.letter b)) ∧ w' = w := by
 have hx := or32_is b;rw [← or32 b];cases h1 : decide ((97 : Int) ≤ ((b.toNat ||| 32 : Nat) : Int)) with
 | false =>
  have h1n : decide (97 ≤ b.toNat ||| 32) = false := by have hx := h1; simp only [decide_eq_false_iff_not] at hx ⊢; omega
  go_enter Tryz.func165, Tryz.ntmps165;go_wp2_with fail
  go_ret;exact ⟨rfl, rfl⟩
 | true =>
  have h1n : decide (97 ≤ b.toNat ||| 32) = true := by have hx := h1; simp only [decide_eq_true_eq] at hx ⊢; omega
  cases h2 : decide (((b.toNat ||| 32 : Nat) : Int) ≤ (122 : Int)) with
  | false =>
   have h2n : decide (b.toNat ||| 32 ≤ 122) = false := by have hx := h2; simp only [decide_eq_false_iff_not] at hx ⊢; omega
   go_enter Tryz.func165, Tryz.ntmps165;go_wp2_with fail
   go_ret;exact ⟨rfl, rfl⟩
  | true =>
   have h2n : decide (b.toNat ||| 32 ≤ 122) = true := by have hx := h2; simp only [decide_eq_true_eq] at hx ⊢; omega
   go_enter Tryz.func165, Tryz.ntmps165;go_wp2_with fail
   go_ret;exact ⟨rfl, rfl⟩
theorem xinname_byte (b : UInt8) (w : World) : Calls Tryz.prog 179 #[.int .u8 (b.toNat : Int)] w fun e w' => e = .returned (.bool (El.inner b)) ∧ w' = w := by
 go_enter Tryz.func179, Tryz.ntmps179;go_wp2_with fail
 refine Calls.mono (xletter_byte b _) ?_;rintro _ w1q ⟨rfl, hqw1⟩;replace hqw1 := hqw1.symm;subst hqw1;cases h1 : (El.letter b) with
 | false =>
  cases h2 : decide ((48 : Int) ≤ (b.toNat : Int)) with
  | false =>
   have h2n : decide (48 ≤ b.toNat) = false := by have hx := h2; simp only [decide_eq_false_iff_not] at hx ⊢; omega
   cases h3 : ((b.toNat : Int) == (45 : Int)) with
   | false =>
    have h3m : ((b.toNat : Int) != (45 : Int)) = true := by rw [bne, h3]; rfl
    go_wp2_with fail
    go_ret;exact ⟨ret_bool' _ _ (by rw [inner_or]; simp only [*] <;> rfl), rfl⟩
   | true =>
    have h3m : ((b.toNat : Int) != (45 : Int)) = false := by rw [bne, h3]; rfl
    go_wp2_with fail
    go_ret;exact ⟨ret_bool' _ _ (by rw [inner_or]; simp only [*] <;> rfl), rfl⟩
  | true =>
   have h2n : decide (48 ≤ b.toNat) = true := by have hx := h2; simp only [decide_eq_true_eq] at hx ⊢; omega
   cases h4 : decide ((b.toNat : Int) ≤ (57 : Int)) with
   | false =>
    have h4n : decide (b.toNat ≤ 57) = false := by have hx := h4; simp only [decide_eq_false_iff_not] at hx ⊢; omega
    cases h5 : ((b.toNat : Int) == (45 : Int)) with
    | false =>
     have h5m : ((b.toNat : Int) != (45 : Int)) = true := by rw [bne, h5]; rfl
     go_wp2_with fail
     go_ret;exact ⟨ret_bool' _ _ (by rw [inner_or]; simp only [*] <;> rfl), rfl⟩
    | true =>
     have h5m : ((b.toNat : Int) != (45 : Int)) = false := by rw [bne, h5]; rfl
     go_wp2_with fail
     go_ret;exact ⟨ret_bool' _ _ (by rw [inner_or]; simp only [*] <;> rfl), rfl⟩
   | true =>
    have h4n : decide (b.toNat ≤ 57) = true := by have hx := h4; simp only [decide_eq_true_eq] at hx ⊢; omega
    go_wp2_with fail
    go_ret;exact ⟨ret_bool' _ _ (by rw [inner_or]; simp only [*] <;> rfl), rfl⟩
 | true =>
  go_wp2_with fail
  go_ret;exact ⟨ret_bool' _ _ (by rw [inner_or]; simp only [*] <;> rfl), rfl⟩
theorem xprintable_byte (b : UInt8) (w : World) : Calls Tryz.prog 180 #[.int .u8 (b.toNat : Int)] w fun e w' => e = .returned (.bool (El.printable b)) ∧ w' = w := by
 go_enter Tryz.func180, Tryz.ntmps180;cases h6 : decide ((32 : Int) ≤ (b.toNat : Int)) with
 | false =>
  have h6n : decide (32 ≤ b.toNat) = false := by have hx := h6; simp only [decide_eq_false_iff_not] at hx ⊢; omega
  go_wp2_with fail
  go_ret;exact ⟨ret_bool' _ _ (by rw [prin_or]; simp only [*] <;> rfl), rfl⟩
 | true =>
  have h6n : decide (32 ≤ b.toNat) = true := by have hx := h6; simp only [decide_eq_true_eq] at hx ⊢; omega
  cases h7 : decide ((b.toNat : Int) ≤ (126 : Int)) with
  | false =>
   have h7n : decide (b.toNat ≤ 126) = false := by have hx := h7; simp only [decide_eq_false_iff_not] at hx ⊢; omega
   go_wp2_with fail
   go_ret;exact ⟨ret_bool' _ _ (by rw [prin_or]; simp only [*] <;> rfl), rfl⟩
  | true =>
   have h7n : decide (b.toNat ≤ 126) = true := by have hx := h7; simp only [decide_eq_true_eq] at hx ⊢; omega
   go_wp2_with fail
   go_ret;exact ⟨ret_bool' _ _ (by rw [prin_or]; simp only [*] <;> rfl), rfl⟩
theorem xvalue_any (s : ByteArray) (w : World) (hm : s.size ≤ 9223372036854775807) : Calls Tryz.prog 134 #[.string s] w fun e w' => e = .returned (.bool (El.valueOK s.data.toList)) ∧ w' = w := by
 go_enter Tryz.func134, Tryz.ntmps134;go_wp2_with fail
 go_loopw [3] (fun i wr => ∃ j : Nat, i = .int .i64 j ∧ j ≤ s.size ∧ Hid ((s.data.toList.take j).all El.printable = true) ∧ wr = w) (fun i _ => s.size - (intOf i).toNat)
 case atStart => exact ⟨0, rfl, Nat.zero_le _, by simp [Hid], rfl⟩
 case round =>
  obtain ⟨j, rfl, hj, HA, rfl⟩ := hrel
  by_cases c1 : j < s.size
  ·have d1 : decide ((j : Int) < (s.size : Int)) = true := by simp; omega
   have d1' : (j : Int) < (s.size : Int) := by omega
   obtain ⟨b, hb⟩ : ∃ b, s[j]'c1 = b := ⟨_, rfl⟩;have hst := all_snoc' s.data.toList j (by simpa using c1) El.printable;have hno := all_no s.data.toList j (by simpa using c1) El.printable;have hbl : s.data.toList[j]'(by simpa using c1) = b := hb;rw [hbl] at hst hno;have HS := hid hst;have HN := hid hno;clear hst hno hbl;go_wp2_with fail
   refine Calls.mono (xprintable_byte b _) ?_;rintro _ w2q ⟨rfl, hqw2⟩;replace hqw2 := hqw2.symm;subst hqw2;cases h8 : (El.printable b) with
   | false =>
    go_wp2_with fail
    go_ret;exact ⟨ret_bool' _ _ (by unfold El.valueOK; rw [HN.out (by assumption)]; rfl), rfl⟩
   | true =>
    go_wp2_with fail
    go_roundw
    case rel => exact ⟨j + 1, by go_num, c1, by unfold Hid; rw [HS.out, HA.out]; simp_all, trivial⟩
    case measure => simp [intOf]; omega
  ·have d1 : decide ((j : Int) < (s.size : Int)) = false := by simp; omega
   go_wp2_with fail
   go_ret;exact ⟨ret_bool' _ _ (by unfold El.valueOK; rw [all_end s El.printable j hj c1 HA.out]; rw [show s.data.toList.length = s.size by simp, Bool.eq_iff_iff]; simp; omega), rfl⟩
theorem nameOK_in (s : List UInt8) (h : s.all El.inner = false) : El.nameOK s = false := by
 cases s with
 | nil => rfl
 | cons b r =>
  rw [List.all_cons] at h;show (El.letter b && r.all El.inner) = false;cases hl : El.letter b with
  | false => rfl
  | true =>
   have : El.inner b = true := by unfold El.inner; rw [hl]; rfl
   rw [this, Bool.true_and] at h;rw [h]; rfl
theorem letter_inner (b : UInt8) (h : El.letter b = true) : El.inner b = true := by unfold El.inner; rw [h]; rfl
theorem nameOK_of (s : List UInt8) (h : s.all El.inner = true) : El.nameOK s = El.lett s := by
 cases s with
 | nil => rfl
 | cons b r =>
  rw [List.all_cons, Bool.and_eq_true] at h;show (El.letter b && r.all El.inner) = El.letter b;rw [h.2, Bool.and_true]
theorem xname_any (s : ByteArray) (w : World) (hm : s.size ≤ 9223372036854775807) : Calls Tryz.prog 133 #[.string s] w fun e w' => e = .returned (.bool (El.nameOK s.data.toList)) ∧ w' = w := by
 go_enter Tryz.func133, Tryz.ntmps133;go_wp2_with fail
 go_loopw [3] (fun i wr => ∃ j : Nat, i = .int .i64 j ∧ j ≤ s.size ∧ Hid ((s.data.toList.take j).all El.inner = true) ∧ wr = w) (fun i _ => s.size - (intOf i).toNat)
 case atStart => exact ⟨0, rfl, Nat.zero_le _, by simp [Hid], rfl⟩
 case round =>
  obtain ⟨j, rfl, hj, HA, rfl⟩ := hrel
  by_cases c1 : j < s.size
  ·have d1 : decide ((j : Int) < (s.size : Int)) = true := by simp; omega
   have d1' : (j : Int) < (s.size : Int) := by omega
   obtain ⟨b, hb⟩ : ∃ b, s[j]'c1 = b := ⟨_, rfl⟩;have hst := all_snoc' s.data.toList j (by simpa using c1) El.inner;have hno := all_no s.data.toList j (by simpa using c1) El.inner;have hbl : s.data.toList[j]'(by simpa using c1) = b := hb;rw [hbl] at hst hno;have HS := hid hst;have HN := hid hno;clear hst hno hbl;go_wp2_with fail
   refine Calls.mono (xinname_byte b _) ?_;rintro _ w3q ⟨rfl, hqw3⟩;replace hqw3 := hqw3.symm;subst hqw3;cases h9 : (El.inner b) with
   | false =>
    go_wp2_with fail
    go_ret;exact ⟨ret_bool' _ _ (by rw [nameOK_in _ (HN.out (by assumption))]), rfl⟩
   | true =>
    go_wp2_with fail
    go_roundw
    case rel => exact ⟨j + 1, by go_num, c1, by unfold Hid; rw [HS.out, HA.out]; simp_all, trivial⟩
    case measure => simp [intOf]; omega
  ·have d1 : decide ((j : Int) < (s.size : Int)) = false := by simp; omega
   have HALL := hid (nameOK_of _ (all_end s El.inner j hj c1 HA.out));cases hs : s.data.toList with
   | nil =>
    have e0 : s.toList.isEmpty = true := by rw [ByteArray.toList_eq, hs]; rfl
    have HALL2 := hid (show El.nameOK s.data.toList = false from by rw [HALL.out, hs]; rfl);clear hs;go_wp2_with fail
    go_ret;exact ⟨ret_bool' _ _ HALL2.out.symm, rfl⟩
   | cons b r =>
    obtain ⟨e0, hsz, hb⟩ := first_byte hs;have HALL2 := hid (show El.nameOK s.data.toList = El.letter b from by rw [HALL.out, hs]; rfl);clear hs;go_wp2_with fail
    refine (xletter_byte b _).mono ?_;rintro _ w1 ⟨rfl, hw1⟩;replace hw1 := hw1.symm;subst hw1;go_wp2_with fail
    go_ret;exact ⟨ret_bool' _ _ HALL2.out.symm, rfl⟩
end Go.Proofs.YtnbeemkfmlfgfaaGreatDoor
