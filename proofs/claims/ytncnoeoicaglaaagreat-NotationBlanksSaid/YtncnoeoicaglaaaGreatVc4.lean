/- Part 4 of 48 of a proof; its texts, joined: NpS, PrE, PrF. No condition. -/
import Derived.Test.YtncnoeoicaglaaaGreatVc3

/- The parser sees no places: tokens alike are read alike, with the same error. -/
namespace Go.Proofs.YtncnoeoicaglaaaGreat.Np
open Lx (PTok)
open Tr (Nd)
def Al (l l' : List PTok) : Prop := l.map Lx.tok = l'.map Lx.tok
def Sim {α : Type} (x y : R α) : Prop :=
 match x, y with
 | .ok a r, .ok a' r' => a = a' ∧ Al r r'
 | .err _ e, .err _ e' => e = e'
 | .out, .out => True
 | _, _ => False
theorem Sim.bind {α β : Type} {x y : R α} {k k' : α → List PTok → R β} (h : Sim x y) (hk : ∀ a r r', Al r r' → Sim (k a r) (k' a r')) : Sim (x.bind k) (y.bind k') := by
 cases x <;> cases y <;> first | exact h.elim | skip
 ·obtain ⟨rfl, hr⟩ := h
  exact hk _ _ _ hr
 ·exact h
 ·trivial
theorem Sim.map {α β : Type} {x y : R α} {k : α → β} (h : Sim x y) : Sim (x.map k) (y.map k) := h.bind fun _ _ _ hr => ⟨rfl, hr⟩
theorem Sim.refuse {α : Type} (en en' : Nat) (l l' : List PTok) : Sim (refuse en l : R α) (refuse en' l') := rfl
theorem Al.nil {l' : List PTok} (h : Al [] l') : l' = [] := by
 cases l' with
 | nil => rfl
 | cons t r => cases h
theorem Al.cons {t : PTok} {r l' : List PTok} (h : Al (t :: r) l') : ∃ t' r', l' = t' :: r' ∧ t.kind = t'.kind ∧ t.text = t'.text ∧ Al r r' := by
 cases l' with
 | nil => cases h
 | cons t' r' =>
  have h1 := List.cons.inj (show Lx.tok t :: r.map Lx.tok = Lx.tok t' :: r'.map Lx.tok from h)
  exact ⟨t', r', rfl, congrArg Lx.Tok.kind h1.1, congrArg Lx.Tok.text h1.1, h1.2⟩
theorem Al.tail {l l' : List PTok} (h : Al l l') : Al l.tail l'.tail := by
 cases l with
 | nil => rw [h.nil]; rfl
 | cons t r => obtain ⟨t', r', rfl, _, _, h⟩ := h.cons; exact h
theorem Al.isM {l l' : List PTok} (h : Al l l') (b : UInt8) : isM b l = isM b l' := by
 cases l with
 | nil => rw [h.nil]
 | cons t r => obtain ⟨t', r', rfl, h1, h2, h⟩ := h.cons; simp only [Np.isM, h1, h2]
theorem Al.isBreak {l l' : List PTok} (h : Al l l') : isBreak l = isBreak l' := by
 cases l with
 | nil => rw [h.nil]
 | cons t r => obtain ⟨t', r', rfl, h1, h2, h⟩ := h.cons; simp only [Np.isBreak, h1]
theorem Al.isEmpty {l l' : List PTok} (h : Al l l') : l.isEmpty = l'.isEmpty := by
 cases l with
 | nil => rw [h.nil]
 | cons t r => obtain ⟨t', r', rfl, h1, h2, h⟩ := h.cons; rfl
theorem Al.stops {l l' : List PTok} (h : Al l l') : stops l = stops l' := by
 unfold Np.stops
 rw [h.isBreak, h.isM, h.isM, h.isM, h.isM]
theorem leafOf_al {t t' : PTok} (h1 : t.kind = t'.kind) (h2 : t.text = t'.text) : leafOf t = leafOf t' := by
 unfold leafOf
 rw [h1, h2]
theorem Sim.scripts (g : Bool) (en en' : Nat) (b : List Nd) (x y : Option Nd) {l l' : List PTok} (h : Al l l') : Sim (scripts g en b x y l) (scripts g en' b x y l') := by
 unfold Np.scripts
 split
 ·exact ⟨rfl, h⟩
 ·exact ⟨rfl, h⟩
 ·exact ⟨rfl, h⟩
 ·split
  ·rfl
  ·exact ⟨rfl, h⟩
theorem Sim.plainName {t t' : PTok} {r r' : List PTok} (h2 : t.text = t'.text) (h : Al r r') : Sim (plainName t r) (plainName t' r') := by
 unfold Np.plainName
 rw [h2]
 split
 ·rfl
 ·exact ⟨rfl, h⟩
structure Alike (en en' f : Nat) : Prop where
 row : ∀ op op' l l', Al l l' → (op = [] ↔ op' = []) → Sim (pRow en f op l) (pRow en' f op' l')
 within : ∀ b op op' l l', Al l l' → Sim (pIn en f b op l) (pIn en' f b op' l')
 arg : ∀ op op' l l', Al l l' → Sim (pArg en f op l) (pArg en' f op' l')
 args : ∀ n op op' l l', Al l l' → Sim (pArgs en f n op l) (pArgs en' f n op' l')
 script : ∀ b op op' l l', Al l l' → Sim (pScript en f b op l) (pScript en' f b op' l')
 item : ∀ op op' l l', Al l l' → Sim (pItem en f op l) (pItem en' f op' l')
 prim : ∀ op op' l l', Al l l' → Sim (pPrim en f op l) (pPrim en' f op' l')
 name : ∀ op op' t t' r r', t.text = t'.text → Al r r' → Sim (pName en f op t r) (pName en' f op' t' r')
 cells : ∀ op op' ks b c l l', Al l l' → (op = [] ↔ op' = []) → Sim (pCells en f op ks b c l) (pCells en' f op' ks b c l')
theorem alike (en en' : Nat) : ∀ f, Alike en en' f
 | 0 => by constructor <;> (intros; trivial)
 | f + 1 => by
  have ih := alike en en' f
  constructor
  ·intro op op' l l' h ho
   rw [pRow, pRow, h.isEmpty, h.stops]
   have hc : (l'.isEmpty = true ∧ op ≠ []) ↔ (l'.isEmpty = true ∧ op' ≠ []) := by rw [ne_eq, ne_eq, ho]
   by_cases c1 : l'.isEmpty = true ∧ op' ≠ []
   ·rw [if_pos c1, if_pos (hc.2 c1)]; rfl
   ·rw [if_neg c1, if_neg (fun x => c1 (hc.1 x))]
    split
    ·exact ⟨rfl, h⟩
    ·exact (ih.item op op' l l' h).bind fun a r r' hr => (ih.row op op' r r' hr ho).map
  ·intro b op op' l l' h
   rw [pIn, pIn]
   refine (ih.row _ _ _ _ h.tail (by simp)).bind fun a r r' hr => ?_
   rw [hr.isM]
   split
   ·exact ⟨rfl, hr.tail⟩
   ·rfl
  ·intro op op' l l' h
   cases l with
   | nil => rw [h.nil, pArg, pArg]; rfl
   | cons t r =>
    obtain ⟨t', r', rfl, h1, h2, hr⟩ := h.cons
    rw [pArg, pArg, leafOf_al h1 h2, h.isM, h1, h2]
    split
    ·exact ⟨rfl, hr⟩
    ·split
     ·exact (ih.within 125 op op' _ _ h).map
     ·split
      ·exact (Sim.plainName h2 hr).map
      ·rfl
  ·intro n op op' l l' h
   cases n with
   | zero => rw [pArgs, pArgs]; exact ⟨rfl, h⟩
   | succ n =>
    rw [pArgs, pArgs]
    exact (ih.arg op op' l l' h).bind fun a r r' hr => (ih.args n op op' r r' hr).map
  ·intro b op op' l l' h
   rw [pScript, pScript, h.isM]
   split
   ·exact (ih.arg op op' _ _ h.tail).map
   ·exact ⟨rfl, h⟩
  ·intro op op' l l' h
   rw [pItem, pItem, h.isM]
   refine (ih.prim op op' l l' h).bind fun a r r' hr => (ih.script 95 op op' r r' hr).bind fun sub r r' hr => (ih.script 94 op op' r r' hr).bind fun sup r r' hr => ?_
   split
   ·exact (ih.script 95 op op' r r' hr).bind fun sub r r' hr => Sim.scripts _ _ _ _ _ _ hr
   ·exact Sim.scripts _ _ _ _ _ _ hr
  ·intro op op' l l' h
   cases l with
   | nil => rw [h.nil, pPrim, pPrim]; rfl
   | cons t r =>
    obtain ⟨t', r', rfl, h1, h2, hr⟩ := h.cons
    rw [pPrim, pPrim, leafOf_al h1 h2, h.isM, h.isM, h.isM, h1, h2]
    split
    ·exact ⟨rfl, hr⟩
    ·split
     ·exact ih.name op op' t t' r r' h2 hr
     ·split
      ·exact (ih.args 1 op op' r r' hr).map
      ·split
       ·exact (ih.within 41 op op' _ _ h).map
       ·split
        ·exact (ih.within 93 op op' _ _ h).map
        ·split
         ·exact ih.within 125 op op' _ _ h
         ·rfl
  ·intro op op' t t' r r' h2 h
   rw [pName, pName, h2, h.isM, h.isM]
   split
   ·exact (ih.args 2 op op' r r' h).map
   ·split
    ·split
     ·exact (ih.within 93 op op' r r' h).bind fun d r r' hr => (ih.args 1 op op' r r' hr).map
     ·exact (ih.args 1 op op' r r' h).map
    ·split
     ·split
      ·exact (ih.cells _ _ _ _ _ _ _ h.tail (by simp)).map
      ·rfl
     ·split
      ·exact (ih.args 1 op op' r r' h).map
      ·exact Sim.plainName h2 h
  ·intro op op' ks b c l l' h ho
   rw [pCells, pCells]
   refine (ih.row op op' l l' h ho).bind fun items r r' hr => ?_
   rw [hr.isM, hr.isM, hr.isBreak]
   split
   ·exact ih.cells _ _ _ _ _ _ _ hr.tail ho
   ·split
    ·rfl
    ·split
     ·rfl
     ·split
      ·exact ⟨rfl, hr.tail⟩
      ·exact ih.cells _ _ _ _ _ _ _ hr.tail ho
theorem parseT_alike (en en' : Nat) (l l' : List PTok) (h : Al l l') : Sim (parseT en l) (parseT en' l') := by
 have hl : l.length = l'.length := by
  have := congrArg List.length h
  simpa using this
 unfold parseT
 rw [hl]
 refine ((alike en en' _).row [] [] l l' h Iff.rfl).bind fun a r r' hr => ?_
 rw [hr.isEmpty]
 split
 ·exact ⟨rfl, hr⟩
 ·rfl
end Go.Proofs.YtncnoeoicaglaaaGreat.Np

/- The forms of items; how the tokens of an item begin. -/
namespace Go.Proofs.YtncnoeoicaglaaaGreat.Tr
open Lx (Tok)
def IsRow (a : Nd) : Prop := a.kind = 1 ∧ form a = true
inductive View : Nd → Prop
 | sym (t : Bytes) (h : symbol t = true) : View (.mk 2 t 0 [])
 | num (t : Bytes) (h : isNum t = true) : View (.mk 3 t 0 [])
 | text (t : Bytes) (h : (decide (t.length ≤ 200) && printable t) = true) : View (.mk 4 t 0 [])
 | frac (a b : Nd) (ha : IsRow a) (hb : IsRow b) : View (.mk 5 [] 0 [a, b])
 | root (a b : Nd) (ha : IsRow a) (hb : IsRow b) : View (.mk 6 [] 0 [a, b])
 | sub (a b : Nd) (ha : IsRow a) (hb : IsRow b) : View (.mk 7 [] 0 [a, b])
 | sup (a b : Nd) (ha : IsRow a) (hb : IsRow b) : View (.mk 8 [] 0 [a, b])
 | both (a b d : Nd) (ha : IsRow a) (hb : IsRow b) (hd : IsRow d) : View (.mk 9 [] 0 [a, b, d])
 | accent (t : Bytes) (a : Nd) (h : accents.contains t = true) (ha : IsRow a) : View (.mk 10 t 0 [a])
 | fence (t : Bytes) (a : Nd) (h : Tr.fence t = true) (ha : IsRow a) : View (.mk 11 t 0 [a])
 | matrix (c : Int) (ks : List Nd) (hc : 1 ≤ c) (hn : 1 ≤ ks.length) (hm : (ks.length : Int) % c = 0) (h : ∀ k ∈ ks, IsRow k) : View (.mk 12 [] c ks)
theorem rows_of (l : List Nd) (h : formL false l = true) : ∀ x ∈ l, IsRow x := by
 induction l with
 | nil => intro x hx; cases hx
 | cons y l ih =>
  rw [formL, Bool.and_eq_true, Bool.and_eq_true] at h
  obtain ⟨⟨h1, h2⟩, h3⟩ := h
  intro x hx
  rcases List.mem_cons.1 hx with rfl | hx
  ·exact ⟨by simpa using h1, h2⟩
  ·exact ih h3 x hx
theorem items_of (l : List Nd) (h : formL true l = true) : ∀ x ∈ l, x.kind ≠ 1 ∧ form x = true := by
 induction l with
 | nil => intro x hx; cases hx
 | cons y l ih =>
  rw [formL, Bool.and_eq_true, Bool.and_eq_true] at h
  obtain ⟨⟨h1, h2⟩, h3⟩ := h
  intro x hx
  rcases List.mem_cons.1 hx with rfl | hx
  ·exact ⟨by simpa using h1, h2⟩
  ·exact ih h3 x hx
theorem IsRow.items {a : Nd} (h : IsRow a) : ∀ x ∈ a.kids, x.kind ≠ 1 ∧ form x = true := by
 obtain ⟨h1, h2⟩ := h
 rw [form_eq, h1, Bool.and_eq_true] at h2
 exact items_of _ h2.2
theorem view_of (n : Nd) (hf : form n = true) (hk : n.kind ≠ 1) : View n := by
 obtain ⟨k, t, c, ks⟩ := n
 rw [form, Bool.and_eq_true, Bool.and_eq_true] at hf
 obtain ⟨⟨h1, h2⟩, h3⟩ := hf
 have hk1 : (k == 1) = false := by rw [beq_eq_false_iff_ne]; exact hk
 rw [hk1] at h3
 have hrows := rows_of ks h3
 unfold kidsOK at h2
 unfold textOK at h1
 by_cases e12 : k = 12
 ·subst e12
  simp at h1 h2
  subst h1
  obtain ⟨⟨⟨⟨h4, h5⟩, h6⟩, h7⟩, h8⟩ := h2
  exact .matrix c ks h4 h6 (by omega) hrows
 ·rw [if_neg e12] at h2
  by_cases hc : c = 0
  ·subst hc
   simp only [ne_eq, not_true_eq_false, if_false] at h2
   have hk' : k ≠ 1 := hk
   rw [if_neg hk'] at h2
   by_cases e2 : k = 2
   ·subst e2
    simp at h1 h2
    subst h2
    exact .sym t h1
   ·by_cases e3 : k = 3
    ·subst e3
     simp at h1 h2
     subst h2
     exact .num t h1
    ·by_cases e4 : k = 4
     ·subst e4
      simp at h2
      subst h2
      rw [if_neg (by decide), if_neg (by decide), if_pos rfl] at h1
      exact .text t h1
     ·rw [if_neg (by omega)] at h2
      rw [if_neg e2, if_neg e3, if_neg e4] at h1
      by_cases e10 : k = 10
      ·subst e10
       simp only [if_true] at h1
       rw [if_neg (by decide), if_neg (by decide), if_pos (by decide)] at h2
       match ks, h2, hrows with
       | [a], _, hr => exact .accent t a h1 (hr a (by simp))
      ·by_cases e11 : k = 11
       ·subst e11
        rw [if_neg (by decide), if_pos rfl] at h1
        rw [if_neg (by decide), if_neg (by decide), if_pos (by decide)] at h2
        match ks, h2, hrows with
        | [a], _, hr => exact .fence t a h1 (hr a (by simp))
       ·rw [if_neg e10, if_neg e11] at h1
        have ht : t = [] := by simpa using h1
        subst ht
        by_cases e9 : k = 9
        ·subst e9
         rw [if_neg (by decide), if_pos rfl] at h2
         match ks, h2, hrows with
         | [a, b, d], _, hr => exact .both a b d (hr a (by simp)) (hr b (by simp)) (hr d (by simp))
        ·by_cases e58 : k = 5 ∨ k = 6 ∨ k = 7 ∨ k = 8
         ·rw [if_pos e58] at h2
          match ks, h2, hrows with
          | [a, b], _, hr =>
           have ha := hr a (by simp)
           have hb := hr b (by simp)
           rcases e58 with rfl | rfl | rfl | rfl
           ·exact .frac a b ha hb
           ·exact .root a b ha hb
           ·exact .sub a b ha hb
           ·exact .sup a b ha hb
         ·rw [if_neg e58, if_neg e9, if_neg (by omega)] at h2
          cases h2
  ·rw [if_pos hc] at h2; cases h2
end Go.Proofs.YtncnoeoicaglaaaGreat.Tr

/- The tokens of a tree tell the tree. -/
namespace Go.Proofs.YtncnoeoicaglaaaGreat.Tr
open Lx (Tok)
theorem itemT_sym (t : Bytes) : itemT (.mk 2 t 0 []) = [if t.length = 1 then ⟨1, t⟩ else ⟨4, t⟩] := by rw [itemT] <;> first | rfl | (intros; simp_all)
theorem itemT_num (t : Bytes) : itemT (.mk 3 t 0 []) = [⟨2, t⟩] := by rw [itemT] <;> first | rfl | (intros; simp_all)
theorem itemT_text (t : Bytes) : itemT (.mk 4 t 0 []) = [⟨3, t⟩] := by rw [itemT] <;> first | rfl | (intros; simp_all)
theorem itemT_frac (a b : Nd) : itemT (.mk 5 [] 0 [a, b]) = name sFrac :: (argT a ++ argT b) := by rw [itemT] <;> first | rfl | (intros; simp_all)
theorem itemT_root (a b : Nd) : itemT (.mk 6 [] 0 [a, b]) = name sRoot :: ((if a.kids = [] then [] else mk7 91 :: (rowT a.kids ++ [mk7 93])) ++ argT b) := by rw [itemT] <;> first | rfl | (intros; simp_all)
theorem itemT_sub (a b : Nd) : itemT (.mk 7 [] 0 [a, b]) = baseT a ++ mk7 95 :: argT b := by rw [itemT] <;> first | rfl | (intros; simp_all)
theorem itemT_sup (a b : Nd) : itemT (.mk 8 [] 0 [a, b]) = baseT a ++ mk7 94 :: argT b := by rw [itemT] <;> first | rfl | (intros; simp_all)
theorem itemT_both (a b d : Nd) : itemT (.mk 9 [] 0 [a, b, d]) = baseT a ++ mk7 95 :: (argT b ++ mk7 94 :: argT d) := by rw [itemT] <;> first | rfl | (intros; simp_all)
theorem itemT_accent (t : Bytes) (a : Nd) : itemT (.mk 10 t 0 [a]) = name t :: argT a := by rw [itemT] <;> first | rfl | (intros; simp_all)
theorem itemT_fence (t : Bytes) (a : Nd) : itemT (.mk 11 t 0 [a]) = if t = [40, 41] ∨ t = [91, 93] then mk7 (t.headD 0) :: (rowT a.kids ++ [mk7 (t.getLastD 0)]) else ⟨5, t⟩ :: argT a := by rw [itemT] <;> first | rfl | (intros; simp_all)
theorem itemT_matrix (c : Int) (ks : List Nd) (h : ks ≠ []) : itemT (.mk 12 [] c ks) = name sMatrix :: mk7 123 :: (cellsT c 0 ks ++ [mk7 125]) := by
 match ks, h with
 | [a], _ => rw [itemT] <;> first | rfl | (intros; simp_all)
 | [a, b], _ => rw [itemT] <;> first | rfl | (intros; simp_all)
 | [a, b, d], _ => rw [itemT] <;> first | rfl | (intros; simp_all)
 | a :: b :: d :: e :: l, _ => rw [itemT] <;> first | rfl | (intros; simp_all)
theorem argT_eq (a : Nd) : argT a = match a.kids with | [x] => if leaf x then itemT x else mk7 123 :: (rowT [x] ++ [mk7 125]) | ks => mk7 123 :: (rowT ks ++ [mk7 125]) := by
 obtain ⟨k, t, c, ks⟩ := a
 match ks with
 | [] => rw [argT] <;> first | rfl | (intros; simp_all)
 | [x] => rw [argT]; rfl
 | x :: y :: l => rw [argT] <;> first | rfl | (intros; simp_all)
theorem baseT_eq (a : Nd) : baseT a = match a.kids with | [x] => if scripted x then mk7 123 :: (rowT [x] ++ [mk7 125]) else itemT x | ks => mk7 123 :: (rowT ks ++ [mk7 125]) := by
 obtain ⟨k, t, c, ks⟩ := a
 match ks with
 | [] => rw [baseT] <;> first | rfl | (intros; simp_all)
 | [x] => rw [baseT]; rfl
 | x :: y :: l => rw [baseT] <;> first | rfl | (intros; simp_all)
theorem rowT_cons (n : Nd) (ns : List Nd) : rowT (n :: ns) = itemT n ++ rowT ns := by rw [rowT]
theorem rowT_nil : rowT [] = [] := by rw [rowT]
theorem start_noScript (x : Tok) (r : List Tok) (h : startTok x = true) : noScript (x :: r) := by
 refine ⟨expect_other _ _ _ ?_, expect_other _ _ _ ?_⟩ <;> (rintro rfl; revert h; decide)
theorem IsRow.views {a : Nd} (h : IsRow a) : ∀ x ∈ a.kids, View x := fun x hx => view_of x (h.items x hx).2 (h.items x hx).1
theorem base_start (a : Nd) (ha : IsRow a) (ih : ∀ x ∈ a.kids, View x → ∃ t r, itemT x = t :: r ∧ startTok t = true) : ∃ t r, baseT a = t :: r ∧ startTok t = true := by
 rw [baseT_eq]
 have hv := ha.views
 split
 ·rename_i x hx
  split
  ·exact ⟨mk7 123, _, rfl, rfl⟩
  ·exact ih x (by rw [hx]; simp) (hv x (by rw [hx]; simp))
 ·exact ⟨mk7 123, _, rfl, rfl⟩
theorem item_start (n : Nd) : View n → ∃ t r, itemT n = t :: r ∧ startTok t = true := by
 have : ∀ m n, count n ≤ m → View n → ∃ t r, itemT n = t :: r ∧ startTok t = true := by
  intro m
  induction m with
  | zero => intro n h; have := count_pos n; omega
  | succ m ih =>
   intro n hc v
   have hb : ∀ (k : Int) (t : Bytes) (c : Int) (a : Nd) (l : List Nd), n = .mk k t c (a :: l) → IsRow a → ∃ t r, baseT a = t :: r ∧ startTok t = true := fun k t c a l e ha => base_start a ha fun x hx vx => ih x (by
    have h1 := count_mem hx
    have h2 := count_kids a
    rw [e, count, countL] at hc
    omega) vx
   cases v with
   | sym t h => rw [itemT_sym]; by_cases hl : t.length = 1 <;> simp only [hl, if_true, if_false] <;> exact ⟨_, _, rfl, rfl⟩
   | num t h => rw [itemT_num]; exact ⟨_, _, rfl, rfl⟩
   | text t h => rw [itemT_text]; exact ⟨_, _, rfl, rfl⟩
   | frac a b ha hb => rw [itemT_frac]; exact ⟨_, _, rfl, rfl⟩
   | root a b ha hb => rw [itemT_root]; exact ⟨_, _, rfl, rfl⟩
   | sub a b ha hb' =>
    rw [itemT_sub]
    obtain ⟨x, r, e, h⟩ := hb _ _ _ a _ rfl ha
    rw [e]; exact ⟨x, _, rfl, h⟩
   | sup a b ha hb' =>
    rw [itemT_sup]
    obtain ⟨x, r, e, h⟩ := hb _ _ _ a _ rfl ha
    rw [e]; exact ⟨x, _, rfl, h⟩
   | both a b d ha hb' hd =>
    rw [itemT_both]
    obtain ⟨x, r, e, h⟩ := hb _ _ _ a _ rfl ha
    rw [e]; exact ⟨x, _, rfl, h⟩
   | accent t a h ha => rw [itemT_accent]; exact ⟨_, _, rfl, rfl⟩
   | fence t a h ha =>
    rw [itemT_fence]
    split
    ·rename_i ht
     rcases ht with rfl | rfl <;> exact ⟨_, _, rfl, rfl⟩
    ·exact ⟨_, _, rfl, rfl⟩
   | matrix c ks hc hn hm h =>
    rw [itemT_matrix c ks (by rintro rfl; simp at hn)]; exact ⟨_, _, rfl, rfl⟩
 exact this _ n (Nat.le_refl _)
theorem row_noScript (ks : List Nd) (hk : ∀ x ∈ ks, View x) (r : List Tok) (hr : noScript r) : noScript (rowT ks ++ r) := by
 cases ks with
 | nil => rw [rowT_nil]; exact hr
 | cons x ks =>
  obtain ⟨t, r', e, h⟩ := item_start x (hk x (by simp))
  rw [rowT_cons, e]
  exact start_noScript t _ h
structure PU (m : Nat) : Prop where
 item : ∀ n, count n ≤ m → View n → ∀ r, noScript r → Ev fun f => pItem f (itemT n ++ r) = some (n, r)
 base : ∀ n, count n ≤ m → View n → scripted n = false → ∀ r, Ev fun f => pBase f (itemT n ++ r) = some ([n], r)
theorem PU.row {m : Nat} (h : PU m) : ∀ ks, (∀ x ∈ ks, View x ∧ count x ≤ m) → ∀ r, stop r → Ev fun f => pRow f (rowT ks ++ r) = some (ks, r)
 | [], _, r, hr => Ev.succ (Ev.of fun f => by rw [rowT_nil, List.nil_append, pRow, if_neg (by rw [hr.1]; decide)])
 | x :: ks, hk, r, hr => by
  obtain ⟨hv, hc⟩ := hk x (by simp)
  have ih := PU.row h ks (fun y hy => hk y (by simp [hy])) r hr
  have hns : noScript (rowT ks ++ r) := row_noScript ks (fun y hy => (hk y (by simp [hy])).1) r hr.2
  refine Ev.succ (((h.item x hc hv _ hns).and ih).mono fun f ⟨h1, h2⟩ => ?_)
  obtain ⟨t, r', e, hs⟩ := item_start x hv
  have hst : starts (itemT x ++ (rowT ks ++ r)) = true := by rw [e]; exact hs
  rw [rowT_cons, List.append_assoc, pRow, if_pos hst, h1]
  simp [h2]
end Go.Proofs.YtncnoeoicaglaaaGreat.Tr
