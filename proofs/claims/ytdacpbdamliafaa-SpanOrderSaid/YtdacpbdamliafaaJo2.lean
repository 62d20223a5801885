/- Part 2 of 11 of a proof; its texts, joined: PrM, PrD, PrE, PrF, SnM, SnL, Row, TrR, NdA, NdB, NdC, NdD, NdE, PrA. No condition. -/
import Derived.Test.YtdacpbdamliafaaJo1
import Derived.Test.YtdacpbdamliafaaRows
import Derived.ProofKit
import Derived.ChangeMaps5
import Derived.WideKeyArgs
import Derived.Lib.SmallJoins
import Derived.Test.YtdacpbdamliafaaShelf
import Derived.Laws.Rows

/- The tokens of a formula tree, and that they tell the tree: no program in sight. -/
namespace Go.Proofs.Ytdacpbdamliafaa.Tr
open Lx (Tok)

def mk7 (b : UInt8) : Tok := ⟨7, [b]⟩
def name (s : Bytes) : Tok := ⟨4, s⟩
def sFrac : Bytes := [102, 114, 97, 99]
def sRoot : Bytes := [114, 111, 111, 116]
def sMatrix : Bytes := [109, 97, 116, 114, 105, 120]
def leaf (n : Nd) : Bool := (n.kind == 2) || (n.kind == 3) || (n.kind == 4)
def scripted (n : Nd) : Bool := (n.kind == 7) || (n.kind == 8) || (n.kind == 9)

mutual
/-- The tokens of an item. -/
def itemT : Nd → List Tok
  | .mk k t c ks =>
    if k = 2 then [if t.length = 1 then ⟨1, t⟩ else ⟨4, t⟩]
    else if k = 3 then [⟨2, t⟩]
    else if k = 4 then [⟨3, t⟩]
    else match ks with
      | [a] =>
        if k = 10 then name t :: argT a
        else if k = 11 then (if t = [40, 41] ∨ t = [91, 93] then mk7 (t.headD 0) :: (rowT a.kids ++ [mk7 (t.getLastD 0)]) else ⟨5, t⟩ :: argT a)
        else if k = 12 then name sMatrix :: mk7 123 :: (cellsT c 0 [a] ++ [mk7 125])
        else []
      | [a, b] =>
        if k = 5 then name sFrac :: (argT a ++ argT b)
        else if k = 6 then name sRoot :: ((if a.kids = [] then [] else mk7 91 :: (rowT a.kids ++ [mk7 93])) ++ argT b)
        else if k = 7 then baseT a ++ mk7 95 :: argT b
        else if k = 8 then baseT a ++ mk7 94 :: argT b
        else if k = 12 then name sMatrix :: mk7 123 :: (cellsT c 0 [a, b] ++ [mk7 125])
        else []
      | [a, b, d] =>
        if k = 9 then baseT a ++ mk7 95 :: (argT b ++ mk7 94 :: argT d)
        else if k = 12 then name sMatrix :: mk7 123 :: (cellsT c 0 [a, b, d] ++ [mk7 125])
        else []
      | ks => if k = 12 then name sMatrix :: mk7 123 :: (cellsT c 0 ks ++ [mk7 125]) else []
  termination_by n => 2 * count n
  decreasing_by all_goals (simp only [count_kids, countL, Nd.kids]; omega)
/-- The tokens of a row as an argument. -/
def argT : Nd → List Tok
  | .mk _ _ _ ks => match ks with
    | [x] => if leaf x then itemT x else mk7 123 :: (rowT [x] ++ [mk7 125])
    | ks => mk7 123 :: (rowT ks ++ [mk7 125])
  termination_by n => 2 * count n + 1
  decreasing_by all_goals (simp only [count_kids, countL, Nd.kids]; omega)
/-- The tokens of a row as the base of scripts. -/
def baseT : Nd → List Tok
  | .mk _ _ _ ks => match ks with
    | [x] => if scripted x then mk7 123 :: (rowT [x] ++ [mk7 125]) else itemT x
    | ks => mk7 123 :: (rowT ks ++ [mk7 125])
  termination_by n => 2 * count n + 1
  decreasing_by all_goals (simp only [count_kids, countL, Nd.kids]; omega)
/-- The tokens of a row. -/
def rowT : List Nd → List Tok
  | [] => []
  | n :: ns => itemT n ++ rowT ns
  termination_by ns => 2 * countL ns + 1
  decreasing_by all_goals (simp only [count_kids, countL, Nd.kids]; omega)
/-- The tokens of the cells of a matrix. -/
def cellsT (c : Int) : Nat → List Nd → List Tok
  | _, [] => []
  | i, n :: ns => (if i = 0 then [] else if (i : Int) % c = 0 then [⟨8, [92, 92]⟩] else [mk7 38]) ++ (rowT n.kids ++ cellsT c (i + 1) ns)
  termination_by _ ns => 2 * countL ns + 1
  decreasing_by all_goals (simp only [count_kids, countL, Nd.kids]; omega)
end
end Go.Proofs.Ytdacpbdamliafaa.Tr

/- A reader of the tokens of a tree: the tokens tell the tree. No program in sight. -/
namespace Go.Proofs.Ytdacpbdamliafaa.Tr
open Lx (Tok)

def row (ks : List Nd) : Nd := .mk 1 [] 0 ks
def expect (t : Tok) : List Tok → Option (List Tok)
  | x :: r => if x = t then some r else none
  | [] => none
def startTok (x : Tok) : Bool := (x.kind == 1) || (x.kind == 2) || (x.kind == 3) || (x.kind == 4) || (x.kind == 5) || (x.kind == 7 && (x.text == [40] || x.text == [91] || x.text == [123]))
def starts : List Tok → Bool
  | x :: _ => startTok x
  | [] => false
/-- Which of n cells end a line of c. -/
def ends (c : Int) (n : Nat) : List Bool := (List.range n).map fun (i : Nat) => decide (((i : Int) + 1) % c = 0)
/-- A name that stands for a symbol. -/
def plainN (t : Bytes) : Bool := !(t.length == 1) && !(t == sFrac) && !(t == sRoot) && !(t == sMatrix) && !(accents.contains t)
/-- A brace comes first. -/
def groupAt : List Tok → Bool
  | x :: _ => decide (x = mk7 123)
  | [] => false
/-- How many columns there are: the cells up to the first that ends a line. -/
def colsOf : List (Nd × Bool) → Int
  | [] => 0
  | (_, b) :: l => if b then 1 else 1 + colsOf l

mutual
def pArg : Nat → List Tok → Option (Nd × List Tok)
  | f + 1, x :: r =>
    if x.kind = 1 ∨ (x.kind = 4 ∧ plainN x.text = true) then some (row [.mk 2 x.text 0 []], r)
    else if x.kind = 2 then some (row [.mk 3 x.text 0 []], r)
    else if x.kind = 3 then some (row [.mk 4 x.text 0 []], r)
    else if x = mk7 123 then (pRow f r).bind fun p => (expect (mk7 125) p.2).map fun r' => (row p.1, r')
    else none
  | _, _ => none
def pBase : Nat → List Tok → Option (List Nd × List Tok)
  | f + 1, x :: r =>
    if x.kind = 1 then some ([.mk 2 x.text 0 []], r)
    else if x.kind = 2 then some ([.mk 3 x.text 0 []], r)
    else if x.kind = 3 then some ([.mk 4 x.text 0 []], r)
    else if x.kind = 5 then (pArg f r).map fun p => ([.mk 11 x.text 0 [p.1]], p.2)
    else if x.kind = 4 then
      if x.text = sFrac then (pArg f r).bind fun p => (pArg f p.2).map fun q => ([.mk 5 [] 0 [p.1, q.1]], q.2)
      else if x.text = sRoot then
        match expect (mk7 91) r with
        | some r1 => (pRow f r1).bind fun p => (expect (mk7 93) p.2).bind fun r2 => (pArg f r2).map fun q => ([.mk 6 [] 0 [row p.1, q.1]], q.2)
        | none => (pArg f r).map fun q => ([.mk 6 [] 0 [row [], q.1]], q.2)
      else if x.text = sMatrix then (expect (mk7 123) r).bind fun r1 => (pCells f r1).bind fun p => (expect (mk7 125) p.2).bind fun r2 => if p.1.map (·.2) = ends (colsOf p.1) p.1.length then some ([.mk 12 [] (colsOf p.1) (p.1.map (·.1))], r2) else none
      else if accents.contains x.text then (pArg f r).map fun p => ([.mk 10 x.text 0 [p.1]], p.2)
      else if x.text.length = 1 then none else some ([.mk 2 x.text 0 []], r)
    else if x = mk7 40 then (pRow f r).bind fun p => (expect (mk7 41) p.2).map fun r' => ([.mk 11 [40, 41] 0 [row p.1]], r')
    else if x = mk7 91 then (pRow f r).bind fun p => (expect (mk7 93) p.2).map fun r' => ([.mk 11 [91, 93] 0 [row p.1]], r')
    else if x = mk7 123 then (pRow f r).bind fun p => (expect (mk7 125) p.2).map fun r' => (p.1, r')
    else none
  | _, _ => none
def pItem : Nat → List Tok → Option (Nd × List Tok)
  | f + 1, ts => (pBase f ts).bind fun p =>
    match expect (mk7 95) p.2 with
    | some r1 => (pArg f r1).bind fun q =>
      match expect (mk7 94) q.2 with
      | some r2 => (pArg f r2).map fun s => (.mk 9 [] 0 [row p.1, q.1, s.1], s.2)
      | none => some (.mk 7 [] 0 [row p.1, q.1], q.2)
    | none =>
      match expect (mk7 94) p.2 with
      | some r1 => (pArg f r1).map fun q => (.mk 8 [] 0 [row p.1, q.1], q.2)
      | none => match p.1 with
        | [u] => if groupAt ts then none else some (u, p.2)
        | _ => none
  | 0, _ => none
def pRow : Nat → List Tok → Option (List Nd × List Tok)
  | f + 1, ts => if starts ts then (pItem f ts).bind fun p => (pRow f p.2).map fun q => (p.1 :: q.1, q.2) else some ([], ts)
  | 0, _ => none
def pCells : Nat → List Tok → Option (List (Nd × Bool) × List Tok)
  | f + 1, ts => (pRow f ts).bind fun p =>
    match expect (mk7 38) p.2 with
    | some r => (pCells f r).map fun q => ((row p.1, false) :: q.1, q.2)
    | none =>
      match expect ⟨8, [92, 92]⟩ p.2 with
      | some r => (pCells f r).map fun q => ((row p.1, true) :: q.1, q.2)
      | none => some ([(row p.1, true)], p.2)
  | 0, _ => none
end

def noScript (r : List Tok) : Prop := expect (mk7 95) r = none ∧ expect (mk7 94) r = none
def stop (r : List Tok) : Prop := starts r = false ∧ noScript r

theorem expect_same (t : Tok) (r : List Tok) : expect t (t :: r) = some r := by simp [expect]
theorem expect_other (t x : Tok) (r : List Tok) (h : x ≠ t) : expect t (x :: r) = none := by simp [expect, h]

/-- From some fuel on. -/
def Ev (p : Nat → Prop) : Prop := ∃ F, ∀ f, F ≤ f → p f
theorem Ev.of {p : Nat → Prop} (h : ∀ f, p f) : Ev p := ⟨0, fun f _ => h f⟩
theorem Ev.and {p q : Nat → Prop} (h : Ev p) (k : Ev q) : Ev fun f => p f ∧ q f := by
  obtain ⟨F, h⟩ := h
  obtain ⟨G, k⟩ := k
  exact ⟨max F G, fun f hf => ⟨h f (by omega), k f (by omega)⟩⟩
theorem Ev.mono {p q : Nat → Prop} (h : Ev p) (k : ∀ f, p f → q f) : Ev q := by
  obtain ⟨F, h⟩ := h
  exact ⟨F, fun f hf => k f (h f hf)⟩
theorem Ev.succ {p : Nat → Prop} (h : Ev fun f => p (f + 1)) : Ev p := by
  obtain ⟨F, h⟩ := h
  refine ⟨F + 1, fun f hf => ?_⟩
  obtain ⟨g, rfl⟩ : ∃ g, f = g + 1 := ⟨f - 1, by omega⟩
  exact h g (by omega)

theorem row_eq (a : Nd) (h1 : a.kind = 1) (h2 : form a = true) : a = row a.kids := by
  rw [form_eq, Bool.and_eq_true, Bool.and_eq_true] at h2
  obtain ⟨⟨h3, h4⟩, _⟩ := h2
  rw [h1] at h3 h4
  have h5 : a.text = [] := by
    unfold textOK at h3
    simpa using h3
  have h6 : a.cols = 0 := by
    unfold kidsOK at h4
    rw [if_neg (by decide)] at h4
    split at h4
    · cases h4
    · rename_i hc; simpa using hc
  have := Nd.eta a
  rw [h1, h5, h6] at this
  exact this
end Go.Proofs.Ytdacpbdamliafaa.Tr

/- The forms of items; how the tokens of an item begin. -/
namespace Go.Proofs.Ytdacpbdamliafaa.Tr
open Lx (Tok)

def IsRow (a : Nd) : Prop := a.kind = 1 ∧ form a = true
inductive View : Nd → Prop
  | sym (t : Bytes) (h : symbol t = true) : View (.mk 2 t 0 [])
  | num (t : Bytes) (h : isNum t = true) : View (.mk 3 t 0 [])
  | text (t : Bytes) (h : (decide (t.length ≤ 200) && printable t) = true) : View (.mk 4 t 0 [])
  | frac (a b : Nd) (ha : IsRow a) (hb : IsRow b) : View (.mk 5 [] 0 [a, b])
  | root (a b : Nd) (ha : IsRow a) (hb : IsRow b) : View (.mk 6 [] 0 [a, b])
  | sub (a b : Nd) (ha : IsRow a) (hb : IsRow b) : View (.mk 7 [] 0 [a, b])
  | sup (a b : Nd) (ha : IsRow a) (hb : IsRow b) : View (.mk 8 [] 0 [a, b])
  | both (a b d : Nd) (ha : IsRow a) (hb : IsRow b) (hd : IsRow d) : View (.mk 9 [] 0 [a, b, d])
  | accent (t : Bytes) (a : Nd) (h : accents.contains t = true) (ha : IsRow a) : View (.mk 10 t 0 [a])
  | fence (t : Bytes) (a : Nd) (h : Tr.fence t = true) (ha : IsRow a) : View (.mk 11 t 0 [a])
  | matrix (c : Int) (ks : List Nd) (hc : 1 ≤ c) (hn : 1 ≤ ks.length) (hm : (ks.length : Int) % c = 0) (h : ∀ k ∈ ks, IsRow k) : View (.mk 12 [] c ks)

theorem rows_of (l : List Nd) (h : formL false l = true) : ∀ x ∈ l, IsRow x := by
  induction l with
  | nil => intro x hx; cases hx
  | cons y l ih =>
    rw [formL, Bool.and_eq_true, Bool.and_eq_true] at h
    obtain ⟨⟨h1, h2⟩, h3⟩ := h
    intro x hx
    rcases List.mem_cons.1 hx with rfl | hx
    · exact ⟨by simpa using h1, h2⟩
    · exact ih h3 x hx
theorem items_of (l : List Nd) (h : formL true l = true) : ∀ x ∈ l, x.kind ≠ 1 ∧ form x = true := by
  induction l with
  | nil => intro x hx; cases hx
  | cons y l ih =>
    rw [formL, Bool.and_eq_true, Bool.and_eq_true] at h
    obtain ⟨⟨h1, h2⟩, h3⟩ := h
    intro x hx
    rcases List.mem_cons.1 hx with rfl | hx
    · exact ⟨by simpa using h1, h2⟩
    · exact ih h3 x hx
theorem IsRow.items {a : Nd} (h : IsRow a) : ∀ x ∈ a.kids, x.kind ≠ 1 ∧ form x = true := by
  obtain ⟨h1, h2⟩ := h
  rw [form_eq, h1, Bool.and_eq_true] at h2
  exact items_of _ h2.2

theorem view_of (n : Nd) (hf : form n = true) (hk : n.kind ≠ 1) : View n := by
  obtain ⟨k, t, c, ks⟩ := n
  rw [form, Bool.and_eq_true, Bool.and_eq_true] at hf
  obtain ⟨⟨h1, h2⟩, h3⟩ := hf
  have hk1 : (k == 1) = false := by rw [beq_eq_false_iff_ne]; exact hk
  rw [hk1] at h3
  have hrows := rows_of ks h3
  unfold kidsOK at h2
  unfold textOK at h1
  by_cases e12 : k = 12
  · subst e12
    simp at h1 h2
    subst h1
    obtain ⟨⟨⟨⟨h4, h5⟩, h6⟩, h7⟩, h8⟩ := h2
    exact .matrix c ks h4 h6 (by omega) hrows
  · rw [if_neg e12] at h2
    by_cases hc : c = 0
    · subst hc
      simp only [ne_eq, not_true_eq_false, if_false] at h2
      have hk' : k ≠ 1 := hk
      rw [if_neg hk'] at h2
      by_cases e2 : k = 2
      · subst e2
        simp at h1 h2
        subst h2
        exact .sym t h1
      · by_cases e3 : k = 3
        · subst e3
          simp at h1 h2
          subst h2
          exact .num t h1
        · by_cases e4 : k = 4
          · subst e4
            simp at h2
            subst h2
            rw [if_neg (by decide), if_neg (by decide), if_pos rfl] at h1
            exact .text t h1
          · rw [if_neg (by omega)] at h2
            rw [if_neg e2, if_neg e3, if_neg e4] at h1
            by_cases e10 : k = 10
            · subst e10
              simp only [if_true] at h1
              rw [if_neg (by decide), if_neg (by decide), if_pos (by decide)] at h2
              match ks, h2, hrows with
              | [a], _, hr => exact .accent t a h1 (hr a (by simp))
            · by_cases e11 : k = 11
              · subst e11
                rw [if_neg (by decide), if_pos rfl] at h1
                rw [if_neg (by decide), if_neg (by decide), if_pos (by decide)] at h2
                match ks, h2, hrows with
                | [a], _, hr => exact .fence t a h1 (hr a (by simp))
              · rw [if_neg e10, if_neg e11] at h1
                have ht : t = [] := by simpa using h1
                subst ht
                by_cases e9 : k = 9
                · subst e9
                  rw [if_neg (by decide), if_pos rfl] at h2
                  match ks, h2, hrows with
                  | [a, b, d], _, hr => exact .both a b d (hr a (by simp)) (hr b (by simp)) (hr d (by simp))
                · by_cases e58 : k = 5 ∨ k = 6 ∨ k = 7 ∨ k = 8
                  · rw [if_pos e58] at h2
                    match ks, h2, hrows with
                    | [a, b], _, hr =>
                      have ha := hr a (by simp)
                      have hb := hr b (by simp)
                      rcases e58 with rfl | rfl | rfl | rfl
                      · exact .frac a b ha hb
                      · exact .root a b ha hb
                      · exact .sub a b ha hb
                      · exact .sup a b ha hb
                  · rw [if_neg e58, if_neg e9, if_neg (by omega)] at h2
                    cases h2
    · rw [if_pos hc] at h2; cases h2
end Go.Proofs.Ytdacpbdamliafaa.Tr

/- The tokens of a tree tell the tree. -/
namespace Go.Proofs.Ytdacpbdamliafaa.Tr
open Lx (Tok)

theorem itemT_sym (t : Bytes) : itemT (.mk 2 t 0 []) = [if t.length = 1 then ⟨1, t⟩ else ⟨4, t⟩] := by rw [itemT] <;> first | rfl | (intros; simp_all)
theorem itemT_num (t : Bytes) : itemT (.mk 3 t 0 []) = [⟨2, t⟩] := by rw [itemT] <;> first | rfl | (intros; simp_all)
theorem itemT_text (t : Bytes) : itemT (.mk 4 t 0 []) = [⟨3, t⟩] := by rw [itemT] <;> first | rfl | (intros; simp_all)
theorem itemT_frac (a b : Nd) : itemT (.mk 5 [] 0 [a, b]) = name sFrac :: (argT a ++ argT b) := by rw [itemT] <;> first | rfl | (intros; simp_all)
theorem itemT_root (a b : Nd) : itemT (.mk 6 [] 0 [a, b]) = name sRoot :: ((if a.kids = [] then [] else mk7 91 :: (rowT a.kids ++ [mk7 93])) ++ argT b) := by rw [itemT] <;> first | rfl | (intros; simp_all)
theorem itemT_sub (a b : Nd) : itemT (.mk 7 [] 0 [a, b]) = baseT a ++ mk7 95 :: argT b := by rw [itemT] <;> first | rfl | (intros; simp_all)
theorem itemT_sup (a b : Nd) : itemT (.mk 8 [] 0 [a, b]) = baseT a ++ mk7 94 :: argT b := by rw [itemT] <;> first | rfl | (intros; simp_all)
theorem itemT_both (a b d : Nd) : itemT (.mk 9 [] 0 [a, b, d]) = baseT a ++ mk7 95 :: (argT b ++ mk7 94 :: argT d) := by rw [itemT] <;> first | rfl | (intros; simp_all)
theorem itemT_accent (t : Bytes) (a : Nd) : itemT (.mk 10 t 0 [a]) = name t :: argT a := by rw [itemT] <;> first | rfl | (intros; simp_all)
theorem itemT_fence (t : Bytes) (a : Nd) : itemT (.mk 11 t 0 [a]) = if t = [40, 41] ∨ t = [91, 93] then mk7 (t.headD 0) :: (rowT a.kids ++ [mk7 (t.getLastD 0)]) else ⟨5, t⟩ :: argT a := by rw [itemT] <;> first | rfl | (intros; simp_all)
theorem itemT_matrix (c : Int) (ks : List Nd) (h : ks ≠ []) : itemT (.mk 12 [] c ks) = name sMatrix :: mk7 123 :: (cellsT c 0 ks ++ [mk7 125]) := by
  match ks, h with
  | [a], _ => rw [itemT] <;> first | rfl | (intros; simp_all)
  | [a, b], _ => rw [itemT] <;> first | rfl | (intros; simp_all)
  | [a, b, d], _ => rw [itemT] <;> first | rfl | (intros; simp_all)
  | a :: b :: d :: e :: l, _ => rw [itemT] <;> first | rfl | (intros; simp_all)
theorem argT_eq (a : Nd) : argT a = match a.kids with | [x] => if leaf x then itemT x else mk7 123 :: (rowT [x] ++ [mk7 125]) | ks => mk7 123 :: (rowT ks ++ [mk7 125]) := by
  obtain ⟨k, t, c, ks⟩ := a
  match ks with
  | [] => rw [argT] <;> first | rfl | (intros; simp_all)
  | [x] => rw [argT]; rfl
  | x :: y :: l => rw [argT] <;> first | rfl | (intros; simp_all)
theorem baseT_eq (a : Nd) : baseT a = match a.kids with | [x] => if scripted x then mk7 123 :: (rowT [x] ++ [mk7 125]) else itemT x | ks => mk7 123 :: (rowT ks ++ [mk7 125]) := by
  obtain ⟨k, t, c, ks⟩ := a
  match ks with
  | [] => rw [baseT] <;> first | rfl | (intros; simp_all)
  | [x] => rw [baseT]; rfl
  | x :: y :: l => rw [baseT] <;> first | rfl | (intros; simp_all)
theorem rowT_cons (n : Nd) (ns : List Nd) : rowT (n :: ns) = itemT n ++ rowT ns := by rw [rowT]
theorem rowT_nil : rowT [] = [] := by rw [rowT]

theorem start_noScript (x : Tok) (r : List Tok) (h : startTok x = true) : noScript (x :: r) := by
  refine ⟨expect_other _ _ _ ?_, expect_other _ _ _ ?_⟩ <;> (rintro rfl; revert h; decide)
theorem IsRow.views {a : Nd} (h : IsRow a) : ∀ x ∈ a.kids, View x := fun x hx => view_of x (h.items x hx).2 (h.items x hx).1

theorem base_start (a : Nd) (ha : IsRow a) (ih : ∀ x ∈ a.kids, View x → ∃ t r, itemT x = t :: r ∧ startTok t = true) : ∃ t r, baseT a = t :: r ∧ startTok t = true := by
  rw [baseT_eq]
  have hv := ha.views
  split
  · rename_i x hx
    split
    · exact ⟨mk7 123, _, rfl, rfl⟩
    · exact ih x (by rw [hx]; simp) (hv x (by rw [hx]; simp))
  · exact ⟨mk7 123, _, rfl, rfl⟩
theorem item_start (n : Nd) : View n → ∃ t r, itemT n = t :: r ∧ startTok t = true := by
  have : ∀ m n, count n ≤ m → View n → ∃ t r, itemT n = t :: r ∧ startTok t = true := by
    intro m
    induction m with
    | zero => intro n h; have := count_pos n; omega
    | succ m ih =>
      intro n hc v
      have hb : ∀ (k : Int) (t : Bytes) (c : Int) (a : Nd) (l : List Nd), n = .mk k t c (a :: l) → IsRow a → ∃ t r, baseT a = t :: r ∧ startTok t = true := fun k t c a l e ha => base_start a ha fun x hx vx => ih x (by
        have h1 := count_mem hx
        have h2 := count_kids a
        rw [e, count, countL] at hc
        omega) vx
      cases v with
      | sym t h => rw [itemT_sym]; by_cases hl : t.length = 1 <;> simp only [hl, if_true, if_false] <;> exact ⟨_, _, rfl, rfl⟩
      | num t h => rw [itemT_num]; exact ⟨_, _, rfl, rfl⟩
      | text t h => rw [itemT_text]; exact ⟨_, _, rfl, rfl⟩
      | frac a b ha hb => rw [itemT_frac]; exact ⟨_, _, rfl, rfl⟩
      | root a b ha hb => rw [itemT_root]; exact ⟨_, _, rfl, rfl⟩
      | sub a b ha hb' =>
        rw [itemT_sub]
        obtain ⟨x, r, e, h⟩ := hb _ _ _ a _ rfl ha
        rw [e]; exact ⟨x, _, rfl, h⟩
      | sup a b ha hb' =>
        rw [itemT_sup]
        obtain ⟨x, r, e, h⟩ := hb _ _ _ a _ rfl ha
        rw [e]; exact ⟨x, _, rfl, h⟩
      | both a b d ha hb' hd =>
        rw [itemT_both]
        obtain ⟨x, r, e, h⟩ := hb _ _ _ a _ rfl ha
        rw [e]; exact ⟨x, _, rfl, h⟩
      | accent t a h ha => rw [itemT_accent]; exact ⟨_, _, rfl, rfl⟩
      | fence t a h ha =>
        rw [itemT_fence]
        split
        · rename_i ht
          rcases ht with rfl | rfl <;> exact ⟨_, _, rfl, rfl⟩
        · exact ⟨_, _, rfl, rfl⟩
      | matrix c ks hc hn hm h =>
        rw [itemT_matrix c ks (by rintro rfl; simp at hn)]; exact ⟨_, _, rfl, rfl⟩
  exact this _ n (Nat.le_refl _)

theorem row_noScript (ks : List Nd) (hk : ∀ x ∈ ks, View x) (r : List Tok) (hr : noScript r) : noScript (rowT ks ++ r) := by
  cases ks with
  | nil => rw [rowT_nil]; exact hr
  | cons x ks =>
    obtain ⟨t, r', e, h⟩ := item_start x (hk x (by simp))
    rw [rowT_cons, e]
    exact start_noScript t _ h

/-- Items of at most m nodes are read again. -/
structure PU (m : Nat) : Prop where
  item : ∀ n, count n ≤ m → View n → ∀ r, noScript r → Ev fun f => pItem f (itemT n ++ r) = some (n, r)
  base : ∀ n, count n ≤ m → View n → scripted n = false → ∀ r, Ev fun f => pBase f (itemT n ++ r) = some ([n], r)

theorem PU.row {m : Nat} (h : PU m) : ∀ ks, (∀ x ∈ ks, View x ∧ count x ≤ m) → ∀ r, stop r → Ev fun f => pRow f (rowT ks ++ r) = some (ks, r)
  | [], _, r, hr => Ev.succ (Ev.of fun f => by rw [rowT_nil, List.nil_append, pRow, if_neg (by rw [hr.1]; decide)])
  | x :: ks, hk, r, hr => by
    obtain ⟨hv, hc⟩ := hk x (by simp)
    have ih := PU.row h ks (fun y hy => hk y (by simp [hy])) r hr
    have hns : noScript (rowT ks ++ r) := row_noScript ks (fun y hy => (hk y (by simp [hy])).1) r hr.2
    refine Ev.succ (((h.item x hc hv _ hns).and ih).mono fun f ⟨h1, h2⟩ => ?_)
    obtain ⟨t, r', e, hs⟩ := item_start x hv
    have hst : starts (itemT x ++ (rowT ks ++ r)) = true := by rw [e]; exact hs
    rw [rowT_cons, List.append_assoc, pRow, if_pos hst, h1]
    simp [h2]
end Go.Proofs.Ytdacpbdamliafaa.Tr

/- The items and the positions of a tree in its tokens: what a walk over a row calls, in order. No program in sight. -/
namespace Go.Proofs.Ytdacpbdamliafaa.Tr
open Lx (Tok PTok)

/-- Is an argument written in braces? -/
def grp (a : Nd) : Bool := match a.kids with | [x] => !leaf x | _ => true
/-- Is a base of scripts written in braces? -/
def bgrp (a : Nd) : Bool := match a.kids with | [x] => scripted x | _ => true
/-- Is this a fence that is written as brackets? -/
def round (k : Int) (t : Bytes) : Bool := (k == 11) && ((t == [40, 41]) || (t == [91, 93]))

/-- The slots of an item: the number of tokens ahead of each one (behind the last one), whether it is in brackets, and the row. -/
def segs : Nd → List (Nat × Bool × Nd)
  | .mk k t _ ks =>
    match ks with
    | [] => []
    | a :: r =>
      if k = 12 then (2, false, a) :: r.map fun b => (1, false, b)
      else if k = 7 ∨ k = 8 ∨ k = 9 then (0, bgrp a, a) :: r.map fun b => (1, grp b, b)
      else if round k t = true then (0, true, a) :: r.map fun b => (0, grp b, b)
      else if k = 6 then (1, !a.kids.isEmpty, a) :: r.map fun b => (0, grp b, b)
      else (1, grp a, a) :: r.map fun b => (0, grp b, b)
/-- The number of tokens behind the last slot. -/
def tailN (n : Nd) : Nat := if n.kind = 12 ∨ n.kids = [] then 1 else 0
def rowsOf (l : List (Nat × Bool × Nd)) : List Nd := l.map fun x => x.2.2
theorem rowsOf_map (c : Nat) (f : Nd → Bool) (l : List Nd) : rowsOf (l.map fun b => (c, f b, b)) = l := by
  unfold rowsOf
  rw [List.map_map]
  exact (List.map_congr_left fun x _ => rfl).trans (List.map_id l)
theorem segs_rows (n : Nd) : rowsOf (segs n) = n.kids := by
  obtain ⟨k, t, c, ks⟩ := n
  cases ks with
  | nil => rfl
  | cons a r =>
    unfold segs
    simp only
    have h1 := rowsOf_map 1 (fun _ => false) r
    have h2 := rowsOf_map 1 grp r
    have h3 := rowsOf_map 0 grp r
    unfold rowsOf at h1 h2 h3 ⊢
    split
    · rw [List.map_cons, h1]; rfl
    · split
      · rw [List.map_cons, h2]; rfl
      · split
        · rw [List.map_cons, h3]; rfl
        · split <;> (rw [List.map_cons, h3]; rfl)
/-- The tokens of a slot with all that is ahead of it and around it. -/
def segLen (x : Nat × Bool × Nd) : Nat := x.1 + (if x.2.1 then 2 else 0) + (rowT x.2.2.kids).length
def segsLen : List (Nat × Bool × Nd) → Nat
  | [] => 0
  | x :: r => segLen x + segsLen r

theorem segLen_eq (k : Nat) (b : Bool) (a : Nd) : segLen (k, b, a) = k + 2 * b.toNat + (rowT a.kids).length := by cases b <;> simp [segLen]

/-- What is done along the walk over a row, and with what state. -/
structure Clo (σ κ : Type) where
  off : σ → List Nat → Nat → σ
  item : σ → List Nat → Nat → σ
  key : σ → κ
  done : σ → κ → Nat → σ

/-- The place of the token with a number, and where the one ahead of it ends. -/
def fromAt (T : List PTok) (k : Nat) : Nat := (T[k]?.map (·.from_)).getD 0
def endAt (T : List PTok) (k : Nat) : Nat := if k = 0 then 0 else (T[k - 1]?.map (·.to_)).getD 0

section
variable {σ κ : Type} (C : Clo σ κ) (T : List PTok)
mutual
def runRow : List Nd → List Nat → Nat → Nat → σ → σ
  | [], p, i, f, s => C.off s (p ++ [i]) (endAt T f)
  | n :: ns, p, i, f, s =>
    let s1 := C.off s (p ++ [i]) (fromAt T f)
    let s2 := C.item s1 (p ++ [i]) (fromAt T f)
    let s3 := runSegs (segs n) (p ++ [i]) 0 f s2
    let f' := f + (itemT n).length
    runRow ns p (i + 1) f' (C.done s3 (C.key s1) (endAt T f'))
  termination_by ns => 2 * countL ns + 1
  decreasing_by
    · have := segs_rows n
      unfold rowsOf at this
      rw [this]
      simp only [countL, count_kids]
      omega
    · simp only [countL, count_kids]
      omega
def runSegs : List (Nat × Bool × Nd) → List Nat → Nat → Nat → σ → σ
  | [], _, _, _, s => s
  | (k, b, a) :: r, p, j, f, s => runSegs r p (j + 1) (f + segLen (k, b, a)) (runRow a.kids (p ++ [j]) 0 (f + k + b.toNat) s)
  termination_by l => 2 * countL (l.map fun x => x.2.2) + 1
  decreasing_by
    · simp only [List.map_cons, countL, count_kids]
      omega
    · simp only [List.map_cons, countL, count_kids]
      omega
end
end

theorem argT_grpLen (a : Nd) : (argT a).length = (if grp a then 2 else 0) + (rowT a.kids).length := by
  rw [argT_eq]
  unfold grp
  generalize a.kids = ks
  match ks with
  | [] => simp [rowT_nil]
  | [x] =>
    cases hl : leaf x with
    | true => simp [hl, rowT_cons, rowT_nil]
    | false => simp [hl]; omega
  | x :: y :: l => simp; omega
theorem baseT_grpLen (a : Nd) : (baseT a).length = (if bgrp a then 2 else 0) + (rowT a.kids).length := by
  rw [baseT_eq]
  unfold bgrp
  generalize a.kids = ks
  match ks with
  | [] => simp [rowT_nil]
  | [x] =>
    cases hl : scripted x with
    | true => simp [hl]; omega
    | false => simp [hl, rowT_cons, rowT_nil]
  | x :: y :: l => simp; omega
theorem cellsT_grpLen (c : Int) : ∀ (i : Nat) (l : List Nd), (cellsT c (i + 1) l).length = segsLen (l.map fun b => (1, false, b))
  | _, [] => by rw [cellsT]; rfl
  | i, n :: ns => by
    rw [cellsT, if_neg (by omega)]
    simp only [List.length_append, List.map_cons, segsLen, segLen]
    rw [cellsT_grpLen c (i + 1) ns]
    split <;> simp <;> omega
/-- An item's tokens are those of its slots, and the one behind them. -/
theorem item_segs (n : Nd) (v : View n) : (itemT n).length = segsLen (segs n) + tailN n := by
  cases v with
  | sym t ht => rw [itemT_sym]; rfl
  | num t ht => rw [itemT_num]; rfl
  | text t ht => rw [itemT_text]; rfl
  | frac a b ha hb =>
    rw [itemT_frac]
    simp [segs, round, segsLen, segLen, tailN, Nd.kind, Nd.kids, argT_grpLen]
    omega
  | root a b ha hb =>
    rw [itemT_root]
    obtain ⟨ka, ta, ca, la⟩ := a
    cases la with
    | nil => simp [segs, round, segsLen, segLen, tailN, Nd.kind, Nd.kids, argT_grpLen, rowT_nil]; omega
    | cons x l => simp [segs, round, segsLen, segLen, tailN, Nd.kind, Nd.kids, argT_grpLen]; omega
  | sub a b ha hb =>
    rw [itemT_sub]
    simp [segs, segsLen, segLen, tailN, Nd.kind, Nd.kids, argT_grpLen, baseT_grpLen]
    omega
  | sup a b ha hb =>
    rw [itemT_sup]
    simp [segs, segsLen, segLen, tailN, Nd.kind, Nd.kids, argT_grpLen, baseT_grpLen]
    omega
  | both a b d ha hb hd =>
    rw [itemT_both]
    simp [segs, segsLen, segLen, tailN, Nd.kind, Nd.kids, argT_grpLen, baseT_grpLen]
    omega
  | accent t a ht ha =>
    rw [itemT_accent]
    simp [segs, round, segsLen, segLen, tailN, Nd.kind, Nd.kids, argT_grpLen]
    omega
  | fence t a ht ha =>
    rw [itemT_fence]
    by_cases h : t = [40, 41] ∨ t = [91, 93]
    · rw [if_pos h]
      have hr : round 11 t = true := by unfold round; simp [h]
      simp [segs, hr, segsLen, segLen, tailN, Nd.kind, Nd.kids]
      omega
    · rw [if_neg h]
      have hr : round 11 t = false := by
        unfold round
        simp only [not_or] at h
        simp [h.1, h.2]
      simp [segs, hr, segsLen, segLen, tailN, Nd.kind, Nd.kids, argT_grpLen]
      omega
  | matrix c ks hc hn hm h =>
    match ks, hn with
    | a :: l, _ =>
      rw [itemT_matrix c (a :: l) (by simp), cellsT]
      simp [segs, segsLen, segLen, tailN, Nd.kind, cellsT_grpLen]
      omega
theorem item_pos (n : Nd) (v : View n) : 1 ≤ (itemT n).length := by
  obtain ⟨t, r, h, _⟩ := item_start n v
  rw [h]
  simp
/-- A slot at the very beginning of an item is not empty. -/
theorem segs_first (n : Nd) (v : View n) : ∀ x ∈ segs n, x.1 = 0 → x.2.1 = false → x.2.2.kids ≠ [] := by
  have hg : ∀ a : Nd, grp a = false → a.kids ≠ [] := by
    intro a h h2
    unfold grp at h
    rw [h2] at h
    cases h
  have hb : ∀ a : Nd, bgrp a = false → a.kids ≠ [] := by
    intro a h h2
    unfold bgrp at h
    rw [h2] at h
    cases h
  obtain ⟨k, t, c, ks⟩ := n
  cases ks with
  | nil => intro x hx; cases hx
  | cons a r =>
    intro x hx h0 h1
    unfold segs at hx
    simp only at hx
    split at hx
    · rcases List.mem_cons.1 hx with rfl | hx
      · cases h0
      · obtain ⟨b, _, rfl⟩ := List.mem_map.1 hx; cases h0
    · split at hx
      · rcases List.mem_cons.1 hx with rfl | hx
        · exact hb _ h1
        · obtain ⟨b, _, rfl⟩ := List.mem_map.1 hx; cases h0
      · split at hx
        · rcases List.mem_cons.1 hx with rfl | hx
          · cases h1
          · obtain ⟨b, _, rfl⟩ := List.mem_map.1 hx; exact hg _ h1
        · split at hx
          · rcases List.mem_cons.1 hx with rfl | hx
            · cases h0
            · obtain ⟨b, _, rfl⟩ := List.mem_map.1 hx; exact hg _ h1
          · rcases List.mem_cons.1 hx with rfl | hx
            · cases h0
            · obtain ⟨b, _, rfl⟩ := List.mem_map.1 hx; exact hg _ h1
end Go.Proofs.Ytdacpbdamliafaa.Tr

/- The spans of items, the positions and the rows of a tree, as lists; their order. No program in sight. -/
namespace Go.Proofs.Ytdacpbdamliafaa.Tr
open Lx (Tok PTok)

abbrev Path := List Nat

section
variable (T : List PTok)
mutual
/-- The spans of items, in order. -/
def spRow : List Nd → Path → Nat → Nat → List (Path × Nat × Nat)
  | [], _, _, _ => []
  | n :: ns, p, i, f => (p ++ [i], fromAt T f, endAt T (f + (itemT n).length)) :: (spSegs (segs n) (p ++ [i]) 0 f ++ spRow ns p (i + 1) (f + (itemT n).length))
  termination_by ns => 2 * countL ns + 1
  decreasing_by
    · have := segs_rows n
      unfold rowsOf at this
      rw [this]
      simp only [countL, count_kids]
      omega
    · simp only [countL, count_kids]
      omega
def spSegs : List (Nat × Bool × Nd) → Path → Nat → Nat → List (Path × Nat × Nat)
  | [], _, _, _ => []
  | (k, b, a) :: r, p, j, f => spRow a.kids (p ++ [j]) 0 (f + k + b.toNat) ++ spSegs r p (j + 1) (f + segLen (k, b, a))
  termination_by l => 2 * countL (l.map fun x => x.2.2) + 1
  decreasing_by
    · simp only [List.map_cons, countL, count_kids]
      omega
    · simp only [List.map_cons, countL, count_kids]
      omega
end
mutual
/-- The positions with their places, in order. -/
def posRow : List Nd → Path → Nat → Nat → List (Path × Nat)
  | [], p, i, f => [(p ++ [i], endAt T f)]
  | n :: ns, p, i, f => (p ++ [i], fromAt T f) :: (posSegs (segs n) (p ++ [i]) 0 f ++ posRow ns p (i + 1) (f + (itemT n).length))
  termination_by ns => 2 * countL ns + 1
  decreasing_by
    · have := segs_rows n
      unfold rowsOf at this
      rw [this]
      simp only [countL, count_kids]
      omega
    · simp only [countL, count_kids]
      omega
def posSegs : List (Nat × Bool × Nd) → Path → Nat → Nat → List (Path × Nat)
  | [], _, _, _ => []
  | (k, b, a) :: r, p, j, f => posRow a.kids (p ++ [j]) 0 (f + k + b.toNat) ++ posSegs r p (j + 1) (f + segLen (k, b, a))
  termination_by l => 2 * countL (l.map fun x => x.2.2) + 1
  decreasing_by
    · simp only [List.map_cons, countL, count_kids]
      omega
    · simp only [List.map_cons, countL, count_kids]
      omega
end
end

/-- An induction on rows of items together with their slots. -/
theorem rows_ind {P : List Nd → Prop} {Q : List (Nat × Bool × Nd) → Prop} (h0 : P []) (h1 : ∀ n ns, Q (segs n) → P ns → P (n :: ns)) (q0 : Q []) (q1 : ∀ k b a r, P a.kids → Q r → Q ((k, b, a) :: r)) :
    (∀ ks, P ks) ∧ ∀ l, Q l := by
  have : ∀ m, (∀ ks, 2 * countL ks + 1 ≤ m → P ks) ∧ ∀ l : List (Nat × Bool × Nd), 2 * countL (rowsOf l) + 1 ≤ m → Q l := by
    intro m
    induction m with
    | zero => exact ⟨fun _ h => by omega, fun _ h => by omega⟩
    | succ m ih =>
      refine ⟨fun ks h => ?_, fun l h => ?_⟩
      · cases ks with
        | nil => exact h0
        | cons n ns =>
          refine h1 n ns (ih.2 _ ?_) (ih.1 _ ?_)
          · rw [segs_rows]; simp only [countL, count_kids] at h; omega
          · simp only [countL, count_kids] at h; omega
      · match l with
        | [] => exact q0
        | (k, b, a) :: r =>
          have h' : 2 * (count a + countL (rowsOf r)) + 1 ≤ m + 1 := h
          rw [count_kids] at h'
          exact q1 k b a r (ih.1 _ (by omega)) (ih.2 _ (by omega))
  exact ⟨fun ks => (this _).1 ks (Nat.le_refl _), fun l => (this _).2 l (Nat.le_refl _)⟩

/-! What the closures make of the walk. -/

def itemsC : Clo (List (Path × Nat × Nat)) Nat where
  off s _ _ := s
  item s p f := s ++ [(p, f, 0)]
  key s := s.length
  done s k t := s.modify k fun x => (x.1, x.2.1, t)
theorem modify_mid {α : Type} (f : α → α) (l r : List α) (x : α) : (l ++ x :: r).modify l.length f = l ++ f x :: r := by
  induction l with
  | nil => rfl
  | cons y l ih => simpa [List.modify] using ih
theorem items_run (T : List PTok) : (∀ ks p i f s, runRow itemsC T ks p i f s = s ++ spRow T ks p i f) ∧ ∀ l p j f s, runSegs itemsC T l p j f s = s ++ spSegs T l p j f := by
  refine rows_ind (P := fun ks => ∀ p i f s, runRow itemsC T ks p i f s = s ++ spRow T ks p i f) (Q := fun l => ∀ p j f s, runSegs itemsC T l p j f s = s ++ spSegs T l p j f) ?_ ?_ ?_ ?_
  · intro p i f s; rw [runRow, spRow, List.append_nil]; rfl
  · intro n ns h1 h2 p i f s
    rw [runRow, spRow, h1, h2]
    show (((s ++ [(p ++ [i], fromAt T f, 0)]) ++ spSegs T (segs n) (p ++ [i]) 0 f).modify s.length _) ++ _ = _
    rw [List.append_assoc, List.singleton_append, modify_mid]
    simp
  · intro p j f s; rw [runSegs, spSegs, List.append_nil]
  · intro k b a r h1 h2 p j f s
    rw [runSegs, spSegs, h1, h2, List.append_assoc]
/-- Closures that only look at positions. -/
def offC {σ : Type} (g : σ → Path → Nat → σ) : Clo σ Unit where
  off := g
  item s _ _ := s
  key _ := ()
  done s _ _ := s
theorem off_run {σ : Type} (g : σ → Path → Nat → σ) (T : List PTok) : (∀ ks p i f s, runRow (offC g) T ks p i f s = (posRow T ks p i f).foldl (fun s x => g s x.1 x.2) s) ∧ ∀ l p j f s, runSegs (offC g) T l p j f s = (posSegs T l p j f).foldl (fun s x => g s x.1 x.2) s := by
  refine rows_ind (P := fun ks => ∀ p i f s, runRow (offC g) T ks p i f s = (posRow T ks p i f).foldl (fun s x => g s x.1 x.2) s) (Q := fun l => ∀ p j f s, runSegs (offC g) T l p j f s = (posSegs T l p j f).foldl (fun s x => g s x.1 x.2) s) ?_ ?_ ?_ ?_
  · intro p i f s; rw [runRow, posRow]; rfl
  · intro n ns h1 h2 p i f s
    rw [runRow, posRow, h1, h2]
    simp only [List.foldl_cons, List.foldl_append]
    rfl
  · intro p j f s; rw [runSegs, posSegs]; rfl
  · intro k b a r h1 h2 p j f s
    rw [runSegs, posSegs, h1, h2, List.foldl_append]

/-! The order of lists of numbers. -/

def cmp : Path → Path → Int
  | [], [] => 0
  | [], _ :: _ => -1
  | _ :: _, [] => 1
  | a :: l, b :: m => if a < b then -1 else if b < a then 1 else cmp l m
theorem cmp_refl : ∀ l : Path, cmp l l = 0
  | [] => rfl
  | a :: l => by rw [cmp, if_neg (Nat.lt_irrefl _), if_neg (Nat.lt_irrefl _)]; exact cmp_refl l
theorem cmp_eq : ∀ l m : Path, cmp l m = 0 → l = m
  | [], [], _ => rfl
  | [], _ :: _, h => by cases h
  | _ :: _, [], h => by cases h
  | a :: l, b :: m, h => by
    rw [cmp] at h
    split at h
    · cases h
    · split at h
      · cases h
      · rw [cmp_eq l m h, show a = b by omega]
theorem cmp_swap : ∀ l m : Path, cmp l m = -1 → cmp m l = 1
  | [], [], h => by cases h
  | [], _ :: _, _ => rfl
  | _ :: _, [], h => by cases h
  | a :: l, b :: m, h => by
    rw [cmp] at h ⊢
    split at h
    · rw [if_neg (by omega), if_pos (by omega)]
    · split at h
      · cases h
      · rw [if_neg (by omega), if_neg (by omega)]; exact cmp_swap l m h
theorem cmp_pre : ∀ p l m : Path, cmp (p ++ l) (p ++ m) = cmp l m
  | [], _, _ => rfl
  | a :: p, l, m => by rw [List.cons_append, List.cons_append, cmp, if_neg (Nat.lt_irrefl _), if_neg (Nat.lt_irrefl _)]; exact cmp_pre p l m
theorem cmp_lt {i j : Nat} (h : i < j) (p q r : Path) : cmp (p ++ i :: q) (p ++ j :: r) = -1 := by rw [cmp_pre, cmp, if_pos h]
theorem cmp_ext (p : Path) (i x : Nat) (r : Path) : cmp (p ++ [i]) (p ++ i :: x :: r) = -1 := by
  rw [cmp_pre, cmp, if_neg (Nat.lt_irrefl _), if_neg (Nat.lt_irrefl _)]; rfl

/-- What lies in a row from a number on. -/
theorem pos_under (T : List PTok) : (∀ ks p i f, ∀ x ∈ posRow T ks p i f, ∃ j q, i ≤ j ∧ x.1 = p ++ j :: q) ∧ ∀ l p j f, ∀ x ∈ posSegs T l p j f, ∃ j' m q, j ≤ j' ∧ x.1 = p ++ j' :: m :: q := by
  refine rows_ind (P := fun ks => ∀ p i f, ∀ x ∈ posRow T ks p i f, ∃ j q, i ≤ j ∧ x.1 = p ++ j :: q) (Q := fun l => ∀ p j f, ∀ x ∈ posSegs T l p j f, ∃ j' m q, j ≤ j' ∧ x.1 = p ++ j' :: m :: q) ?_ ?_ ?_ ?_
  · intro p i f x hx
    rw [posRow] at hx
    rcases List.mem_singleton.1 hx with rfl
    exact ⟨i, [], Nat.le_refl _, rfl⟩
  · intro n ns h1 h2 p i f x hx
    rw [posRow] at hx
    rcases List.mem_cons.1 hx with rfl | hx
    · exact ⟨i, [], Nat.le_refl _, rfl⟩
    · rcases List.mem_append.1 hx with hx | hx
      · obtain ⟨j, m, q, _, h⟩ := h1 _ _ _ x hx
        exact ⟨i, j :: m :: q, Nat.le_refl _, by rw [h, List.append_assoc]; rfl⟩
      · obtain ⟨j, q, h3, h⟩ := h2 _ _ _ x hx
        exact ⟨j, q, by omega, h⟩
  · intro p j f x hx; rw [posSegs] at hx; cases hx
  · intro k b a r h1 h2 p j f x hx
    rw [posSegs] at hx
    rcases List.mem_append.1 hx with hx | hx
    · obtain ⟨m, q, _, h⟩ := h1 _ _ _ x hx
      exact ⟨j, m, q, Nat.le_refl _, by rw [h, List.append_assoc]; rfl⟩
    · obtain ⟨j', m, q, h3, h⟩ := h2 _ _ _ x hx
      exact ⟨j', m, q, by omega, h⟩
theorem sp_under (T : List PTok) : (∀ ks p i f, ∀ x ∈ spRow T ks p i f, ∃ j q, i ≤ j ∧ x.1 = p ++ j :: q) ∧ ∀ l p j f, ∀ x ∈ spSegs T l p j f, ∃ j' m q, j ≤ j' ∧ x.1 = p ++ j' :: m :: q := by
  refine rows_ind (P := fun ks => ∀ p i f, ∀ x ∈ spRow T ks p i f, ∃ j q, i ≤ j ∧ x.1 = p ++ j :: q) (Q := fun l => ∀ p j f, ∀ x ∈ spSegs T l p j f, ∃ j' m q, j ≤ j' ∧ x.1 = p ++ j' :: m :: q) ?_ ?_ ?_ ?_
  · intro p i f x hx; rw [spRow] at hx; cases hx
  · intro n ns h1 h2 p i f x hx
    rw [spRow] at hx
    rcases List.mem_cons.1 hx with rfl | hx
    · exact ⟨i, [], Nat.le_refl _, rfl⟩
    · rcases List.mem_append.1 hx with hx | hx
      · obtain ⟨j, m, q, _, h⟩ := h1 _ _ _ x hx
        exact ⟨i, j :: m :: q, Nat.le_refl _, by rw [h, List.append_assoc]; rfl⟩
      · obtain ⟨j, q, h3, h⟩ := h2 _ _ _ x hx
        exact ⟨j, q, by omega, h⟩
  · intro p j f x hx; rw [spSegs] at hx; cases hx
  · intro k b a r h1 h2 p j f x hx
    rw [spSegs] at hx
    rcases List.mem_append.1 hx with hx | hx
    · obtain ⟨m, q, _, h⟩ := h1 _ _ _ x hx
      exact ⟨j, m, q, Nat.le_refl _, by rw [h, List.append_assoc]; rfl⟩
    · obtain ⟨j', m, q, h3, h⟩ := h2 _ _ _ x hx
      exact ⟨j', m, q, by omega, h⟩

/-- The positions stand in their order. -/
theorem pos_sorted (T : List PTok) : (∀ ks p i f, (posRow T ks p i f).Pairwise fun x y => cmp x.1 y.1 = -1) ∧ ∀ l p j f, (posSegs T l p j f).Pairwise fun x y => cmp x.1 y.1 = -1 := by
  obtain ⟨u1, u2⟩ := pos_under T
  refine rows_ind (P := fun ks => ∀ p i f, (posRow T ks p i f).Pairwise fun x y => cmp x.1 y.1 = -1) (Q := fun l => ∀ p j f, (posSegs T l p j f).Pairwise fun x y => cmp x.1 y.1 = -1) ?_ ?_ ?_ ?_
  · intro p i f; rw [posRow]; simp
  · intro n ns h1 h2 p i f
    rw [posRow, List.pairwise_cons, List.pairwise_append]
    refine ⟨fun y hy => ?_, h1 _ _ _, h2 _ _ _, fun x hx y hy => ?_⟩
    · rcases List.mem_append.1 hy with hy | hy
      · obtain ⟨j, m, q, _, h⟩ := u2 _ _ _ _ y hy
        rw [h, List.append_assoc]
        exact cmp_ext p i j _
      · obtain ⟨j, q, h3, h⟩ := u1 _ _ _ _ y hy
        rw [h]
        exact cmp_lt (by omega) p [] q
    · obtain ⟨j, m, q, _, h⟩ := u2 _ _ _ _ x hx
      obtain ⟨j', q', h3, h'⟩ := u1 _ _ _ _ y hy
      rw [h, h', List.append_assoc]
      exact cmp_lt (by omega) p _ _
  · intro p j f; rw [posSegs]; exact List.Pairwise.nil
  · intro k b a r h1 h2 p j f
    rw [posSegs, List.pairwise_append]
    refine ⟨h1 _ _ _, h2 _ _ _, fun x hx y hy => ?_⟩
    obtain ⟨m, q, _, h⟩ := u1 _ _ _ _ x hx
    obtain ⟨j', m', q', h3, h'⟩ := u2 _ _ _ _ y hy
    rw [h, h', List.append_assoc]
    exact cmp_lt (by omega) p _ _
/-- An item's span begins at its position. -/
theorem sp_pos (T : List PTok) : (∀ ks p i f, ∀ x ∈ spRow T ks p i f, (x.1, x.2.1) ∈ posRow T ks p i f) ∧ ∀ l p j f, ∀ x ∈ spSegs T l p j f, (x.1, x.2.1) ∈ posSegs T l p j f := by
  refine rows_ind (P := fun ks => ∀ p i f, ∀ x ∈ spRow T ks p i f, (x.1, x.2.1) ∈ posRow T ks p i f) (Q := fun l => ∀ p j f, ∀ x ∈ spSegs T l p j f, (x.1, x.2.1) ∈ posSegs T l p j f) ?_ ?_ ?_ ?_
  · intro p i f x hx; rw [spRow] at hx; cases hx
  · intro n ns h1 h2 p i f x hx
    rw [spRow] at hx
    rw [posRow]
    rcases List.mem_cons.1 hx with rfl | hx
    · exact List.mem_cons_self ..
    · rcases List.mem_append.1 hx with hx | hx
      · exact List.mem_cons_of_mem _ (List.mem_append_left _ (h1 _ _ _ x hx))
      · exact List.mem_cons_of_mem _ (List.mem_append_right _ (h2 _ _ _ x hx))
  · intro p j f x hx; rw [spSegs] at hx; cases hx
  · intro k b a r h1 h2 p j f x hx
    rw [spSegs] at hx
    rw [posSegs]
    rcases List.mem_append.1 hx with hx | hx
    · exact List.mem_append_left _ (h1 _ _ _ x hx)
    · exact List.mem_append_right _ (h2 _ _ _ x hx)
end Go.Proofs.Ytdacpbdamliafaa.Tr

/- A general law for the rows of this seat: a law that returns true and only makes new memory leaves its arguments reading as they did. -/
namespace Go.Proofs.Ytdacpbdamliafaa
open Go.ChangeShapes Go.WideShapes Go.ChangeAt Go.RowKit
open Go.ChangeMaps (open_string shut_string)

theorem Try.ownKnob : ownKnob Try.prog.godebug = none := by kernel_rfl
theorem Try.laidOut : laidOutB Try.prog = true := by kernel_rfl

section
variable {H : Type} {enc : TypeId × Value → H} {P : Program}
theorem post_of_below {f : Func} {s : ChangeSpec} {apart fresh handsOn again : Bool} {W W' : World} {args : Array Value} {v : Value} {ds gs : List (DataW H)} {before pa pv : List MemPlace}
    (hW : DataW.Whole enc P f.params.toList s.vars apart W args.toList ds gs before)
    (hres : ∀ (b : Nat) (sp : Nat → Bool) (hd : Bool), DataW.TrodAll enc P W' b sp hd f.resultTypes.toList (v.resultList f.resultTypes.size) (s.fn H (ds ++ gs)).results [])
    (hargs : ∀ sp : Nat → Bool, (∀ p ∈ before, sp p.block = true) → DataW.TrodAll enc P W' 0 sp true f.params.toList args.toList (s.fn H (ds ++ gs)).args pa)
    (hvars : ∀ sp : Nat → Bool, (∀ p ∈ before, sp p.block = true) → DataW.TrodVars enc P W' sp s.vars (s.fn H (ds ++ gs)).vars pv)
    (hps : before = pa ++ pv) (hb : Below W.heap.size W W')
    (hok : ∀ (j : Nat) (t : TypeId) (r : Value), f.resultTypes[j]? = some t → (v.resultList f.resultTypes.size)[j]? = some r → Value.okWide P W' .any 0 t r) :
    s.post enc P f apart fresh handsOn again W args v W' := by
  have hlt : ∀ p ∈ before, p.block < W.heap.size := fun p hp => hW.lt p hp
  have hold : ∀ p ∈ before, (fun b => decide (b < W.heap.size)) p.block = true := fun p hp => by simpa using hlt p hp
  refine ⟨ds, gs, before, [], pa, pv, hW, hres _ _ _, hargs _ hold, hvars _ hold, World.keptBut_mono (fun p hp => ⟨hp, ?_⟩) (hb.frame (· ∈ before)), fun _ => ?_⟩
  · rw [hps, List.mem_append] at hp
    exact Or.inr hp
  · obtain ⟨_, _, _, _, _, hz, hn⟩ := hW
    refine ⟨hok, _, _, ([] ++ pa) ++ pv, ⟨[] ++ pa, pv, trodAll_append (hargs _ (fun _ _ => rfl)) (hres _ _ _), hvars _ (fun _ _ => rfl), rfl, ?_, ?_⟩, ?_⟩
    · intro b off hp
      have hin : MemPlace.cell b off ∈ before := by rw [hps]; simpa using hp
      rw [hb.frozen (hlt _ hin)]
      exact hz b off hin
    · intro ha
      have := hn ha
      rw [hps] at this
      simpa using this
    · intro p hp _
      rw [hps]
      simpa using hp

theorem trodAll_stays (hl : laidOutB P = true) {W W' : World} {sp' : Nat → Bool} (hb : Below W.heap.size W W') : ∀ {ts : List TypeId} {vs : List Value} {ds : List (DataW H)} {ps : List MemPlace}, (∀ t ∈ ts, P.readableRec t = true ∧ t < P.types.size) →
    DataW.TrodAll enc P W 0 (fun _ => true) true ts vs ds ps → (∀ x ∈ ps, x.block < W.heap.size) → (∀ x ∈ ps, sp' x.block = true) → DataW.TrodAll enc P W' 0 sp' true ts vs ds ps
  | [], [], [], _, _, h, _, _ => h
  | _ :: _, _ :: _, _ :: _, _, ht, ⟨p, q, h1, h2, e⟩, hlt, hs => by
    subst e
    exact ⟨p, q, WideElems.Trod_stays hl (ht _ (List.mem_cons_self ..)).1 (ht _ (List.mem_cons_self ..)).2 h1 (fun x hx => hb.same (hlt x (List.mem_append_left _ hx))) (fun x hx => hs x (List.mem_append_left _ hx)),
      trodAll_stays hl hb (fun t h => ht t (List.mem_cons_of_mem _ h)) h2 (fun x hx => hlt x (List.mem_append_right _ hx)) (fun x hx => hs x (List.mem_append_right _ hx)), rfl⟩

/-- The end of a law that returns true. -/
theorem post_true {f : Func} {s : ChangeSpec} {W W' : World} {args : Array Value} {ds : List (DataW H)} {before : List MemPlace} {tb : TypeId} (hl : laidOutB P = true)
    (htb : P.underlying tb = some .bool) (hres : f.resultTypes = #[tb]) (hp : (f.params.toList.all fun t => P.readableRec t && decide (t < P.types.size)) = true) (hv : s.vars = [])
    (hfn : s.fn H ds = ({ results := [.lit (.bool true)], args := ds } : Left H))
    (hW : DataW.Whole enc P f.params.toList s.vars false W args.toList ds [] before) (hb : Fresh W W') : s.post enc P f false true false false W args (.bool true) W' := by
  have hW' := hW
  obtain ⟨p, q, hA, hV, rfl, hfz, hnd⟩ := hW
  have hlt := hW'.lt
  rw [hv] at hV
  obtain ⟨_, rfl⟩ := trodVars_none hV
  have hpt : ∀ t ∈ f.params.toList, P.readableRec t = true ∧ t < P.types.size := fun t ht => by
    have := List.all_eq_true.1 hp t ht
    simpa using this
  refine post_of_below (pa := p) (pv := []) (gs := []) hW' ?_ ?_ ?_ rfl hb.below ?_
  · intro b sp hd
    rw [hres, List.append_nil, hfn]
    exact trodAll_mk1 (shut_bool htb _)
  · intro sp hs
    rw [List.append_nil, hfn]
    exact trodAll_stays hl hb.below hpt hA (fun x hx => hlt x (List.mem_append_left _ hx)) (fun x hx => hs x (List.mem_append_left _ hx))
  · intro sp hs
    rw [hv, List.append_nil, hfn]
    rfl
  · exact ok_one (f := f) (t := tb) hres rfl (okWide_bool_mk htb _)
end
end Go.Proofs.Ytdacpbdamliafaa

/- Formula trees in memory. -/
namespace Go.Proofs.Ytdacpbdamliafaa
open Go.ChangeShapes Go.WideShapes Go.ChangeAt Go.RowKit

/-- A slice whose elements are these trees. -/
inductive RepL (W : World) : List Tr.Nd → Value → Prop
  | nil (A : Option Addr) (cap : Nat) : RepL W [] (.slice A 0 cap)
  | row (g o cap : Nat) (ks : List Tr.Nd) (sl : Nat → Value) (hg : g < W.heap.size) (hl : ks.length ≤ maxLen) (ht : ∀ i (hi : i < ks.length), ks[i].text.length ≤ maxLen)
      (h0 : ∀ i (hi : i < ks.length), W.cell? ⟨g, o + i * 4, none⟩ = some (.int .i64 ks[i].kind))
      (h1 : ∀ i (hi : i < ks.length), W.cell? ⟨g, o + i * 4 + 1, none⟩ = some (.string ⟨ks[i].text.toArray⟩))
      (h2 : ∀ i (hi : i < ks.length), W.cell? ⟨g, o + i * 4 + 2, none⟩ = some (.int .i64 ks[i].cols))
      (h3 : ∀ i, i < ks.length → W.cell? ⟨g, o + i * 4 + 3, none⟩ = some (sl i))
      (hk : ∀ i (hi : i < ks.length), RepL W ks[i].kids (sl i)) : RepL W ks (.slice (some ⟨g, o, none⟩) ks.length cap)

/-- A value that is this tree. -/
def RepN (W : World) (n : Tr.Nd) (v : Value) : Prop := ∃ sl, v = .agg #[.int .i64 n.kind, .string ⟨n.text.toArray⟩, .int .i64 n.cols, sl] ∧ RepL W n.kids sl

theorem RepL.fresh {W W' : World} {ks : List Tr.Nd} {v : Value} (h : RepL W ks v) (hf : Fresh W W') : RepL W' ks v := by
  induction h with
  | nil A cap => exact .nil A cap
  | row g o cap ks sl hg hl ht h0 h1 h2 h3 hk ih =>
    exact .row g o cap ks sl (Nat.lt_of_lt_of_le hg hf.size) hl ht (fun i hi => hf.cell (h0 i hi) (fun h => h)) (fun i hi => hf.cell (h1 i hi) (fun h => h)) (fun i hi => hf.cell (h2 i hi) (fun h => h)) (fun i hi => hf.cell (h3 i hi) (fun h => h)) ih
theorem RepN.fresh {W W' : World} {n : Tr.Nd} {v : Value} (h : RepN W n v) (hf : Fresh W W') : RepN W' n v := by
  obtain ⟨sl, h1, h2⟩ := h
  exact ⟨sl, h1, h2.fresh hf⟩

theorem RepL.slice {W : World} {ks : List Tr.Nd} {v : Value} (h : RepL W ks v) : ∃ A cap, v = .slice A ks.length cap := by
  cases h with
  | nil A cap => exact ⟨A, cap, rfl⟩
  | row g o cap _ sl => exact ⟨_, cap, rfl⟩

theorem RepL.len {W : World} {ks : List Tr.Nd} {v : Value} (h : RepL W ks v) : ks.length ≤ maxLen := by
  cases h with
  | nil A cap => exact Nat.zero_le _
  | row g o cap _ sl hg hl => exact hl

theorem RepL.texts {W : World} {ks : List Tr.Nd} {v : Value} (h : RepL W ks v) (i : Nat) (hi : i < ks.length) : ks[i].text.length ≤ maxLen := by
  cases h with
  | nil A cap => simp at hi
  | row g o cap _ sl hg hl ht => exact ht i hi

/-- One of the kids. -/
theorem RepL.get {W : World} {ks : List Tr.Nd} {A : Option Addr} {len cap : Nat} (h : RepL W ks (.slice A len cap)) (i : Nat) (hi : i < ks.length) :
    ∃ g o sl, A = some ⟨g, o, none⟩ ∧ g < W.heap.size ∧ W.cell? ⟨g, o + i * 4, none⟩ = some (.int .i64 ks[i].kind) ∧ W.cell? ⟨g, o + i * 4 + 1, none⟩ = some (.string ⟨ks[i].text.toArray⟩) ∧
      W.cell? ⟨g, o + i * 4 + 2, none⟩ = some (.int .i64 ks[i].cols) ∧ W.cell? ⟨g, o + i * 4 + 3, none⟩ = some sl ∧ RepL W ks[i].kids sl := by
  generalize hv : Value.slice A len cap = v at h
  cases h with
  | nil A cap => simp at hi
  | row g o cap _ sl hg hl ht h0 h1 h2 h3 hk =>
    cases hv
    exact ⟨g, o, sl i, rfl, hg, h0 i hi, h1 i hi, h2 i hi, h3 i hi, hk i hi⟩

theorem cells4 {W : World} {base : Nat} {a : Addr} {cs : List Value} (h : W.cells? base a 4 = some cs) : ∃ c0 c1 c2 c3, cs = [c0, c1, c2, c3] ∧ a.spot = none ∧ a.block < W.heap.size ∧
    W.cell? ⟨a.block, a.off, none⟩ = some c0 ∧ W.cell? ⟨a.block, a.off + 1, none⟩ = some c1 ∧ W.cell? ⟨a.block, a.off + 2, none⟩ = some c2 ∧ W.cell? ⟨a.block, a.off + 3, none⟩ = some c3 := by
  obtain ⟨_, hl, hc⟩ := World.cells?_some h
  match cs, hl with
  | [c0, c1, c2, c3], _ =>
    have e0 := hc 0 (by decide)
    have e1 := hc 1 (by decide)
    have e2 := hc 2 (by decide)
    have e3 := hc 3 (by decide)
    obtain ⟨g, o, s⟩ := a
    have hs : s = none := by
      cases s with
      | none => rfl
      | some x =>
        simp only [Addr.add, if_true, List.getElem?_cons_zero] at e0
        unfold World.cell? at e0
        split at e0
        · simp at e0
        · cases e0
    subst hs
    have hlt := block_lt_of_cell (a := ⟨g, o, none⟩) (v := c0) (by simpa [Addr.add] using e0)
    exact ⟨c0, c1, c2, c3, rfl, rfl, hlt, by simpa [Addr.add] using e0, by simpa [Addr.add] using e1, by simpa [Addr.add] using e2, by simpa [Addr.add] using e3⟩

section
variable {H : Type} {enc : TypeId × Value → H}
theorem open_node4 {w : World} {base : Nat} {sp : Nat → Bool} {hd : Bool} {fuel : Nat} {c0 c1 c2 c3 : Value} {y : DataW H × List MemPlace} (h : DataW.trod enc Try.prog w base sp hd fuel 24 [c0, c1, c2, c3] = some y) :
    ∃ (k c : Int) (s : ByteArray) (n : Nat) (z : DataW H × List MemPlace), n < fuel ∧ c0 = .int .i64 k ∧ c1 = .string s ∧ c2 = .int .i64 c ∧ s.size ≤ maxLen ∧ DataW.trod enc Try.prog w base sp hd n 22 [c3] = some z := by
  obtain ⟨xs, n, hfuel, _, _, hlen, hf⟩ := DataW.trod_struct Try.underlying24 h
  have e0 := hf 0 _ rfl
  have e1 := hf 1 _ rfl
  have e2 := hf 2 _ rfl
  have e3 := hf 3 _ rfl
  match xs, hlen with
  | [y0, y1, y2, y3], _ =>
    obtain ⟨k, g0, _⟩ := DataW.trod_int Try.underlying3 (by exact e0)
    obtain ⟨s, g1, _, hsz⟩ := DataW.trod_string Try.underlying9 (by exact e1)
    obtain ⟨c, g2, _⟩ := DataW.trod_int Try.underlying3 (by exact e2)
    have hC1 : Try.prog.cellsOf 3 = 1 := by kernel_rfl
    have hC2 : Try.prog.cellsOf 9 = 1 := by kernel_rfl
    have hC3 : Try.prog.cellsOf 22 = 1 := by kernel_rfl
    simp [hC1] at g0
    simp [hC2] at g1
    simp [hC1] at g2
    refine ⟨k, c, s, n, y3, by omega, g0, g1, g2, hsz, ?_⟩
    simpa [hC3] using e3

theorem open_nodes {w : World} {base : Nat} {sp : Nat → Bool} {hd : Bool} : ∀ (fuel : Nat) (cs : List Value) (y : DataW H × List MemPlace), DataW.trod enc Try.prog w base sp hd fuel 22 cs = some y → ∃ ks v, cs = [v] ∧ RepL w ks v := by
  intro fuel
  induction fuel using Nat.strongRecOn with
  | _ fuel ih =>
    intro cs y h
    rcases DataW.trod_slice Try.underlying22 h with ⟨rfl, _⟩ | ⟨a, len, cap, elems, rest, n, hn, rfl, _, hb, hl, hm, hlen, hel, _, _⟩
    · exact ⟨[], _, rfl, .nil _ _⟩
    · have hC : Try.prog.cellsOf 24 = 4 := by kernel_rfl
      rw [hC] at hel
      have each : ∀ i, i < len → ∃ (t : Tr.Nd) (sl : Value), a.spot = none ∧ a.block < w.heap.size ∧ w.cell? ⟨a.block, a.off + i * 4, none⟩ = some (.int .i64 t.kind) ∧ w.cell? ⟨a.block, a.off + i * 4 + 1, none⟩ = some (.string ⟨t.text.toArray⟩) ∧
          w.cell? ⟨a.block, a.off + i * 4 + 2, none⟩ = some (.int .i64 t.cols) ∧ w.cell? ⟨a.block, a.off + i * 4 + 3, none⟩ = some sl ∧ RepL w t.kids sl ∧ t.text.length ≤ maxLen := by
        intro i hi
        have h0 := hel i hi
        rw [List.getElem?_eq_getElem (by omega), Option.bind_eq_some_iff] at h0
        obtain ⟨cs', hcs, hy⟩ := h0
        obtain ⟨c0, c1, c2, c3, rfl, hs, hlt, e0, e1, e2, e3⟩ := cells4 hcs
        obtain ⟨k, c, s, m, z, hm', rfl, rfl, rfl, hsz, hz⟩ := open_node4 hy
        obtain ⟨ks, v, hv, hr⟩ := ih m (by omega) _ _ hz
        cases hv
        have hsp : a.spot = none ∨ 0 < i := by
          rcases Nat.eq_zero_or_pos i with h | h
          · subst h; left; simpa [Addr.add] using hs
          · exact .inr h
        have hblk : (a.add (i * 4)).block = a.block := by unfold Addr.add; split <;> rfl
        have hoff : (a.add (i * 4)).off = a.off + i * 4 := by
          unfold Addr.add
          split
          · omega
          · rfl
        rw [hblk, hoff] at e0 e1 e2 e3
        rw [hblk] at hlt
        have hs0 : a.spot = none := by
          rcases hsp with h | h
          · exact h
          · have h00 := hel 0 (by omega)
            rw [List.getElem?_eq_getElem (by omega), Option.bind_eq_some_iff] at h00
            obtain ⟨cs0, hcs0, _⟩ := h00
            obtain ⟨_, _, _, _, _, hs', _⟩ := cells4 hcs0
            simpa [Addr.add] using hs'
        exact ⟨.mk k s.data.toList c ks, c3, hs0, hlt, e0, e1, e2, e3, hr, by show s.data.toList.length ≤ maxLen; simpa using hsz⟩
      cases hl0 : len with
      | zero => subst hl0; exact ⟨[], _, rfl, .nil _ _⟩
      | succ l =>
        rw [← hl0]
        have hpos : 0 < len := by omega
        have he : ∃ f : Nat → Tr.Nd × Value, ∀ i, i < len → w.cell? ⟨a.block, a.off + i * 4, none⟩ = some (.int .i64 (f i).1.kind) ∧ w.cell? ⟨a.block, a.off + i * 4 + 1, none⟩ = some (.string ⟨(f i).1.text.toArray⟩) ∧
          w.cell? ⟨a.block, a.off + i * 4 + 2, none⟩ = some (.int .i64 (f i).1.cols) ∧ w.cell? ⟨a.block, a.off + i * 4 + 3, none⟩ = some (f i).2 ∧ RepL w (f i).1.kids (f i).2 ∧ (f i).1.text.length ≤ maxLen := by
          refine ⟨fun i => if h : i < len then ⟨Classical.choose (each i h), Classical.choose (Classical.choose_spec (each i h))⟩ else ⟨.mk 0 [] 0 [], .bool false⟩, fun i hi => ?_⟩
          simp only [dif_pos hi]
          exact (Classical.choose_spec (Classical.choose_spec (each i hi))).2.2
        obtain ⟨f, hf⟩ := he
        obtain ⟨_, _, hs, hlt, _⟩ := each 0 hpos
        obtain ⟨g, o, s⟩ := a
        simp only at hs hlt hf
        subst hs
        have hln : ((List.range len).map fun i => (f i).1).length = len := by simp
        refine ⟨(List.range len).map fun i => (f i).1, _, rfl, ?_⟩
        have := RepL.row (W := w) g o cap ((List.range len).map fun i => (f i).1) (fun i => (f i).2) hlt (by rw [hln]; omega) (fun i hi => by simpa using (hf i (by simpa using hi)).2.2.2.2.2)
          (fun i hi => by simpa using (hf i (by simpa using hi)).1) (fun i hi => by simpa using (hf i (by simpa using hi)).2.1) (fun i hi => by simpa using (hf i (by simpa using hi)).2.2.1)
          (fun i hi => by simpa using (hf i (by simpa using hi)).2.2.2.1) (fun i hi => by simpa using (hf i (by simpa using hi)).2.2.2.2.1)
        rw [hln] at this
        exact this

set_option maxRecDepth 100000 in
/-- An argument that is a tree, opened. -/
theorem open_node {w : World} {base b0 : Nat} {sp : Nat → Bool} {hd : Bool} {v : Value} {d : DataW H} {p : List MemPlace} (hv : Value.okWide Try.prog w .any b0 24 v) (h : DataW.Trod enc Try.prog w base sp hd 24 v d p) :
    ∃ n, RepN w n v ∧ n.text.length ≤ maxLen := by
  obtain ⟨cs, rfl, hsz⟩ := okWide_struct Try.underlying24 hv
  have hC : Try.prog.cellsOf 24 = 4 := by kernel_rfl
  rw [hC] at hsz
  obtain ⟨fuel, hf⟩ := h
  obtain ⟨l, rfl⟩ : ∃ l : List Value, cs = l.toArray := ⟨cs.toList, by simp⟩
  match l, hsz with
  | [c0, c1, c2, c3], _ =>
    obtain ⟨k, c, s, m, z, _, rfl, rfl, rfl, hsz, hz⟩ := open_node4 hf
    obtain ⟨ks, v, hv, hr⟩ := open_nodes m _ _ hz
    cases hv
    exact ⟨.mk k s.data.toList c ks, ⟨c3, rfl, hr⟩, by show s.data.toList.length ≤ maxLen; simpa using hsz⟩
end
end Go.Proofs.Ytdacpbdamliafaa

/- The walks of the reference's left, Few, Equal and SameItems. -/
namespace Go.Proofs.Ytdacpbdamliafaa
open Go.RowKit

theorem forget_world {p : World → Prop} {W : World} (F : World → Prop) (hF : F W) (h : ∀ W', F W' → p W') : p W := h W hF
theorem Blk.new3 (w : World) (o o' : Obj) (t : TypeId) (cs : Array Value) : Blk (((w.alloc o).alloc o').alloc (.cells cs t)) (w.heap.size + 1 + 1) t cs := by
  have := Blk.new2 (w.alloc o) o' t cs
  simpa using this
/-- A call that leaves all that was there, in any world that has only grown since. -/
theorem calmF {P : Program} {f : Nat} {args : Array Value} {v : Value} (W : World) (h : ∀ w, Fresh W w → Calls P f args w fun e w' => e = .returned v ∧ Fresh w w') :
    ∀ d os, Calls P f args (Go.Sort.grow (redrawn W d) os) fun e w'' => e = .returned v ∧ ∃ p : Regrown, w'' = Go.Sort.grow (redrawn W p.d) p.os :=
  fun _ _ => Calls.regrown_of ((h _ (fresh_of_below (below_regrown _ _ _))).mono fun _ _ h => ⟨h.1, h.2.below⟩)

theorem str_eq' (a b : ByteArray) : (a == b) = (a.data.toList == b.data.toList) := by
  show (a.data == b.data) = _
  simp

def leftF (n : Tr.Nd) (most : Int) : Int := if (Tr.count n : Int) ≤ most then most - Tr.count n else -1
def leftL (l : List Tr.Nd) (most : Int) : Int := if (1 + Tr.countL l : Int) ≤ most then most - 1 - Tr.countL l else -1

theorem ret_i64 (a b : Int) (h : a = b) : Ending.returned (.int .i64 a) = .returned (.int .i64 b) := by rw [h]

set_option maxHeartbeats 1000000 in
theorem left_any (m : Nat) : ∀ (n : Tr.Nd) (sl : Value) (most : Int) (w : World), Tr.count n ≤ m → RepL w n.kids sl → 0 ≤ most → most ≤ 1000000 →
    Calls Try.prog 32 #[.agg #[.int .i64 n.kind, .string ⟨n.text.toArray⟩, .int .i64 n.cols, sl], .int .i64 most] w fun e w' => e = .returned (.int .i64 (leftF n most)) ∧ Fresh w w' := by
  induction m with
  | zero => intro n _ _ _ h; have := Tr.count_pos n; omega
  | succ m ih =>
    intro n sl most w hm hr h0 h1
    obtain ⟨A, cap, rfl⟩ := hr.slice
    have hlen := hr.len
    unfold maxLen at hlen
    have HIH := hid ih
    have HR := hid hr
    have hk : Tr.countL n.kids ≤ m := by have := Tr.count_kids n; omega
    have HN := hid (Tr.count_kids n)
    clear ih hr hm
    generalize hks : n.kids = ks at *
    clear hks
    go_enter Try.func32, Try.ntmps32
    go_wp2_with fail
    go_loopw [1, 5] (fun x i wr => ∃ (j : Nat) (cur : Int), i = .int .i64 j ∧ x = .int .i64 cur ∧ j ≤ ks.length ∧ Hid (cur = leftL (ks.take j) most) ∧ Hid (Blk wr w.heap.size 24 #[.int .i64 n.kind, .string ⟨n.text.toArray⟩, .int .i64 n.cols, .slice A ks.length cap]) ∧ Hid (Fresh w wr)) (fun _ i _ => ks.length - (intOf i).toNat)
    case atStart => exact ⟨0, most - 1, rfl, by simp, Nat.zero_le _, by unfold leftL; simp [Tr.countL, Hid]; omega, Blk.new _ _ _, (Touch.refl _ w).alloc _⟩
    case round =>
      obtain ⟨j, cur, rfl, rfl, hj, HC, HB, HF⟩ := hrel
      obtain ⟨q0, q1, q2, q3, _, _, _, _, hg⟩ := Blk.four HB.out
      have hcur : -1 ≤ cur ∧ cur ≤ 1000000 := by rw [HC.out]; unfold leftL; split <;> omega
      obtain ⟨hcl, hcu⟩ := hcur
      by_cases c1 : j < ks.length
      · have d1 : decide ((j : Int) < (ks.length : Int)) = true := by simp; omega
        have d1' : (j : Int) < (ks.length : Int) := by omega
        by_cases c2 : 0 ≤ cur
        · have d2 : decide ((0 : Int) ≤ cur) = true := by simp; omega
          obtain ⟨g, o, sl, rfl, hg', m0, m1, m2, m3, hrk⟩ := HR.out.get j c1
          have p0 := HF.out.cell m0 (fun h => h)
          have p1 := HF.out.cell m1 (fun h => h)
          have p2 := HF.out.cell m2 (fun h => h)
          have p3 := HF.out.cell m3 (fun h => h)
          have hcnt := Tr.count_mem (List.getElem_mem (l := ks) (n := j) c1)
          have HTK := hid (Tr.countL_take ks j c1)
          have HRK := hid hrk
          clear m0 m1 m2 m3 hrk
          generalize ks[j] = x at *
          go_wp2_with fail
          refine (HIH.out x sl cur _ (by omega) (HRK.out.fresh HF.out) c2 hcu).mono ?_
          rintro e1 w1 ⟨rfl, hf⟩
          have HF1 := hid hf
          have HB1 := hid (hf.blk HB.out (fun h => h))
          clear hf q0 q1 q2 q3 p0 p1 p2 p3
          go_wp2_with fail
          go_roundw
          case rel =>
            refine ⟨j + 1, leftF x cur, by go_num, rfl, c1, ?_, HB1, HF.out.trans HF1.out⟩
            unfold Hid
            have h1 := HC.out
            unfold leftL at h1 ⊢
            unfold leftF
            rw [HTK.out]
            split at h1 <;> split <;> split <;> omega
          case measure => simp [intOf]; omega
        · have d2 : decide ((0 : Int) ≤ cur) = false := by simp; omega
          go_wp2_with fail
          go_ret
          refine ⟨ret_i64 _ _ ?_, HF.out⟩
          clear q0 q1 q2 q3
          have h1 := HC.out
          have h2 := Tr.countL_le ks j
          unfold leftL at h1
          unfold leftF
          rw [HN.out]
          split at h1 <;> split <;> omega
      · have d1 : decide ((j : Int) < (ks.length : Int)) = false := by simp; omega
        obtain rfl : j = ks.length := by omega
        go_wp2_with fail
        go_ret
        refine ⟨ret_i64 _ _ ?_, HF.out⟩
        have h1 := HC.out
        rw [List.take_length] at h1
        rw [h1]
        unfold leftL leftF
        rw [HN.out]
        split <;> split <;> omega
end Go.Proofs.Ytdacpbdamliafaa

/- The walks of the reference's Few, Equal and SameItems. -/
namespace Go.Proofs.Ytdacpbdamliafaa
open Go.RowKit

theorem ret_bool' (a b : Bool) (h : a = b) : Ending.returned (.bool a) = .returned (.bool b) := by rw [h]

theorem left_top (n : Tr.Nd) (sl : Value) (most : Int) (w : World) (hr : RepL w n.kids sl) (h0 : 0 ≤ most) (h1 : most ≤ 1000000) :
    Calls Try.prog 32 #[.agg #[.int .i64 n.kind, .string ⟨n.text.toArray⟩, .int .i64 n.cols, sl], .int .i64 most] w fun e w' => e = .returned (.int .i64 (leftF n most)) ∧ Fresh w w' := left_any _ n sl most w (Nat.le_refl _) hr h0 h1

theorem few_any (n : Tr.Nd) (sl : Value) (most : Int) (w : World) (hr : RepL w n.kids sl) (h0 : 0 ≤ most) (h1 : most ≤ 1000000) :
    Calls Try.prog 16 #[.agg #[.int .i64 n.kind, .string ⟨n.text.toArray⟩, .int .i64 n.cols, sl], .int .i64 most] w fun e w' => e = .returned (.bool (decide ((Tr.count n : Int) ≤ most))) ∧ Fresh w w' := by
  have HR := hid hr
  clear hr
  go_enter Try.func16, Try.ntmps16
  go_wp2_with fail
  refine Calls.mono (left_top n sl most _ (HR.out.fresh (by first | exact (Touch.refl _ _) | exact (Touch.refl _ _).alloc _ | exact ((Touch.refl _ _).alloc _).alloc _ | exact (((Touch.refl _ _).alloc _).alloc _).alloc _ | exact (Touch.refl _ _).drewN _ | exact ((Touch.refl _ _).alloc _).drewN _ | exact (((Touch.refl _ _).alloc _).alloc _).drewN _)) h0 h1) ?_
  rintro _ w1 ⟨rfl, hfw1⟩
  have HF1 := hid (show Fresh w w1 from by first | exact hfw1 | exact Touch.pre hfw1 | exact Touch.pre (Touch.pre hfw1) | exact Touch.ofN hfw1 | exact Touch.preN hfw1 | exact Touch.pre (Touch.pre (Touch.pre hfw1)))
  have B0_w1 : Blk w1 (w.heap.size) 24 #[.int .i64 n.kind, .string (⟨n.text.toArray⟩ : ByteArray), .int .i64 n.cols, sl] := Touch.blk hfw1 (by first | exact Blk.new _ _ _ | exact (Blk.new _ _ _).alloc _ | exact Blk.new2 _ _ _ _ | exact ((Blk.new _ _ _).alloc _).alloc _ | exact (Blk.new2 _ _ _ _).alloc _ | exact Blk.new3 _ _ _ _ _ | assumption | exact Blk.alloc (by assumption) _ | exact (Blk.alloc (Blk.alloc (by assumption) _) _)) (fun h => h)
  have q0_0_w1 : World.cell? w1 ⟨w.heap.size, 0, none⟩ = some (.int .i64 n.kind) := Blk.cell B0_w1 0
  have q0_1_w1 : World.cell? w1 ⟨w.heap.size, 1, none⟩ = some (.string (⟨n.text.toArray⟩ : ByteArray)) := Blk.cell B0_w1 1
  have q0_2_w1 : World.cell? w1 ⟨w.heap.size, 2, none⟩ = some (.int .i64 n.cols) := Blk.cell B0_w1 2
  have q0_3_w1 : World.cell? w1 ⟨w.heap.size, 3, none⟩ = some (sl) := Blk.cell B0_w1 3
  clear hfw1
  go_wp2_with fail
  go_ret
  refine ⟨ret_bool' _ _ ?_, HF1.out⟩
  rw [Bool.eq_iff_iff, decide_eq_true_iff, decide_eq_true_iff]
  unfold leftF
  split <;> omega


end Go.Proofs.Ytdacpbdamliafaa

/- The walks of node's predicates on texts. -/
namespace Go.Proofs.Ytdacpbdamliafaa
open Go.RowKit

theorem all_snoc' (l : List UInt8) (j : Nat) (h : j < l.length) (p : UInt8 → Bool) : (l.take (j + 1)).all p = ((l.take j).all p && p l[j]) := by
  rw [List.take_add_one, List.getElem?_eq_getElem h, List.all_append]; simp only [Option.toList_some, List.all_cons, List.all_nil, Bool.and_true]
theorem all_no (l : List UInt8) (j : Nat) (h : j < l.length) (p : UInt8 → Bool) (hn : p l[j] = false) : l.all p = false := by
  rw [List.all_eq_false]
  exact ⟨l[j], List.getElem_mem _, by rw [hn]; decide⟩
theorem isEmpty_str (s : ByteArray) : s.toList.isEmpty = (s.data.toList == []) := by
  rw [ByteArray.toList_eq]
  cases s.data.toList <;> rfl
theorem all_end (s : ByteArray) (p : UInt8 → Bool) (j : Nat) (hj : j ≤ s.size) (hn : ¬ j < s.size) (h : (s.data.toList.take j).all p = true) : s.data.toList.all p = true := by
  have : s.data.toList.length = s.size := by simp
  rwa [List.take_of_length_le (by omega)] at h
theorem letter_or_256 : ∀ n : Fin 256, Tr.letter (UInt8.ofNat n.1) = (!decide (bits .or .u8 (n.1 : Int) 32 < (97 : Int)) && !decide ((122 : Int) < bits .or .u8 (n.1 : Int) 32)) := by decide +kernel
theorem letter_or (b : UInt8) : Tr.letter b = (!decide (bits .or .u8 (b.toNat : Int) 32 < (97 : Int)) && !decide ((122 : Int) < bits .or .u8 (b.toNat : Int) 32)) := by
  have := letter_or_256 ⟨b.toNat, b.toNat_lt⟩
  simpa using this
theorem digit_256 : ∀ n : Fin 256, Tr.digit (UInt8.ofNat n.1) = (!decide ((n.1 : Int) < (48 : Int)) && !decide ((57 : Int) < (n.1 : Int))) := by decide +kernel
theorem digit_or (b : UInt8) : Tr.digit b = (!decide ((b.toNat : Int) < (48 : Int)) && !decide ((57 : Int) < (b.toNat : Int))) := by
  have := digit_256 ⟨b.toNat, b.toNat_lt⟩
  simpa using this
def plainB (b : UInt8) : Bool := decide (32 ≤ b) && decide (b ≤ 126)
theorem plain_256 : ∀ n : Fin 256, plainB (UInt8.ofNat n.1) = (!decide ((n.1 : Int) < (32 : Int)) && !decide ((126 : Int) < (n.1 : Int))) := by decide +kernel
theorem plain_or (b : UInt8) : plainB b = (!decide ((b.toNat : Int) < (32 : Int)) && !decide ((126 : Int) < (b.toNat : Int))) := by
  have := plain_256 ⟨b.toNat, b.toNat_lt⟩
  simpa using this

set_option maxHeartbeats 400000 in
theorem letters_any (s : ByteArray) (w : World) (hm : s.size ≤ 9223372036854775807) :
    Calls Try.prog 77 #[.string s] w fun e w' => e = .returned (.bool (s.data.toList.all Tr.letter)) ∧ w' = w := by
  go_enter Try.func77, Try.ntmps77
  go_wp2_with fail
  go_loopw [3] (fun i wr => ∃ j : Nat, i = .int .i64 j ∧ j ≤ s.size ∧ Hid ((s.data.toList.take j).all Tr.letter = true) ∧ wr = w) (fun i _ => s.size - (intOf i).toNat)
  case atStart => exact ⟨0, rfl, Nat.zero_le _, by simp [Hid], rfl⟩
  case round =>
    obtain ⟨j, rfl, hj, HA, rfl⟩ := hrel
    by_cases c1 : j < s.size
    · have d1 : decide ((j : Int) < (s.size : Int)) = true := by simp; omega
      have d1' : (j : Int) < (s.size : Int) := by omega
      obtain ⟨b, hb⟩ : ∃ b, s[j]'c1 = b := ⟨_, rfl⟩
      have hst := all_snoc' s.data.toList j (by simpa using c1) Tr.letter
      have hno := all_no s.data.toList j (by simpa using c1) Tr.letter
      have hbl : s.data.toList[j]'(by simpa using c1) = b := hb
      rw [hbl] at hst hno
      have HS := hid hst
      have HN := hid hno
      clear hst hno hbl
      cases h1 : decide ((bits .or .u8 (b.toNat : Int) (32 : Int)) < (97 : Int)) with
      | false =>
        cases h2 : decide ((122 : Int) < (bits .or .u8 (b.toNat : Int) (32 : Int))) with
        | false =>
          go_wp2_with fail
          go_roundw
          case rel => exact ⟨j + 1, by go_num, c1, by unfold Hid; rw [HS.out, HA.out]; rw [letter_or]; simp_all, trivial⟩
          case measure => simp [intOf]; omega
        | true =>
          go_wp2_with fail
          go_ret
          exact ⟨by rw [HN.out (by rw [letter_or]; simp_all)]; rfl, rfl⟩
      | true =>
        go_wp2_with fail
        go_ret
        exact ⟨by rw [HN.out (by rw [letter_or]; simp_all)]; rfl, rfl⟩
    · have d1 : decide ((j : Int) < (s.size : Int)) = false := by simp; omega
      go_wp2_with fail
      go_ret
      exact ⟨by rw [all_end s Tr.letter j hj c1 HA.out]; rfl, rfl⟩

set_option maxHeartbeats 400000 in
theorem digits_any (s : ByteArray) (w : World) (hm : s.size ≤ 9223372036854775807) :
    Calls Try.prog 81 #[.string s] w fun e w' => e = .returned (.bool (s.data.toList.all Tr.digit && !(s.data.toList == []))) ∧ w' = w := by
  go_enter Try.func81, Try.ntmps81
  go_wp2_with fail
  go_loopw [3] (fun i wr => ∃ j : Nat, i = .int .i64 j ∧ j ≤ s.size ∧ Hid ((s.data.toList.take j).all Tr.digit = true) ∧ wr = w) (fun i _ => s.size - (intOf i).toNat)
  case atStart => exact ⟨0, rfl, Nat.zero_le _, by simp [Hid], rfl⟩
  case round =>
    obtain ⟨j, rfl, hj, HA, rfl⟩ := hrel
    by_cases c1 : j < s.size
    · have d1 : decide ((j : Int) < (s.size : Int)) = true := by simp; omega
      have d1' : (j : Int) < (s.size : Int) := by omega
      obtain ⟨b, hb⟩ : ∃ b, s[j]'c1 = b := ⟨_, rfl⟩
      have hst := all_snoc' s.data.toList j (by simpa using c1) Tr.digit
      have hno := all_no s.data.toList j (by simpa using c1) Tr.digit
      have hbl : s.data.toList[j]'(by simpa using c1) = b := hb
      rw [hbl] at hst hno
      have HS := hid hst
      have HN := hid hno
      clear hst hno hbl
      cases h3 : decide ((b.toNat : Int) < (48 : Int)) with
      | false =>
        cases h4 : decide ((57 : Int) < (b.toNat : Int)) with
        | false =>
          have h4n : decide (57 < b.toNat) = false := by have hx := h4; simp only [decide_eq_false_iff_not] at hx ⊢; omega
          go_wp2_with fail
          go_roundw
          case rel => exact ⟨j + 1, by go_num, c1, by unfold Hid; rw [HS.out, HA.out]; rw [digit_or]; simp_all, trivial⟩
          case measure => simp [intOf]; omega
        | true =>
          have h4n : decide (57 < b.toNat) = true := by have hx := h4; simp only [decide_eq_true_eq] at hx ⊢; omega
          go_wp2_with fail
          go_ret
          exact ⟨by rw [HN.out (by rw [digit_or]; simp_all)]; rfl, rfl⟩
      | true =>
        go_wp2_with fail
        go_ret
        exact ⟨by rw [HN.out (by rw [digit_or]; simp_all)]; rfl, rfl⟩
    · have d1 : decide ((j : Int) < (s.size : Int)) = false := by simp; omega
      cases h5 : (s.data.toList == ([] : List UInt8)) with
      | false =>
        have h5s : (s == (⟨#[]⟩ : ByteArray)) = false := by rw [str_eq']; exact h5
        have h5t : (s != (⟨#[]⟩ : ByteArray)) = true := by rw [bne, h5s]; rfl
        have h5e : (ByteArray.toList s).isEmpty = false := by rw [isEmpty_str]; exact h5
        go_wp2_with fail
        go_ret
        exact ⟨ret_bool' _ _ (Eq.symm (by rw [all_end s Tr.digit j hj c1 HA.out, Bool.true_and]; simp only [*]; rfl)), rfl⟩
      | true =>
        have h5s : (s == (⟨#[]⟩ : ByteArray)) = true := by rw [str_eq']; exact h5
        have h5t : (s != (⟨#[]⟩ : ByteArray)) = false := by rw [bne, h5s]; rfl
        have h5e : (ByteArray.toList s).isEmpty = true := by rw [isEmpty_str]; exact h5
        go_wp2_with fail
        go_ret
        exact ⟨ret_bool' _ _ (Eq.symm (by rw [all_end s Tr.digit j hj c1 HA.out, Bool.true_and]; simp only [*]; rfl)), rfl⟩

set_option maxHeartbeats 400000 in
theorem plain_any (s : ByteArray) (w : World) (hm : s.size ≤ 9223372036854775807) :
    Calls Try.prog 53 #[.string s] w fun e w' => e = .returned (.bool (s.data.toList.all plainB && decide ((s.size : Int) ≤ (200 : Int)))) ∧ w' = w := by
  go_enter Try.func53, Try.ntmps53
  go_wp2_with fail
  go_loopw [3] (fun i wr => ∃ j : Nat, i = .int .i64 j ∧ j ≤ s.size ∧ Hid ((s.data.toList.take j).all plainB = true) ∧ wr = w) (fun i _ => s.size - (intOf i).toNat)
  case atStart => exact ⟨0, rfl, Nat.zero_le _, by simp [Hid], rfl⟩
  case round =>
    obtain ⟨j, rfl, hj, HA, rfl⟩ := hrel
    by_cases c1 : j < s.size
    · have d1 : decide ((j : Int) < (s.size : Int)) = true := by simp; omega
      have d1' : (j : Int) < (s.size : Int) := by omega
      obtain ⟨b, hb⟩ : ∃ b, s[j]'c1 = b := ⟨_, rfl⟩
      have hst := all_snoc' s.data.toList j (by simpa using c1) plainB
      have hno := all_no s.data.toList j (by simpa using c1) plainB
      have hbl : s.data.toList[j]'(by simpa using c1) = b := hb
      rw [hbl] at hst hno
      have HS := hid hst
      have HN := hid hno
      clear hst hno hbl
      cases h6 : decide ((b.toNat : Int) < (32 : Int)) with
      | false =>
        cases h7 : decide ((126 : Int) < (b.toNat : Int)) with
        | false =>
          have h7n : decide (126 < b.toNat) = false := by have hx := h7; simp only [decide_eq_false_iff_not] at hx ⊢; omega
          go_wp2_with fail
          go_roundw
          case rel => exact ⟨j + 1, by go_num, c1, by unfold Hid; rw [HS.out, HA.out]; rw [plain_or]; simp_all, trivial⟩
          case measure => simp [intOf]; omega
        | true =>
          have h7n : decide (126 < b.toNat) = true := by have hx := h7; simp only [decide_eq_true_eq] at hx ⊢; omega
          go_wp2_with fail
          go_ret
          exact ⟨by rw [HN.out (by rw [plain_or]; simp_all)]; rfl, rfl⟩
      | true =>
        go_wp2_with fail
        go_ret
        exact ⟨by rw [HN.out (by rw [plain_or]; simp_all)]; rfl, rfl⟩
    · have d1 : decide ((j : Int) < (s.size : Int)) = false := by simp; omega
      cases h8 : decide ((s.size : Int) ≤ (200 : Int)) with
      | false =>
        go_wp2_with fail
        go_ret
        exact ⟨ret_bool' _ _ (Eq.symm (by rw [all_end s plainB j hj c1 HA.out, Bool.true_and]; assumption)), rfl⟩
      | true =>
        go_wp2_with fail
        go_ret
        exact ⟨ret_bool' _ _ (Eq.symm (by rw [all_end s plainB j hj c1 HA.out, Bool.true_and]; assumption)), rfl⟩

set_option maxHeartbeats 400000 in
theorem accent_any (s : ByteArray) (w : World) :
    Calls Try.prog 54 #[.string s] w fun e w' => e = .returned (.bool (Tr.accents.contains s.data.toList)) ∧ w' = w := by
  go_enter Try.func54, Try.ntmps54
  cases h9 : (s.data.toList == ([104, 97, 116] : List UInt8)) with
  | false =>
    have h9s : (s == (⟨#[104, 97, 116]⟩ : ByteArray)) = false := by rw [str_eq']; exact h9
    have h9t : (s != (⟨#[104, 97, 116]⟩ : ByteArray)) = true := by rw [bne, h9s]; rfl
    have h9l : (ByteArray.toList s == [104, 97, 116]) = false := by rw [ByteArray.toList_eq]; exact h9
    cases h10 : (s.data.toList == ([98, 97, 114] : List UInt8)) with
    | false =>
      have h10s : (s == (⟨#[98, 97, 114]⟩ : ByteArray)) = false := by rw [str_eq']; exact h10
      have h10t : (s != (⟨#[98, 97, 114]⟩ : ByteArray)) = true := by rw [bne, h10s]; rfl
      have h10l : (ByteArray.toList s == [98, 97, 114]) = false := by rw [ByteArray.toList_eq]; exact h10
      cases h11 : (s.data.toList == ([118, 101, 99] : List UInt8)) with
      | false =>
        have h11s : (s == (⟨#[118, 101, 99]⟩ : ByteArray)) = false := by rw [str_eq']; exact h11
        have h11t : (s != (⟨#[118, 101, 99]⟩ : ByteArray)) = true := by rw [bne, h11s]; rfl
        have h11l : (ByteArray.toList s == [118, 101, 99]) = false := by rw [ByteArray.toList_eq]; exact h11
        cases h12 : (s.data.toList == ([100, 111, 116] : List UInt8)) with
        | false =>
          have h12s : (s == (⟨#[100, 111, 116]⟩ : ByteArray)) = false := by rw [str_eq']; exact h12
          have h12t : (s != (⟨#[100, 111, 116]⟩ : ByteArray)) = true := by rw [bne, h12s]; rfl
          have h12l : (ByteArray.toList s == [100, 111, 116]) = false := by rw [ByteArray.toList_eq]; exact h12
          cases h13 : (s.data.toList == ([116, 105, 108, 100, 101] : List UInt8)) with
          | false =>
            have h13s : (s == (⟨#[116, 105, 108, 100, 101]⟩ : ByteArray)) = false := by rw [str_eq']; exact h13
            have h13t : (s != (⟨#[116, 105, 108, 100, 101]⟩ : ByteArray)) = true := by rw [bne, h13s]; rfl
            have h13l : (ByteArray.toList s == [116, 105, 108, 100, 101]) = false := by rw [ByteArray.toList_eq]; exact h13
            cases h14 : (s.data.toList == ([99, 104, 101, 99, 107] : List UInt8)) with
            | false =>
              have h14s : (s == (⟨#[99, 104, 101, 99, 107]⟩ : ByteArray)) = false := by rw [str_eq']; exact h14
              have h14t : (s != (⟨#[99, 104, 101, 99, 107]⟩ : ByteArray)) = true := by rw [bne, h14s]; rfl
              have h14l : (ByteArray.toList s == [99, 104, 101, 99, 107]) = false := by rw [ByteArray.toList_eq]; exact h14
              go_wp2_with fail
              go_ret
              exact ⟨ret_bool' _ _ (by simp only [Tr.accents, List.contains_cons, List.contains_nil, *] <;> rfl), rfl⟩
            | true =>
              have h14s : (s == (⟨#[99, 104, 101, 99, 107]⟩ : ByteArray)) = true := by rw [str_eq']; exact h14
              have h14t : (s != (⟨#[99, 104, 101, 99, 107]⟩ : ByteArray)) = false := by rw [bne, h14s]; rfl
              have h14l : (ByteArray.toList s == [99, 104, 101, 99, 107]) = true := by rw [ByteArray.toList_eq]; exact h14
              go_wp2_with fail
              go_ret
              exact ⟨ret_bool' _ _ (by simp only [Tr.accents, List.contains_cons, List.contains_nil, *] <;> rfl), rfl⟩
          | true =>
            have h13s : (s == (⟨#[116, 105, 108, 100, 101]⟩ : ByteArray)) = true := by rw [str_eq']; exact h13
            have h13t : (s != (⟨#[116, 105, 108, 100, 101]⟩ : ByteArray)) = false := by rw [bne, h13s]; rfl
            have h13l : (ByteArray.toList s == [116, 105, 108, 100, 101]) = true := by rw [ByteArray.toList_eq]; exact h13
            go_wp2_with fail
            go_ret
            exact ⟨ret_bool' _ _ (by simp only [Tr.accents, List.contains_cons, List.contains_nil, *] <;> rfl), rfl⟩
        | true =>
          have h12s : (s == (⟨#[100, 111, 116]⟩ : ByteArray)) = true := by rw [str_eq']; exact h12
          have h12t : (s != (⟨#[100, 111, 116]⟩ : ByteArray)) = false := by rw [bne, h12s]; rfl
          have h12l : (ByteArray.toList s == [100, 111, 116]) = true := by rw [ByteArray.toList_eq]; exact h12
          go_wp2_with fail
          go_ret
          exact ⟨ret_bool' _ _ (by simp only [Tr.accents, List.contains_cons, List.contains_nil, *] <;> rfl), rfl⟩
      | true =>
        have h11s : (s == (⟨#[118, 101, 99]⟩ : ByteArray)) = true := by rw [str_eq']; exact h11
        have h11t : (s != (⟨#[118, 101, 99]⟩ : ByteArray)) = false := by rw [bne, h11s]; rfl
        have h11l : (ByteArray.toList s == [118, 101, 99]) = true := by rw [ByteArray.toList_eq]; exact h11
        go_wp2_with fail
        go_ret
        exact ⟨ret_bool' _ _ (by simp only [Tr.accents, List.contains_cons, List.contains_nil, *] <;> rfl), rfl⟩
    | true =>
      have h10s : (s == (⟨#[98, 97, 114]⟩ : ByteArray)) = true := by rw [str_eq']; exact h10
      have h10t : (s != (⟨#[98, 97, 114]⟩ : ByteArray)) = false := by rw [bne, h10s]; rfl
      have h10l : (ByteArray.toList s == [98, 97, 114]) = true := by rw [ByteArray.toList_eq]; exact h10
      go_wp2_with fail
      go_ret
      exact ⟨ret_bool' _ _ (by simp only [Tr.accents, List.contains_cons, List.contains_nil, *] <;> rfl), rfl⟩
  | true =>
    have h9s : (s == (⟨#[104, 97, 116]⟩ : ByteArray)) = true := by rw [str_eq']; exact h9
    have h9t : (s != (⟨#[104, 97, 116]⟩ : ByteArray)) = false := by rw [bne, h9s]; rfl
    have h9l : (ByteArray.toList s == [104, 97, 116]) = true := by rw [ByteArray.toList_eq]; exact h9
    go_wp2_with fail
    go_ret
    exact ⟨ret_bool' _ _ (by simp only [Tr.accents, List.contains_cons, List.contains_nil, *] <;> rfl), rfl⟩

set_option maxHeartbeats 400000 in
theorem keyword_any (s : ByteArray) (w : World) :
    Calls Try.prog 79 #[.string s] w fun e w' => e = .returned (.bool (Tr.keywords.contains s.data.toList)) ∧ w' = w := by
  go_enter Try.func79, Try.ntmps79
  cases h15 : (s.data.toList == ([102, 114, 97, 99] : List UInt8)) with
  | false =>
    have h15s : (s == (⟨#[102, 114, 97, 99]⟩ : ByteArray)) = false := by rw [str_eq']; exact h15
    have h15t : (s != (⟨#[102, 114, 97, 99]⟩ : ByteArray)) = true := by rw [bne, h15s]; rfl
    have h15l : (ByteArray.toList s == [102, 114, 97, 99]) = false := by rw [ByteArray.toList_eq]; exact h15
    cases h16 : (s.data.toList == ([114, 111, 111, 116] : List UInt8)) with
    | false =>
      have h16s : (s == (⟨#[114, 111, 111, 116]⟩ : ByteArray)) = false := by rw [str_eq']; exact h16
      have h16t : (s != (⟨#[114, 111, 111, 116]⟩ : ByteArray)) = true := by rw [bne, h16s]; rfl
      have h16l : (ByteArray.toList s == [114, 111, 111, 116]) = false := by rw [ByteArray.toList_eq]; exact h16
      cases h17 : (s.data.toList == ([109, 97, 116, 114, 105, 120] : List UInt8)) with
      | false =>
        have h17s : (s == (⟨#[109, 97, 116, 114, 105, 120]⟩ : ByteArray)) = false := by rw [str_eq']; exact h17
        have h17t : (s != (⟨#[109, 97, 116, 114, 105, 120]⟩ : ByteArray)) = true := by rw [bne, h17s]; rfl
        have h17l : (ByteArray.toList s == [109, 97, 116, 114, 105, 120]) = false := by rw [ByteArray.toList_eq]; exact h17
        cases h18 : (s.data.toList == ([102, 101, 110, 99, 101] : List UInt8)) with
        | false =>
          have h18s : (s == (⟨#[102, 101, 110, 99, 101]⟩ : ByteArray)) = false := by rw [str_eq']; exact h18
          have h18t : (s != (⟨#[102, 101, 110, 99, 101]⟩ : ByteArray)) = true := by rw [bne, h18s]; rfl
          have h18l : (ByteArray.toList s == [102, 101, 110, 99, 101]) = false := by rw [ByteArray.toList_eq]; exact h18
          go_wp2_with fail
          go_ret
          exact ⟨ret_bool' _ _ (by simp only [Tr.keywords, List.contains_cons, List.contains_nil, *] <;> rfl), rfl⟩
        | true =>
          have h18s : (s == (⟨#[102, 101, 110, 99, 101]⟩ : ByteArray)) = true := by rw [str_eq']; exact h18
          have h18t : (s != (⟨#[102, 101, 110, 99, 101]⟩ : ByteArray)) = false := by rw [bne, h18s]; rfl
          have h18l : (ByteArray.toList s == [102, 101, 110, 99, 101]) = true := by rw [ByteArray.toList_eq]; exact h18
          go_wp2_with fail
          go_ret
          exact ⟨ret_bool' _ _ (by simp only [Tr.keywords, List.contains_cons, List.contains_nil, *] <;> rfl), rfl⟩
      | true =>
        have h17s : (s == (⟨#[109, 97, 116, 114, 105, 120]⟩ : ByteArray)) = true := by rw [str_eq']; exact h17
        have h17t : (s != (⟨#[109, 97, 116, 114, 105, 120]⟩ : ByteArray)) = false := by rw [bne, h17s]; rfl
        have h17l : (ByteArray.toList s == [109, 97, 116, 114, 105, 120]) = true := by rw [ByteArray.toList_eq]; exact h17
        go_wp2_with fail
        go_ret
        exact ⟨ret_bool' _ _ (by simp only [Tr.keywords, List.contains_cons, List.contains_nil, *] <;> rfl), rfl⟩
    | true =>
      have h16s : (s == (⟨#[114, 111, 111, 116]⟩ : ByteArray)) = true := by rw [str_eq']; exact h16
      have h16t : (s != (⟨#[114, 111, 111, 116]⟩ : ByteArray)) = false := by rw [bne, h16s]; rfl
      have h16l : (ByteArray.toList s == [114, 111, 111, 116]) = true := by rw [ByteArray.toList_eq]; exact h16
      go_wp2_with fail
      go_ret
      exact ⟨ret_bool' _ _ (by simp only [Tr.keywords, List.contains_cons, List.contains_nil, *] <;> rfl), rfl⟩
  | true =>
    have h15s : (s == (⟨#[102, 114, 97, 99]⟩ : ByteArray)) = true := by rw [str_eq']; exact h15
    have h15t : (s != (⟨#[102, 114, 97, 99]⟩ : ByteArray)) = false := by rw [bne, h15s]; rfl
    have h15l : (ByteArray.toList s == [102, 114, 97, 99]) = true := by rw [ByteArray.toList_eq]; exact h15
    go_wp2_with fail
    go_ret
    exact ⟨ret_bool' _ _ (by simp only [Tr.keywords, List.contains_cons, List.contains_nil, *] <;> rfl), rfl⟩

set_option maxHeartbeats 400000 in
theorem empty_any (s : ByteArray) (w : World) :
    Calls Try.prog 50 #[.string s] w fun e w' => e = .returned (.bool (s.data.toList.isEmpty)) ∧ w' = w := by
  go_enter Try.func50, Try.ntmps50
  cases h19 : (s.data.toList == ([] : List UInt8)) with
  | false =>
    have h19s : (s == (⟨#[]⟩ : ByteArray)) = false := by rw [str_eq']; exact h19
    have h19t : (s != (⟨#[]⟩ : ByteArray)) = true := by rw [bne, h19s]; rfl
    have h19e : (ByteArray.toList s).isEmpty = false := by rw [isEmpty_str]; exact h19
    go_wp2_with fail
    go_ret
    exact ⟨ret_bool' _ _ (by cases hs : s.data.toList <;> simp_all), rfl⟩
  | true =>
    have h19s : (s == (⟨#[]⟩ : ByteArray)) = true := by rw [str_eq']; exact h19
    have h19t : (s != (⟨#[]⟩ : ByteArray)) = false := by rw [bne, h19s]; rfl
    have h19e : (ByteArray.toList s).isEmpty = true := by rw [isEmpty_str]; exact h19
    go_wp2_with fail
    go_ret
    exact ⟨ret_bool' _ _ (by cases hs : s.data.toList <;> simp_all), rfl⟩

end Go.Proofs.Ytdacpbdamliafaa

/- The walks of node's Symbol, fence and Number. -/
namespace Go.Proofs.Ytdacpbdamliafaa
open Go.RowKit

theorem idx_contains (l : List UInt8) (c : UInt8) : decide ((0 : Int) ≤ Lib.indexByte l c) = l.contains c := by
  induction l with
  | nil => rfl
  | cons b l ih =>
    rw [Lib.indexByte, List.contains_cons]
    cases h : b == c with
    | true =>
      have : b = c := by simpa using h
      subst this
      simp
    | false =>
      have h2 : (c == b) = false := by
        rw [beq_eq_false_iff_ne] at h ⊢; exact fun e => h e.symm
      rw [h2, Bool.false_or, ← ih]
      have hlo : -1 ≤ Lib.indexByte l c := by
        clear ih
        induction l with
        | nil => show (-1 : Int) ≤ -1; decide
        | cons b l ih => rw [Lib.indexByte]; split <;> (try split) <;> omega
      cases h3 : Lib.indexByte l c == -1 with
      | true =>
        have : Lib.indexByte l c = -1 := by simpa using h3
        rw [this]; rfl
      | false =>
        have : Lib.indexByte l c ≠ -1 := by simpa using h3
        simp only [Bool.false_eq_true, if_false]
        rw [Bool.eq_iff_iff, decide_eq_true_iff, decide_eq_true_iff]; omega

theorem str_one (s : ByteArray) (h : s.size = 1) : ∃ c, s = ⟨#[c]⟩ := by
  obtain ⟨⟨l⟩⟩ := s
  match l, h with
  | [c], _ => exact ⟨c, rfl⟩
theorem str_two (s : ByteArray) (h : s.size = 2) : ∃ a b, s = ⟨#[a, b]⟩ := by
  obtain ⟨⟨l⟩⟩ := s
  match l, h with
  | [a, b], _ => exact ⟨a, b, rfl⟩

theorem contains_one (l : List UInt8) (c : UInt8) (w : World) :
    Calls Try.prog 78 #[.string ⟨l.toArray⟩, .string ⟨#[c]⟩] w fun e w' => e = .returned (.bool (l.contains c)) ∧ w' = w := by
  have := Try.strings_Contains_one ⟨l.toArray⟩ c w
  rw [← idx_contains]; exact this
theorem indexByte_byte (l : List UInt8) (c : UInt8) (w : World) :
    Calls Try.prog 82 #[.string ⟨l.toArray⟩, .int .u8 (c.toNat : Int)] w fun e w' => e = .returned (.int .i64 (Lib.indexByte l c)) ∧ w' = w := by
  have := Try.strings_IndexByte ⟨l.toArray⟩ (c.toNat : Int) w
  simpa using this

theorem signs_perm (c : UInt8) : Tr.signs.contains c = ([43, 45, 42, 47, 61, 60, 62, 44, 59, 58, 33, 124, 39, 63, 126, 64] : List UInt8).contains c := rfl
theorem delims_256 : ∀ n : Fin 256, Tr.delims.contains (UInt8.ofNat n.1) = ([40, 41, 91, 93, 123, 125, 60, 62, 47, 124, 46] : List UInt8).contains (UInt8.ofNat n.1) := by decide +kernel
theorem delims_perm (c : UInt8) : Tr.delims.contains c = ([40, 41, 91, 93, 123, 125, 60, 62, 47, 124, 46] : List UInt8).contains c := by
  have := delims_256 ⟨c.toNat, c.toNat_lt⟩
  simpa using this

theorem symbol_any (s : ByteArray) (w : World) (hm : s.size ≤ 9223372036854775807) :
    Calls Try.prog 51 #[.string s] w fun e w' => e = .returned (.bool (Tr.symbol s.data.toList)) ∧ w' = w := by
  by_cases h1 : s.size = 1
  · obtain ⟨c, rfl⟩ := str_one s h1
    clear h1 hm
    have hsz : (ByteArray.size ⟨#[c]⟩ : Int) = 1 := rfl
    have hsp : Tr.symbol (ByteArray.data ⟨#[c]⟩).toList = (([c] : List UInt8).all Tr.letter || ([43, 45, 42, 47, 61, 60, 62, 44, 59, 58, 33, 124, 39, 63, 126, 64] : List UInt8).contains c) := by
      show (Tr.letter c || Tr.signs.contains c) = ((Tr.letter c && true) || _)
      rw [Bool.and_true, signs_perm]
    have HSP := hid hsp
    clear hsp
    go_enter Try.func51, Try.ntmps51
    go_wp2_with fail
    refine Calls.mono (letters_any (⟨#[c]⟩ : ByteArray) _ (by first | assumption | exact (show 1 ≤ 9223372036854775807 by decide))) ?_
    rintro _ _ ⟨rfl, rfl⟩
    cases h1 : (([c] : List UInt8).all Tr.letter) with
    | false =>
      go_wp2_with fail
      refine Calls.mono (contains_one ([43, 45, 42, 47, 61, 60, 62, 44, 59, 58, 33, 124, 39, 63, 126, 64] : List UInt8) c _) ?_
      rintro _ _ ⟨rfl, rfl⟩
      cases h2 : (([43, 45, 42, 47, 61, 60, 62, 44, 59, 58, 33, 124, 39, 63, 126, 64] : List UInt8).contains c) with
      | false =>
        go_wp2_with fail
        go_ret
        exact ⟨ret_bool' _ _ (by rw [HSP.out] <;> (simp only [*] <;> rfl)), rfl⟩
      | true =>
        go_wp2_with fail
        go_ret
        exact ⟨ret_bool' _ _ (by rw [HSP.out] <;> (simp only [*] <;> rfl)), rfl⟩
    | true =>
      go_wp2_with fail
      go_ret
      exact ⟨ret_bool' _ _ (by rw [HSP.out] <;> (simp only [*] <;> rfl)), rfl⟩
  · have h1' : ((s.size : Int) == (1 : Int)) = false := by rw [beq_eq_false_iff_ne]; omega
    have hsp : Tr.symbol s.data.toList = (decide ((2 : Int) ≤ (s.size : Int)) && (decide ((s.size : Int) ≤ (16 : Int)) && (s.data.toList.all Tr.letter && ((!Tr.keywords.contains s.data.toList) && !Tr.accents.contains s.data.toList)))) := by
      have hl : s.data.toList.length = s.size := by simp
      have e1 : decide ((2 : Int) ≤ (s.size : Int)) = decide (2 ≤ s.data.toList.length) := by rw [hl, Bool.eq_iff_iff, decide_eq_true_iff, decide_eq_true_iff]; omega
      have e2 : decide ((s.size : Int) ≤ (16 : Int)) = decide (s.data.toList.length ≤ 16) := by rw [hl, Bool.eq_iff_iff, decide_eq_true_iff, decide_eq_true_iff]; omega
      rw [e1, e2]
      rw [← hl] at h1
      generalize s.data.toList = l at *
      match l, h1 with
      | [], _ => rfl
      | [c], h1 => exact absurd rfl h1
      | a :: b :: l, _ =>
        show ((a :: b :: l).all Tr.letter && decide (2 ≤ (a :: b :: l).length) && decide ((a :: b :: l).length ≤ 16) && !Tr.keywords.contains (a :: b :: l) && !Tr.accents.contains (a :: b :: l)) = _
        generalize (a :: b :: l).all Tr.letter = x1
        generalize decide (2 ≤ (a :: b :: l).length) = x2
        generalize decide ((a :: b :: l).length ≤ 16) = x3
        generalize Tr.keywords.contains (a :: b :: l) = x4
        generalize Tr.accents.contains (a :: b :: l) = x5
        cases x1 <;> cases x2 <;> cases x3 <;> cases x4 <;> cases x5 <;> rfl
    have HSP := hid hsp
    clear hsp h1
    go_enter Try.func51, Try.ntmps51
    cases h3 : decide ((2 : Int) ≤ (s.size : Int)) with
    | false =>
      have h3n : decide (2 ≤ s.size) = false := by have hx := h3; simp only [decide_eq_false_iff_not] at hx ⊢; omega
      go_wp2_with fail
      go_ret
      exact ⟨ret_bool' _ _ (by rw [HSP.out] <;> (simp only [*] <;> rfl)), rfl⟩
    | true =>
      have h3n : decide (2 ≤ s.size) = true := by have hx := h3; simp only [decide_eq_true_eq] at hx ⊢; omega
      cases h4 : decide ((s.size : Int) ≤ (16 : Int)) with
      | false =>
        go_wp2_with fail
        go_ret
        exact ⟨ret_bool' _ _ (by rw [HSP.out] <;> (simp only [*] <;> rfl)), rfl⟩
      | true =>
        go_wp2_with fail
        refine Calls.mono (letters_any s _ (by first | assumption | exact (show 1 ≤ 9223372036854775807 by decide))) ?_
        rintro _ _ ⟨rfl, rfl⟩
        cases h5 : (s.data.toList.all Tr.letter) with
        | false =>
          go_wp2_with fail
          go_ret
          exact ⟨ret_bool' _ _ (by rw [HSP.out] <;> (simp only [*] <;> rfl)), rfl⟩
        | true =>
          go_wp2_with fail
          refine Calls.mono (keyword_any s _) ?_
          rintro _ _ ⟨rfl, rfl⟩
          cases h6 : (Tr.keywords.contains s.data.toList) with
          | false =>
            go_wp2_with fail
            refine Calls.mono (accent_any s _) ?_
            rintro _ _ ⟨rfl, rfl⟩
            cases h7 : (Tr.accents.contains s.data.toList) with
            | false =>
              go_wp2_with fail
              go_ret
              exact ⟨ret_bool' _ _ (by rw [HSP.out] <;> (simp only [*] <;> rfl)), rfl⟩
            | true =>
              go_wp2_with fail
              go_ret
              exact ⟨ret_bool' _ _ (by rw [HSP.out] <;> (simp only [*] <;> rfl)), rfl⟩
          | true =>
            go_wp2_with fail
            go_ret
            exact ⟨ret_bool' _ _ (by rw [HSP.out] <;> (simp only [*] <;> rfl)), rfl⟩
theorem fence_any (s : ByteArray) (w : World) :
    Calls Try.prog 55 #[.string s] w fun e w' => e = .returned (.bool (Tr.fence s.data.toList)) ∧ w' = w := by
  by_cases h1 : s.size = 2
  · obtain ⟨a, b, rfl⟩ := str_two s h1
    clear h1
    have hsz : (ByteArray.size ⟨#[a, b]⟩ : Int) = 2 := rfl
    have hsp : Tr.fence (ByteArray.data ⟨#[a, b]⟩).toList = (decide ((0 : Int) ≤ (Lib.indexByte ([40, 41, 91, 93, 123, 125, 60, 62, 47, 124, 46] : List UInt8) a)) && decide ((0 : Int) ≤ (Lib.indexByte ([40, 41, 91, 93, 123, 125, 60, 62, 47, 124, 46] : List UInt8) b))) := by
      rw [idx_contains, idx_contains, ← delims_perm, ← delims_perm]
      first | done | rfl
    have HSP := hid hsp
    clear hsp
    go_enter Try.func55, Try.ntmps55
    go_wp2_with fail
    refine Calls.mono (indexByte_byte ([40, 41, 91, 93, 123, 125, 60, 62, 47, 124, 46] : List UInt8) a _) ?_
    rintro _ _ ⟨rfl, rfl⟩
    cases h8 : decide ((0 : Int) ≤ (Lib.indexByte ([40, 41, 91, 93, 123, 125, 60, 62, 47, 124, 46] : List UInt8) a)) with
    | false =>
      go_wp2_with fail
      go_ret
      exact ⟨ret_bool' _ _ (by rw [HSP.out] <;> (simp only [*] <;> rfl)), rfl⟩
    | true =>
      go_wp2_with fail
      refine Calls.mono (indexByte_byte ([40, 41, 91, 93, 123, 125, 60, 62, 47, 124, 46] : List UInt8) b _) ?_
      rintro _ _ ⟨rfl, rfl⟩
      cases h9 : decide ((0 : Int) ≤ (Lib.indexByte ([40, 41, 91, 93, 123, 125, 60, 62, 47, 124, 46] : List UInt8) b)) with
      | false =>
        go_wp2_with fail
        go_ret
        exact ⟨ret_bool' _ _ (by rw [HSP.out] <;> (simp only [*] <;> rfl)), rfl⟩
      | true =>
        go_wp2_with fail
        go_ret
        exact ⟨ret_bool' _ _ (by rw [HSP.out] <;> (simp only [*] <;> rfl)), rfl⟩
  · have h1' : ((s.size : Int) == (2 : Int)) = false := by rw [beq_eq_false_iff_ne]; omega
    have hsp : Tr.fence s.data.toList = false := by
      have hl : s.data.toList.length = s.size := by simp
      rw [← hl] at h1
      generalize s.data.toList = l at *
      match l, h1 with
      | [], _ => rfl
      | [_], _ => rfl
      | [_, _], h1 => exact absurd rfl h1
      | _ :: _ :: _ :: _, _ => rfl
    have HSP := hid hsp
    clear hsp h1
    go_enter Try.func55, Try.ntmps55
    go_wp2_with fail
    go_ret
    exact ⟨ret_bool' _ _ (by rw [HSP.out] <;> (simp only [*] <;> rfl)), rfl⟩

/-- A text cut at the first point. -/
def cutP (l : List UInt8) : List UInt8 × List UInt8 × Bool :=
  if (0 : Int) ≤ Lib.indexByte l 46 then (l.take (Lib.indexByte l 46).toNat, l.drop ((Lib.indexByte l 46).toNat + 1), true) else (l, [], false)
theorem idx_lt (l : List UInt8) (c : UInt8) : Lib.indexByte l c < l.length := by
  induction l with
  | nil => show (-1 : Int) < 0; decide
  | cons b l ih =>
    rw [Lib.indexByte, List.length_cons]
    split
    · omega
    · split <;> omega
theorem str_ext (s : ByteArray) (l : List UInt8) (h : s.data.toList = l) : s = ⟨l.toArray⟩ := by
  apply ByteArray.ext
  apply Array.toList_inj.1
  rw [h]
theorem extract_take (s : ByteArray) (k : Nat) : s.extract 0 k = ⟨(s.data.toList.take k).toArray⟩ := by
  apply str_ext
  rw [Lib.extract_data]
  simp
theorem extract_drop (s : ByteArray) (k : Nat) : s.extract k s.size = ⟨(s.data.toList.drop k).toArray⟩ := by
  apply str_ext
  rw [Lib.extract_to_end]
theorem ret_t3 (a b a' b' : ByteArray) (c c' : Bool) (h1 : a = a') (h2 : b = b') (h3 : c = c') : Ending.returned (.tuple #[.string a, .string b, .bool c]) = .returned (.tuple #[.string a', .string b', .bool c']) := by rw [h1, h2, h3]

set_option maxHeartbeats 400000 in
theorem cut_point (s : ByteArray) (w : World) (hm : s.size ≤ 9223372036854775807) :
    Calls Try.prog 93 #[.string s, .string ⟨#[46]⟩] w fun e w' => e = .returned (.tuple #[.string ⟨(cutP s.data.toList).1.toArray⟩, .string ⟨(cutP s.data.toList).2.1.toArray⟩, .bool (cutP s.data.toList).2.2]) ∧ ∃ n, w' = w.drewN n := by
  have hl : s.data.toList.length = s.size := by simp
  have hlt := idx_lt s.data.toList 46
  have hc := hid (show cutP s.data.toList = _ from rfl)
  have HIX := hid (Try.stringslite_Index_one s 46)
  rw [hl] at hlt
  clear hl
  unfold cutP at hc ⊢
  generalize hix : Lib.indexByte s.data.toList 46 = i at *
  clear hix
  by_cases h0 : 0 ≤ i
  · have d0 : decide ((0 : Int) ≤ i) = true := by simp; omega
    obtain ⟨k, rfl⟩ : ∃ k : Nat, i = k := ⟨i.toNat, by omega⟩
    clear h0 hc
    go_enter Try.func93, Try.ntmps93
    go_wp2_with fail
    refine (HIX.out _).mono ?_
    rintro _ _ ⟨rfl, rfl⟩
    have d1 : (k : Int) ≤ (s.size : Int) := by omega
    have d2 : (k : Int) + 1 ≤ (s.size : Int) := by omega
    have d3 : k ≤ s.size := by omega
    have d4 : k + 1 ≤ s.size := by omega
    go_wp2_with fail
    go_quiet (fail)
    go_wp2_with fail
    go_ret3
    refine ⟨ret_t3 _ _ _ _ _ _ ?_ ?_ ?_, _, rfl⟩
    · exact extract_take s k
    · exact extract_drop s (k + 1)
    · rfl
  · have d0 : decide ((0 : Int) ≤ i) = false := by simp; omega
    rw [if_neg h0]
    go_enter Try.func93, Try.ntmps93
    go_wp2_with fail
    refine (HIX.out _).mono ?_
    rintro _ _ ⟨rfl, rfl⟩
    clear hc h0
    go_wp2_with fail
    go_ret3
    refine ⟨?_, 0, rfl⟩
    first | rfl | exact ret_t3 _ _ _ _ _ _ rfl rfl rfl

theorem cut_any (s : ByteArray) (w : World) (hm : s.size ≤ 9223372036854775807) :
    Calls Try.prog 80 #[.string s, .string ⟨#[46]⟩] w fun e w' => e = .returned (.tuple #[.string ⟨(cutP s.data.toList).1.toArray⟩, .string ⟨(cutP s.data.toList).2.1.toArray⟩, .bool (cutP s.data.toList).2.2]) ∧ Fresh w w' := by
  go_enter Try.func80, Try.ntmps80
  go_wp2_with fail
  refine (cut_point s _ hm).mono ?_
  rintro _ _ ⟨rfl, n, rfl⟩
  go_wp2_with fail
  go_ret3
  exact ⟨rfl, (Touch.refl _ _).drewN _⟩

def digitsNE (l : List UInt8) : Bool := l.all Tr.digit && !(l == [])
theorem digits_ne (l : List UInt8) (w : World) (hm : ByteArray.size ⟨l.toArray⟩ ≤ 9223372036854775807) :
    Calls Try.prog 81 #[.string ⟨l.toArray⟩] w fun e w' => e = .returned (.bool (digitsNE l)) ∧ w' = w := digits_any ⟨l.toArray⟩ w hm
theorem cutP_nil : cutP [] = ([], [], false) := rfl
theorem cutP_cons (b : UInt8) (l : List UInt8) : cutP (b :: l) = if b = 46 then ([], l, true) else (b :: (cutP l).1, (cutP l).2.1, (cutP l).2.2) := by
  unfold cutP
  rw [Lib.indexByte]
  by_cases h : b = 46
  · subst h; simp
  · have h' : (b == 46) = false := by simpa using h
    rw [h', if_neg h]
    simp only [Bool.false_eq_true, if_false]
    have hlo : -1 ≤ Lib.indexByte l 46 := by
      induction l with
      | nil => show (-1 : Int) ≤ -1; decide
      | cons b l ih => rw [Lib.indexByte]; split <;> (try split) <;> omega
    by_cases h2 : Lib.indexByte l 46 = -1
    · rw [h2]; simp
    · have h3 : (Lib.indexByte l 46 == -1) = false := by simpa using h2
      rw [h3]
      simp only [Bool.false_eq_true, if_false]
      rw [if_pos (by omega), if_pos (by omega)]
      have e : (Lib.indexByte l 46 + 1).toNat = (Lib.indexByte l 46).toNat + 1 := by omega
      rw [e]
      simp
theorem digit_ne_point (b : UInt8) (h : Tr.digit b = true) : b ≠ 46 := by rintro rfl; revert h; decide
theorem cut_span (l : List UInt8) : (l.takeWhile (· ≠ 46) = (cutP l).1 ∧ l.dropWhile (· ≠ 46) = if (cutP l).2.2 then 46 :: (cutP l).2.1 else []) ∧ ((cutP l).2.2 = false → (cutP l).1 = l ∧ (cutP l).2.1 = []) := by
  induction l with
  | nil => exact ⟨⟨rfl, rfl⟩, fun _ => ⟨rfl, rfl⟩⟩
  | cons b l ih =>
    rw [cutP_cons]
    obtain ⟨h1, h2⟩ := ih
    by_cases h : b = 46
    · subst h
      rw [if_pos rfl]
      exact ⟨⟨rfl, rfl⟩, fun h => by cases h⟩
    · rw [if_neg h]
      refine ⟨⟨?_, ?_⟩, fun hx => ?_⟩
      · rw [List.takeWhile_cons, if_pos (by simpa using h), h1.1]
      · rw [List.dropWhile_cons, if_pos (by simpa using h), h1.2]
      · obtain ⟨e1, e2⟩ := h2 hx
        exact ⟨by rw [e1], e2⟩
theorem isNum_cut (l : List UInt8) : Tr.isNum l = (decide (l.length ≤ 20) && (digitsNE (cutP l).1 && (!(cutP l).2.2 || digitsNE (cutP l).2.1))) := by
  obtain ⟨h1, h2⟩ := cut_span l
  unfold Tr.isNum
  rw [h1.1, h1.2]
  have hall : (cutP l).2.2 = true → l.all Tr.digit = false := by
    clear h1 h2
    induction l with
    | nil => intro h; cases h
    | cons b l ih =>
      rw [cutP_cons]
      by_cases h : b = 46
      · subst h; intro _; rfl
      · rw [if_neg h]
        intro hx
        rw [List.all_cons, ih hx, Bool.and_false]
  have hne : (cutP l).2.2 = true → l ≠ [] := by rintro h rfl; cases h
  cases hc : (cutP l).2.2 with
  | false =>
    obtain ⟨e1, e2⟩ := h2 hc
    rw [e1]
    unfold digitsNE
    cases l with
    | nil => rfl
    | cons b l => simp
  | true =>
    rw [hall hc]
    unfold digitsNE
    generalize (cutP l).1 = a
    generalize (cutP l).2.1 = b
    have := hne hc
    cases a <;> cases b <;> simp [this, Bool.and_assoc]

theorem cutP_len (l : List UInt8) : (cutP l).1.length ≤ l.length ∧ (cutP l).2.1.length ≤ l.length := by
  unfold cutP
  split
  · simp only [List.length_take, List.length_drop]; omega
  · simp
set_option maxHeartbeats 400000 in
theorem numText_any (s : ByteArray) (w : World) (hm : s.size ≤ 9223372036854775807) :
    Calls Try.prog 52 #[.string s] w fun e w' => e = .returned (.bool (Tr.isNum s.data.toList)) ∧ Fresh w w' := by
  have hl : s.data.toList.length = s.size := by simp
  have hcl := cutP_len s.data.toList
  rw [hl] at hcl
  have hm1 : ByteArray.size ⟨(cutP s.data.toList).2.1.toArray⟩ ≤ 9223372036854775807 := by show (cutP s.data.toList).2.1.toArray.size ≤ _; simp; omega
  have hm2 : ByteArray.size ⟨(cutP s.data.toList).1.toArray⟩ ≤ 9223372036854775807 := by show (cutP s.data.toList).1.toArray.size ≤ _; simp; omega
  have hsp : Tr.isNum s.data.toList = (decide ((s.size : Int) ≤ (20 : Int)) && (digitsNE (cutP s.data.toList).1 && (!(cutP s.data.toList).2.2 || digitsNE (cutP s.data.toList).2.1))) := by
    rw [isNum_cut, hl]; congr 1; rw [Bool.eq_iff_iff, decide_eq_true_iff, decide_eq_true_iff]; omega
  have HSP := hid hsp
  clear hsp hl hcl
  go_enter Try.func52, Try.ntmps52
  go_wp2_with fail
  refine Calls.mono (cut_any s _ hm) ?_
  rintro _ w8 ⟨rfl, hfw8⟩
  have HF8 := hid (show Fresh w w8 from by first | exact hfw8 | exact Touch.pre hfw8 | exact Touch.pre (Touch.pre hfw8) | exact Touch.ofN hfw8 | exact Touch.preN hfw8 | exact Touch.pre (Touch.pre (Touch.pre hfw8)))
  clear hfw8
  cases h10 : decide ((s.size : Int) ≤ (20 : Int)) with
  | false =>
    go_wp2_with fail
    go_ret
    exact ⟨ret_bool' _ _ (by rw [HSP.out] <;> (simp only [*] <;> rfl)), (by first | exact HF8.out | exact HF8.out.alloc _ | exact (HF8.out.alloc _).alloc _ | exact ((HF8.out.alloc _).alloc _).alloc _ | exact HF8.out.drewN _ | exact (HF8.out.alloc _).drewN _ | exact ((HF8.out.alloc _).alloc _).drewN _)⟩
  | true =>
    go_wp2_with fail
    refine Calls.mono (digits_ne (cutP s.data.toList).1 _ hm2) ?_
    rintro _ _ ⟨rfl, rfl⟩
    cases h11 : (digitsNE (cutP s.data.toList).1) with
    | false =>
      go_wp2_with fail
      go_ret
      exact ⟨ret_bool' _ _ (by rw [HSP.out] <;> (simp only [*] <;> rfl)), (by first | exact HF8.out | exact HF8.out.alloc _ | exact (HF8.out.alloc _).alloc _ | exact ((HF8.out.alloc _).alloc _).alloc _ | exact HF8.out.drewN _ | exact (HF8.out.alloc _).drewN _ | exact ((HF8.out.alloc _).alloc _).drewN _)⟩
    | true =>
      cases h12 : (cutP s.data.toList).2.2 with
      | false =>
        go_wp2_with fail
        go_ret
        exact ⟨ret_bool' _ _ (by rw [HSP.out] <;> (simp only [*] <;> rfl)), (by first | exact HF8.out | exact HF8.out.alloc _ | exact (HF8.out.alloc _).alloc _ | exact ((HF8.out.alloc _).alloc _).alloc _ | exact HF8.out.drewN _ | exact (HF8.out.alloc _).drewN _ | exact ((HF8.out.alloc _).alloc _).drewN _)⟩
      | true =>
        go_wp2_with fail
        refine Calls.mono (digits_ne (cutP s.data.toList).2.1 _ hm1) ?_
        rintro _ _ ⟨rfl, rfl⟩
        cases h13 : (digitsNE (cutP s.data.toList).2.1) with
        | false =>
          go_wp2_with fail
          go_ret
          exact ⟨ret_bool' _ _ (by rw [HSP.out] <;> (simp only [*] <;> rfl)), (by first | exact HF8.out | exact HF8.out.alloc _ | exact (HF8.out.alloc _).alloc _ | exact ((HF8.out.alloc _).alloc _).alloc _ | exact HF8.out.drewN _ | exact (HF8.out.alloc _).drewN _ | exact ((HF8.out.alloc _).alloc _).drewN _)⟩
        | true =>
          go_wp2_with fail
          go_ret
          exact ⟨ret_bool' _ _ (by rw [HSP.out] <;> (simp only [*] <;> rfl)), (by first | exact HF8.out | exact HF8.out.alloc _ | exact (HF8.out.alloc _).alloc _ | exact ((HF8.out.alloc _).alloc _).alloc _ | exact HF8.out.drewN _ | exact (HF8.out.alloc _).drewN _ | exact ((HF8.out.alloc _).alloc _).drewN _)⟩

end Go.Proofs.Ytdacpbdamliafaa

/- The walk of node's kinds. -/
namespace Go.Proofs.Ytdacpbdamliafaa
open Go.RowKit
attribute [local go_sem] Oper.semAt_some


def kindV1 : Value := .agg #[.string ⟨#[114, 111, 119]⟩, .int .i64 0, .func (.func 50) #[] #[]]
theorem built_kind1 : Try.prog.built 74 [(0, .string ⟨#[114, 111, 119]⟩), (1, .int .i64 0), (2, .func (.func 50) #[] #[])] = some #[.string ⟨#[114, 111, 119]⟩, .int .i64 0, .func (.func 50) #[] #[]] := by kernel_rfl
def kindV2 : Value := .agg #[.string ⟨#[115, 121, 109]⟩, .int .i64 0, .func (.func 51) #[] #[]]
theorem built_kind2 : Try.prog.built 74 [(0, .string ⟨#[115, 121, 109]⟩), (1, .int .i64 0), (2, .func (.func 51) #[] #[])] = some #[.string ⟨#[115, 121, 109]⟩, .int .i64 0, .func (.func 51) #[] #[]] := by kernel_rfl
def kindV3 : Value := .agg #[.string ⟨#[110, 117, 109]⟩, .int .i64 0, .func (.func 52) #[] #[]]
theorem built_kind3 : Try.prog.built 74 [(0, .string ⟨#[110, 117, 109]⟩), (1, .int .i64 0), (2, .func (.func 52) #[] #[])] = some #[.string ⟨#[110, 117, 109]⟩, .int .i64 0, .func (.func 52) #[] #[]] := by kernel_rfl
def kindV4 : Value := .agg #[.string ⟨#[116, 101, 120, 116]⟩, .int .i64 0, .func (.func 53) #[] #[]]
theorem built_kind4 : Try.prog.built 74 [(0, .string ⟨#[116, 101, 120, 116]⟩), (1, .int .i64 0), (2, .func (.func 53) #[] #[])] = some #[.string ⟨#[116, 101, 120, 116]⟩, .int .i64 0, .func (.func 53) #[] #[]] := by kernel_rfl
def kindV5 : Value := .agg #[.string ⟨#[102, 114, 97, 99]⟩, .int .i64 2, .func (.func 50) #[] #[]]
theorem built_kind5 : Try.prog.built 74 [(0, .string ⟨#[102, 114, 97, 99]⟩), (1, .int .i64 2), (2, .func (.func 50) #[] #[])] = some #[.string ⟨#[102, 114, 97, 99]⟩, .int .i64 2, .func (.func 50) #[] #[]] := by kernel_rfl
def kindV6 : Value := .agg #[.string ⟨#[114, 111, 111, 116]⟩, .int .i64 2, .func (.func 50) #[] #[]]
theorem built_kind6 : Try.prog.built 74 [(0, .string ⟨#[114, 111, 111, 116]⟩), (1, .int .i64 2), (2, .func (.func 50) #[] #[])] = some #[.string ⟨#[114, 111, 111, 116]⟩, .int .i64 2, .func (.func 50) #[] #[]] := by kernel_rfl
def kindV7 : Value := .agg #[.string ⟨#[115, 117, 98]⟩, .int .i64 2, .func (.func 50) #[] #[]]
theorem built_kind7 : Try.prog.built 74 [(0, .string ⟨#[115, 117, 98]⟩), (1, .int .i64 2), (2, .func (.func 50) #[] #[])] = some #[.string ⟨#[115, 117, 98]⟩, .int .i64 2, .func (.func 50) #[] #[]] := by kernel_rfl
def kindV8 : Value := .agg #[.string ⟨#[115, 117, 112]⟩, .int .i64 2, .func (.func 50) #[] #[]]
theorem built_kind8 : Try.prog.built 74 [(0, .string ⟨#[115, 117, 112]⟩), (1, .int .i64 2), (2, .func (.func 50) #[] #[])] = some #[.string ⟨#[115, 117, 112]⟩, .int .i64 2, .func (.func 50) #[] #[]] := by kernel_rfl
def kindV9 : Value := .agg #[.string ⟨#[98, 111, 116, 104]⟩, .int .i64 3, .func (.func 50) #[] #[]]
theorem built_kind9 : Try.prog.built 74 [(0, .string ⟨#[98, 111, 116, 104]⟩), (1, .int .i64 3), (2, .func (.func 50) #[] #[])] = some #[.string ⟨#[98, 111, 116, 104]⟩, .int .i64 3, .func (.func 50) #[] #[]] := by kernel_rfl
def kindV10 : Value := .agg #[.string ⟨#[97, 99, 99, 101, 110, 116]⟩, .int .i64 1, .func (.func 54) #[] #[]]
theorem built_kind10 : Try.prog.built 74 [(0, .string ⟨#[97, 99, 99, 101, 110, 116]⟩), (1, .int .i64 1), (2, .func (.func 54) #[] #[])] = some #[.string ⟨#[97, 99, 99, 101, 110, 116]⟩, .int .i64 1, .func (.func 54) #[] #[]] := by kernel_rfl
def kindV11 : Value := .agg #[.string ⟨#[102, 101, 110, 99, 101]⟩, .int .i64 1, .func (.func 55) #[] #[]]
theorem built_kind11 : Try.prog.built 74 [(0, .string ⟨#[102, 101, 110, 99, 101]⟩), (1, .int .i64 1), (2, .func (.func 55) #[] #[])] = some #[.string ⟨#[102, 101, 110, 99, 101]⟩, .int .i64 1, .func (.func 55) #[] #[]] := by kernel_rfl
def kindV12 : Value := .agg #[.string ⟨#[109, 97, 116, 114, 105, 120]⟩, .int .i64 0, .func (.func 50) #[] #[]]
theorem built_kind12 : Try.prog.built 74 [(0, .string ⟨#[109, 97, 116, 114, 105, 120]⟩), (1, .int .i64 0), (2, .func (.func 50) #[] #[])] = some #[.string ⟨#[109, 97, 116, 114, 105, 120]⟩, .int .i64 0, .func (.func 50) #[] #[]] := by kernel_rfl
def kindCells : Array Value := #[.string ⟨#[]⟩, .int .i64 0, .nilFunc, .string ⟨#[114, 111, 119]⟩, .int .i64 0, .func (.func 50) #[] #[], .string ⟨#[115, 121, 109]⟩, .int .i64 0, .func (.func 51) #[] #[], .string ⟨#[110, 117, 109]⟩, .int .i64 0, .func (.func 52) #[] #[], .string ⟨#[116, 101, 120, 116]⟩, .int .i64 0, .func (.func 53) #[] #[], .string ⟨#[102, 114, 97, 99]⟩, .int .i64 2, .func (.func 50) #[] #[], .string ⟨#[114, 111, 111, 116]⟩, .int .i64 2, .func (.func 50) #[] #[], .string ⟨#[115, 117, 98]⟩, .int .i64 2, .func (.func 50) #[] #[], .string ⟨#[115, 117, 112]⟩, .int .i64 2, .func (.func 50) #[] #[], .string ⟨#[98, 111, 116, 104]⟩, .int .i64 3, .func (.func 50) #[] #[], .string ⟨#[97, 99, 99, 101, 110, 116]⟩, .int .i64 1, .func (.func 54) #[] #[], .string ⟨#[102, 101, 110, 99, 101]⟩, .int .i64 1, .func (.func 55) #[] #[], .string ⟨#[109, 97, 116, 114, 105, 120]⟩, .int .i64 0, .func (.func 50) #[] #[]]
def zeroKinds : Array Value := #[.string ⟨#[]⟩, .int .i64 0, .nilFunc, .string ⟨#[]⟩, .int .i64 0, .nilFunc, .string ⟨#[]⟩, .int .i64 0, .nilFunc, .string ⟨#[]⟩, .int .i64 0, .nilFunc, .string ⟨#[]⟩, .int .i64 0, .nilFunc, .string ⟨#[]⟩, .int .i64 0, .nilFunc, .string ⟨#[]⟩, .int .i64 0, .nilFunc, .string ⟨#[]⟩, .int .i64 0, .nilFunc, .string ⟨#[]⟩, .int .i64 0, .nilFunc, .string ⟨#[]⟩, .int .i64 0, .nilFunc, .string ⟨#[]⟩, .int .i64 0, .nilFunc, .string ⟨#[]⟩, .int .i64 0, .nilFunc, .string ⟨#[]⟩, .int .i64 0, .nilFunc]
theorem zeroKinds_run (w : World) : (zeroValue 75).run Try.prog w = .ok (.agg zeroKinds) w := by kernel_rfl
theorem built_kinds : Try.prog.built 75 [(1, kindV1), (2, kindV2), (3, kindV3), (4, kindV4), (5, kindV5), (6, kindV6), (7, kindV7), (8, kindV8), (9, kindV9), (10, kindV10), (11, kindV11), (12, kindV12)] = some kindCells := by kernel_rfl
theorem infoKinds : (Try.prog.info? 75).map (·.size) = some 39 := by kernel_rfl
theorem kindCells_one : kindCells.all (·.oneCell') = true := by kernel_rfl
theorem wpList_build_kind {t : TypeId} {cs : Array Value} {ops : Array Oper} {rest : List Oper} {o : Oper} {a : Act} {w : World} {Q : Exit → Act → World → Prop} (vs : List (Nat × Value)) (hb : Try.prog.built t vs = some cs) (xs : Array (Nat × Operand)) (hg : o.guard = none) (ho : o.op = .build t xs)
    (hx : (xs.map fun p => (p.1, a.eval p.2)) = vs.toArray) (v : Value) (hv : v = .agg cs) (h : wpList Try.prog ops Q rest (a.put o.dst v) w) : wpList Try.prog ops Q (o :: rest) a w := by
  subst hv
  refine wpList_plain hg fun K hK => ?_
  unfold Oper.wp execOp
  simp only [ho, Sem.run_bind, hx]
  rw [run_build w t vs.toArray _ hb]
  simp only [Result.andThen_ok]
  exact hK _ _ h

set_option maxRecDepth 100000 in
set_option maxHeartbeats 1000000 in
theorem kinds_any (w : World) :
    Calls Try.prog 41 #[] w fun e w' => e = .returned (.agg kindCells) ∧ Fresh w w' := by
  have hz := zeroKinds_run
  go_enter Try.func41, Try.ntmps41
  go_wp2_with (first
    | (refine wpList_build_kind _ built_kind1 _ rfl rfl rfl kindV1 rfl ?_)
    | (refine wpList_build_kind _ built_kind2 _ rfl rfl rfl kindV2 rfl ?_)
    | (refine wpList_build_kind _ built_kind3 _ rfl rfl rfl kindV3 rfl ?_)
    | (refine wpList_build_kind _ built_kind4 _ rfl rfl rfl kindV4 rfl ?_)
    | (refine wpList_build_kind _ built_kind5 _ rfl rfl rfl kindV5 rfl ?_)
    | (refine wpList_build_kind _ built_kind6 _ rfl rfl rfl kindV6 rfl ?_)
    | (refine wpList_build_kind _ built_kind7 _ rfl rfl rfl kindV7 rfl ?_)
    | (refine wpList_build_kind _ built_kind8 _ rfl rfl rfl kindV8 rfl ?_)
    | (refine wpList_build_kind _ built_kind9 _ rfl rfl rfl kindV9 rfl ?_)
    | (refine wpList_build_kind _ built_kind10 _ rfl rfl rfl kindV10 rfl ?_)
    | (refine wpList_build_kind _ built_kind11 _ rfl rfl rfl kindV11 rfl ?_)
    | (refine wpList_build_kind _ built_kind12 _ rfl rfl rfl kindV12 rfl ?_)
    | (refine wpList_build_kind _ built_kinds _ rfl rfl rfl (.agg kindCells) rfl ?_)
    | (refine wpList_store_row rfl 75 _ _ rfl w.heap.size kindCells rfl rfl 75 zeroKinds (Blk.new _ _ _) infoKinds rfl kindCells_one ?_))
  refine bodyPost_ret (results_cell_row (fn := Try.f41) (p := 0) rfl _ _ w.heap.size 75 kindCells (0, 0) _ rfl (setRow_heap _ _ _ _ _ _ (Blk.new _ _ _)) Try.underlying75 rfl infoKinds) rfl ?_
  exact ⟨rfl, ((Touch.refl _ w).alloc _).setRow (.inr (Nat.le_refl _)) _⟩
end Go.Proofs.Ytdacpbdamliafaa

/- The walk of printer.visitors. -/
namespace Go.Proofs.Ytdacpbdamliafaa
open Go.RowKit
attribute [local go_sem] Oper.semAt_some


def visitCells : Array Value := #[.nilFunc, .nilFunc, .func (.func 57) #[] #[], .func (.func 58) #[] #[], .func (.func 59) #[] #[], .func (.func 60) #[] #[], .func (.func 61) #[] #[], .func (.func 62) #[] #[], .func (.func 62) #[] #[], .func (.func 62) #[] #[], .func (.func 63) #[] #[], .func (.func 64) #[] #[], .func (.func 65) #[] #[]]
def zeroVisits : Array Value := #[.nilFunc, .nilFunc, .nilFunc, .nilFunc, .nilFunc, .nilFunc, .nilFunc, .nilFunc, .nilFunc, .nilFunc, .nilFunc, .nilFunc, .nilFunc]
theorem zeroVisits_run (w : World) : (zeroValue 82).run Try.prog w = .ok (.agg zeroVisits) w := by kernel_rfl
theorem built_visits : Try.prog.built 82 [(2, .func (.func 57) #[] #[]), (3, .func (.func 58) #[] #[]), (4, .func (.func 59) #[] #[]), (5, .func (.func 60) #[] #[]), (6, .func (.func 61) #[] #[]), (7, .func (.func 62) #[] #[]), (8, .func (.func 62) #[] #[]), (9, .func (.func 62) #[] #[]), (10, .func (.func 63) #[] #[]), (11, .func (.func 64) #[] #[]), (12, .func (.func 65) #[] #[])] = some visitCells := by kernel_rfl
theorem infoVisits : (Try.prog.info? 82).map (·.size) = some 13 := by kernel_rfl
theorem visitCells_one : visitCells.all (·.oneCell') = true := by kernel_rfl

set_option maxRecDepth 100000 in
set_option maxHeartbeats 1000000 in
theorem visitors_any (w : World) :
    Calls Try.prog 43 #[] w fun e w' => e = .returned (.agg visitCells) ∧ Fresh w w' := by
  have hz := zeroVisits_run
  go_enter Try.func43, Try.ntmps43
  go_wp2_with (first
    | (refine wpList_build_kind _ built_visits _ rfl rfl rfl (.agg visitCells) rfl ?_)
    | (refine wpList_store_row rfl 82 _ _ rfl w.heap.size visitCells rfl rfl 82 zeroVisits (Blk.new _ _ _) infoVisits rfl visitCells_one ?_))
  refine bodyPost_ret (results_cell_row (fn := Try.f43) (p := 0) rfl _ _ w.heap.size 82 visitCells (0, 0) _ rfl (setRow_heap _ _ _ _ _ _ (Blk.new _ _ _)) Try.underlying82 rfl infoVisits) rfl ?_
  exact ⟨rfl, ((Touch.refl _ w).alloc _).setRow (.inr (Nat.le_refl _)) _⟩
end Go.Proofs.Ytdacpbdamliafaa
