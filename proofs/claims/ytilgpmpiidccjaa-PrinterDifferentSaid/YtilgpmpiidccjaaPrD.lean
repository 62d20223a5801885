/- A reader of the tokens of a tree: the tokens tell the tree. No program in sight. -/
import Derived.Test.YtilgpmpiidccjaaPrM
namespace Go.Proofs.Ytilgpmpiidccjaa.Tr
open Lx (Tok)

def row (ks : List Nd) : Nd := .mk 1 [] 0 ks
def expect (t : Tok) : List Tok → Option (List Tok)
  | x :: r => if x = t then some r else none
  | [] => none
def startTok (x : Tok) : Bool := (x.kind == 1) || (x.kind == 2) || (x.kind == 3) || (x.kind == 4) || (x.kind == 5) || (x.kind == 7 && (x.text == [40] || x.text == [91] || x.text == [123]))
def starts : List Tok → Bool
  | x :: _ => startTok x
  | [] => false
/-- How many columns there are: the cells up to the first that ends a line. -/
def colsOf : List (Nd × Bool) → Int
  | [] => 0
  | (_, b) :: l => if b then 1 else 1 + colsOf l

mutual
def pArg : Nat → List Tok → Option (Nd × List Tok)
  | f + 1, x :: r =>
    if x.kind = 1 ∨ x.kind = 4 then some (row [.mk 2 x.text 0 []], r)
    else if x.kind = 2 then some (row [.mk 3 x.text 0 []], r)
    else if x.kind = 3 then some (row [.mk 4 x.text 0 []], r)
    else if x = mk7 123 then (pRow f r).bind fun p => (expect (mk7 125) p.2).map fun r' => (row p.1, r')
    else none
  | _, _ => none
def pBase : Nat → List Tok → Option (List Nd × List Tok)
  | f + 1, x :: r =>
    if x.kind = 1 then some ([.mk 2 x.text 0 []], r)
    else if x.kind = 2 then some ([.mk 3 x.text 0 []], r)
    else if x.kind = 3 then some ([.mk 4 x.text 0 []], r)
    else if x.kind = 5 then (pArg f r).map fun p => ([.mk 11 x.text 0 [p.1]], p.2)
    else if x.kind = 4 then
      if x.text = sFrac then (pArg f r).bind fun p => (pArg f p.2).map fun q => ([.mk 5 [] 0 [p.1, q.1]], q.2)
      else if x.text = sRoot then
        match expect (mk7 91) r with
        | some r1 => (pRow f r1).bind fun p => (expect (mk7 93) p.2).bind fun r2 => (pArg f r2).map fun q => ([.mk 6 [] 0 [row p.1, q.1]], q.2)
        | none => (pArg f r).map fun q => ([.mk 6 [] 0 [row [], q.1]], q.2)
      else if x.text = sMatrix then (expect (mk7 123) r).bind fun r1 => (pCells f r1).bind fun p => (expect (mk7 125) p.2).map fun r2 => ([.mk 12 [] (colsOf p.1) (p.1.map (·.1))], r2)
      else if accents.contains x.text then (pArg f r).map fun p => ([.mk 10 x.text 0 [p.1]], p.2)
      else some ([.mk 2 x.text 0 []], r)
    else if x = mk7 40 then (pRow f r).bind fun p => (expect (mk7 41) p.2).map fun r' => ([.mk 11 [40, 41] 0 [row p.1]], r')
    else if x = mk7 91 then (pRow f r).bind fun p => (expect (mk7 93) p.2).map fun r' => ([.mk 11 [91, 93] 0 [row p.1]], r')
    else if x = mk7 123 then (pRow f r).bind fun p => (expect (mk7 125) p.2).map fun r' => (p.1, r')
    else none
  | _, _ => none
def pItem : Nat → List Tok → Option (Nd × List Tok)
  | f + 1, ts => (pBase f ts).bind fun p =>
    match expect (mk7 95) p.2 with
    | some r1 => (pArg f r1).bind fun q =>
      match expect (mk7 94) q.2 with
      | some r2 => (pArg f r2).map fun s => (.mk 9 [] 0 [row p.1, q.1, s.1], s.2)
      | none => some (.mk 7 [] 0 [row p.1, q.1], q.2)
    | none =>
      match expect (mk7 94) p.2 with
      | some r1 => (pArg f r1).map fun q => (.mk 8 [] 0 [row p.1, q.1], q.2)
      | none => match p.1 with
        | [u] => some (u, p.2)
        | _ => none
  | 0, _ => none
def pRow : Nat → List Tok → Option (List Nd × List Tok)
  | f + 1, ts => if starts ts then (pItem f ts).bind fun p => (pRow f p.2).map fun q => (p.1 :: q.1, q.2) else some ([], ts)
  | 0, _ => none
def pCells : Nat → List Tok → Option (List (Nd × Bool) × List Tok)
  | f + 1, ts => (pRow f ts).bind fun p =>
    match expect (mk7 38) p.2 with
    | some r => (pCells f r).map fun q => ((row p.1, false) :: q.1, q.2)
    | none =>
      match expect ⟨8, [92, 92]⟩ p.2 with
      | some r => (pCells f r).map fun q => ((row p.1, true) :: q.1, q.2)
      | none => some ([(row p.1, true)], p.2)
  | 0, _ => none
end

def noScript (r : List Tok) : Prop := expect (mk7 95) r = none ∧ expect (mk7 94) r = none
def stop (r : List Tok) : Prop := starts r = false ∧ noScript r

theorem expect_same (t : Tok) (r : List Tok) : expect t (t :: r) = some r := by simp [expect]
theorem expect_other (t x : Tok) (r : List Tok) (h : x ≠ t) : expect t (x :: r) = none := by simp [expect, h]

/-- From some fuel on. -/
def Ev (p : Nat → Prop) : Prop := ∃ F, ∀ f, F ≤ f → p f
theorem Ev.of {p : Nat → Prop} (h : ∀ f, p f) : Ev p := ⟨0, fun f _ => h f⟩
theorem Ev.and {p q : Nat → Prop} (h : Ev p) (k : Ev q) : Ev fun f => p f ∧ q f := by
  obtain ⟨F, h⟩ := h
  obtain ⟨G, k⟩ := k
  exact ⟨max F G, fun f hf => ⟨h f (by omega), k f (by omega)⟩⟩
theorem Ev.mono {p q : Nat → Prop} (h : Ev p) (k : ∀ f, p f → q f) : Ev q := by
  obtain ⟨F, h⟩ := h
  exact ⟨F, fun f hf => k f (h f hf)⟩
theorem Ev.succ {p : Nat → Prop} (h : Ev fun f => p (f + 1)) : Ev p := by
  obtain ⟨F, h⟩ := h
  refine ⟨F + 1, fun f hf => ?_⟩
  obtain ⟨g, rfl⟩ : ∃ g, f = g + 1 := ⟨f - 1, by omega⟩
  exact h g (by omega)

theorem row_eq (a : Nd) (h1 : a.kind = 1) (h2 : form a = true) : a = row a.kids := by
  rw [form_eq, Bool.and_eq_true, Bool.and_eq_true] at h2
  obtain ⟨⟨h3, h4⟩, _⟩ := h2
  rw [h1] at h3 h4
  have h5 : a.text = [] := by
    unfold textOK at h3
    simpa using h3
  have h6 : a.cols = 0 := by
    unfold kidsOK at h4
    rw [if_neg (by decide)] at h4
    split at h4
    · cases h4
    · rename_i hc; simpa using hc
  have := Nd.eta a
  rw [h1, h5, h6] at this
  exact this
end Go.Proofs.Ytilgpmpiidccjaa.Tr
