/- Plain law: tokens added one by one. -/
import Derived.Test.YtilgpmpiidccjaaPrI
import Derived.Test.YtilgpmpiidccjaaPrH
namespace Go.Proofs.Ytilgpmpiidccjaa

/-- Tokens added one by one: the tokens and the text behind. -/
def adds : List Lx.Tok → List Lx.PTok → List UInt8 → List Lx.PTok × List UInt8
  | [], toks, txt => (toks, txt)
  | t :: l, toks, txt => adds l (added toks txt t) (txt ++ gap toks t ++ Lx.spell t)

theorem adds_app : ∀ (l m : List Lx.Tok) (toks : List Lx.PTok) (txt : List UInt8), adds (l ++ m) toks txt = adds m (adds l toks txt).1 (adds l toks txt).2
  | [], _, _, _ => rfl
  | t :: l, m, toks, txt => by
    show adds (l ++ m) _ _ = _
    rw [adds_app l m]
    rfl

theorem adds_eq : ∀ (l : List Lx.Tok) (toks : List Lx.PTok) (txt : List UInt8), adds l toks txt = (toks ++ Lx.placed txt.length (Tr.sepd (toks.getLast?.map Lx.tok) l), txt ++ Lx.flat (Tr.sepd (toks.getLast?.map Lx.tok) l))
  | [], toks, txt => by simp [adds, Tr.sepd, Lx.placed, Lx.flat]
  | t :: l, toks, txt => by
    have hs : Tr.sepd (toks.getLast?.map Lx.tok) (t :: l) = (gap toks t, t) :: Tr.sepd (some t) l := by
      unfold gap joinLast
      cases toks.getLast? <;> rfl
    have e1 : (added toks txt t).getLast?.map Lx.tok = some t := by simp [added, Lx.tok]
    show adds l (added toks txt t) (txt ++ gap toks t ++ Lx.spell t) = _
    rw [adds_eq l, e1, hs]
    simp [added, Lx.placed, Lx.flat, Nat.add_assoc]

/-- Added to an empty printer: the text of the tokens, and the tokens with their places. -/
theorem adds_wtext (l : List Lx.Tok) : adds l [] [] = (Lx.placed 0 (Tr.sepd none l), Tr.wtext l) := by
  rw [adds_eq]
  rfl
end Go.Proofs.Ytilgpmpiidccjaa
