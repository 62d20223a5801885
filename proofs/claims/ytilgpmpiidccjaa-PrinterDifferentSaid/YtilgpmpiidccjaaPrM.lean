/- The tokens of a formula tree, and that they tell the tree: no program in sight. -/
import Derived.Test.YtilgpmpiidccjaaTrM
import Derived.Test.YtilgpmpiidccjaaWrO
namespace Go.Proofs.Ytilgpmpiidccjaa.Tr
open Lx (Tok)

def mk7 (b : UInt8) : Tok := ⟨7, [b]⟩
def name (s : Bytes) : Tok := ⟨4, s⟩
def sFrac : Bytes := [102, 114, 97, 99]
def sRoot : Bytes := [114, 111, 111, 116]
def sMatrix : Bytes := [109, 97, 116, 114, 105, 120]
def leaf (n : Nd) : Bool := (n.kind == 2) || (n.kind == 3) || (n.kind == 4)
def scripted (n : Nd) : Bool := (n.kind == 7) || (n.kind == 8) || (n.kind == 9)

mutual
/-- The tokens of an item. -/
def itemT : Nd → List Tok
  | .mk k t c ks =>
    if k = 2 then [if t.length = 1 then ⟨1, t⟩ else ⟨4, t⟩]
    else if k = 3 then [⟨2, t⟩]
    else if k = 4 then [⟨3, t⟩]
    else match ks with
      | [a] =>
        if k = 10 then name t :: argT a
        else if k = 11 then (if t = [40, 41] ∨ t = [91, 93] then mk7 (t.headD 0) :: (rowT a.kids ++ [mk7 (t.getLastD 0)]) else ⟨5, t⟩ :: argT a)
        else if k = 12 then name sMatrix :: mk7 123 :: (cellsT c 0 [a] ++ [mk7 125])
        else []
      | [a, b] =>
        if k = 5 then name sFrac :: (argT a ++ argT b)
        else if k = 6 then name sRoot :: ((if a.kids = [] then [] else mk7 91 :: (rowT a.kids ++ [mk7 93])) ++ argT b)
        else if k = 7 then baseT a ++ mk7 95 :: argT b
        else if k = 8 then baseT a ++ mk7 94 :: argT b
        else if k = 12 then name sMatrix :: mk7 123 :: (cellsT c 0 [a, b] ++ [mk7 125])
        else []
      | [a, b, d] =>
        if k = 9 then baseT a ++ mk7 95 :: (argT b ++ mk7 94 :: argT d)
        else if k = 12 then name sMatrix :: mk7 123 :: (cellsT c 0 [a, b, d] ++ [mk7 125])
        else []
      | ks => if k = 12 then name sMatrix :: mk7 123 :: (cellsT c 0 ks ++ [mk7 125]) else []
  termination_by n => 2 * count n
  decreasing_by all_goals (simp only [count_kids, countL, Nd.kids]; omega)
/-- The tokens of a row as an argument. -/
def argT : Nd → List Tok
  | .mk _ _ _ ks => match ks with
    | [x] => if leaf x then itemT x else mk7 123 :: (rowT [x] ++ [mk7 125])
    | ks => mk7 123 :: (rowT ks ++ [mk7 125])
  termination_by n => 2 * count n + 1
  decreasing_by all_goals (simp only [count_kids, countL, Nd.kids]; omega)
/-- The tokens of a row as the base of scripts. -/
def baseT : Nd → List Tok
  | .mk _ _ _ ks => match ks with
    | [x] => if scripted x then mk7 123 :: (rowT [x] ++ [mk7 125]) else itemT x
    | ks => mk7 123 :: (rowT ks ++ [mk7 125])
  termination_by n => 2 * count n + 1
  decreasing_by all_goals (simp only [count_kids, countL, Nd.kids]; omega)
/-- The tokens of a row. -/
def rowT : List Nd → List Tok
  | [] => []
  | n :: ns => itemT n ++ rowT ns
  termination_by ns => 2 * countL ns + 1
  decreasing_by all_goals (simp only [count_kids, countL, Nd.kids]; omega)
/-- The tokens of the cells of a matrix. -/
def cellsT (c : Int) : Nat → List Nd → List Tok
  | _, [] => []
  | i, n :: ns => (if i = 0 then [] else if (i : Int) % c = 0 then [⟨8, [92, 92]⟩] else [mk7 38]) ++ (rowT n.kids ++ cellsT c (i + 1) ns)
  termination_by _ ns => 2 * countL ns + 1
  decreasing_by all_goals (simp only [count_kids, countL, Nd.kids]; omega)
end
end Go.Proofs.Ytilgpmpiidccjaa.Tr
