/- The spelling of tokens as a plain function. -/
import Derived.Test.YtilgpmpiidccjaaLxM
namespace Go.Proofs.Ytilgpmpiidccjaa.Lx

def escB (b : UInt8) : Bytes := if b = 34 ∨ b = 92 then [92, b] else [b]
def esc (l : Bytes) : Bytes := l.flatMap escB
def quoteL (l : Bytes) : Bytes := 34 :: (esc l ++ [34])
def spellL (k : Int) (t : Bytes) : Bytes :=
  if k = 3 then quoteL t else if k = 4 then 92 :: t else if k = 5 then [92, 102, 101, 110, 99, 101] ++ t else if k = 6 then 35 :: t else t
theorem esc_len (l : Bytes) : (esc l).length ≤ 2 * l.length := by
  induction l with
  | nil => simp [esc]
  | cons b l ih =>
    have : (escB b).length ≤ 2 := by unfold escB; split <;> simp
    simp [esc] at ih ⊢; omega
theorem esc_snoc (l : Bytes) (b : UInt8) : esc (l ++ [b]) = esc l ++ escB b := by simp [esc]
end Go.Proofs.Ytilgpmpiidccjaa.Lx
