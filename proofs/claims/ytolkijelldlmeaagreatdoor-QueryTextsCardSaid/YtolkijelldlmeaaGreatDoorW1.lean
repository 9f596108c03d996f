/- Weights: what is a weight, the check of a list, counts of ranges. -/
import Derived.Test.YtolkijelldlmeaaGreatDoorIn
import Derived.Test.YtolkijelldlmeaaGreatDoorWMath
namespace Go.Proofs.YtolkijelldlmeaaGreatDoor
open Go.RowKit Go.Proofs Go

def Wt (n : Int) : Prop := 1 ≤ n ∧ n ≤ 200000
/-- what the look for a number that is no weight leaves -/
def RetW (w : World) (l : List Int) (e : Ending) (w' : World) : Prop := ∃ r : Int, e = .returned (.int .i64 r) ∧ ((0 ≤ r ∧ ¬ WV l) ∨ (r = -1 ∧ WV l)) ∧ Below w.heap.size w w'
end Go.Proofs.YtolkijelldlmeaaGreatDoor
