/- The package natural, sixth part: divide. -/
import Derived.Test.YtilojhhmichemaaGreatDoorNat5
namespace Go.Proofs.YtilojhhmichemaaGreatDoor
open Go.RowKit Go.Proofs

def RetSS (w : World) (q r : Nat) (e : Ending) (w' : World) : Prop := ∃ A1 c1 A2 c2, e = .returned (.tuple #[.slice A1 (dig q).length c1, .slice A2 (dig r).length c2]) ∧ Lim w' A1 c1 (dig q) ∧ Lim w' A2 c2 (dig r) ∧ Below w.heap.size w w'
theorem ret_slices {A B : Option Addr} {n m c n' m' d : Nat} (h : n = m) (h' : n' = m') : Ending.returned (.tuple #[.slice A n c, .slice B n' d]) = .returned (.tuple #[.slice A m c, .slice B m' d]) := by rw [h, h']

end Go.Proofs.YtilojhhmichemaaGreatDoor
