/- coinagebase.Natural: two naturals compared limb by limb. -/
import Derived.Test.YtolkijelldlmeaaGreatDoorNat9
namespace Go.Proofs.YtolkijelldlmeaaGreatDoor
open Go.RowKit Go.Proofs Go

def RetI (w : World) (n : Int) (e : Ending) (w' : World) : Prop := e = .returned (.int .i64 n) ∧ Below w.heap.size w w'
def RetB (w : World) (b : Bool) (e : Ending) (w' : World) : Prop := e = .returned (.bool b) ∧ Below w.heap.size w w'
theorem ext_eq {l r : List Nat} (hl : l.length = r.length) (h : ∀ j, j < l.length → at_ l j = at_ r j) : l = r := ext_at hl h

end Go.Proofs.YtolkijelldlmeaaGreatDoor
