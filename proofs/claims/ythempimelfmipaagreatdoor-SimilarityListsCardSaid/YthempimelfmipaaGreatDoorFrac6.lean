/- The package fraction, sixth part: boxes far off. -/
import Derived.Test.YthempimelfmipaaGreatDoorFrac5
namespace Go.Proofs.YthempimelfmipaaGreatDoor
open Go.RowKit Go.Proofs

theorem Bx.set_far {w W : World} {os : List (Array Value × TypeId)} {p : Addr} (h : Bx w W os) (hp : w.heap.size + os.length ≤ p.block) (v : Value) : Bx w (W.setCell p v) os :=
  ⟨h.below.setCell (by omega) v, fun i q hq => by
    have hi := (List.getElem?_eq_some_iff.1 hq).1
    rw [Below.heap_setCell _ _ _ _ (by omega)]
    exact h.at_ i q hq⟩
theorem frozen_of {W : World} {g : Nat} {cs : Array Value} {T : TypeId} (h : W.heap[g]? = some (.cells cs T (0, 0))) (j : Nat) : W.frozen? ⟨g, j, none⟩ = false := by simp [World.frozen?, h]

end Go.Proofs.YthempimelfmipaaGreatDoor
