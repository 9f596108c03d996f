/- The package natural, ninth part: Of, DivMod, Gcd. -/
import Derived.Test.YtilojhhmichemaaGreatDoorNat8
namespace Go.Proofs.YtilojhhmichemaaGreatDoor
open Go.RowKit Go.Proofs

theorem of_val {n : Nat} (h : n / 1000000000 / 1000000000 < 1000000000) : val [n % 1000000000, n / 1000000000 % 1000000000, n / 1000000000 / 1000000000] = n ∧ Dig [n % 1000000000, n / 1000000000 % 1000000000, n / 1000000000 / 1000000000] :=
  ⟨by simp only [val]; omega, Dig.cons (by omega) (Dig.cons (by omega) (Dig.cons h Dig.nil))⟩

def RetNNE (w : World) (q r : Nat) (err : Int) (e : Ending) (w' : World) : Prop :=
  ∃ A c B d, e = .returned (.tuple #[.agg #[.slice A (dig q).length c], .agg #[.slice B (dig r).length d], .int .i64 err]) ∧ Lim w' A c (dig q) ∧ Lim w' B d (dig r) ∧ Below w.heap.size w w'

end Go.Proofs.YtilojhhmichemaaGreatDoor
