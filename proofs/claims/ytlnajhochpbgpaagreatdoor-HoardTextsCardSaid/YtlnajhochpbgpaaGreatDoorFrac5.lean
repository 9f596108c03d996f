/- The package fraction, fifth part: Sub, Div, Floor. -/
import Derived.Test.YtlnajhochpbgpaaGreatDoorFrac4
namespace Go.Proofs.YtlnajhochpbgpaaGreatDoor
open Go.RowKit Go.Proofs

def RetQE (w : World) (q : Rat) (e : Ending) (w' : World) : Prop :=
  ∃ A c B d, e = .returned (.tuple #[.agg #[.bool (sg q), .slice A (dig (nu q)).length c, .slice B (dig q.den).length d], .int .i64 0]) ∧ Lim w' A c (dig (nu q)) ∧ Lim w' B d (dig q.den) ∧ Below w.heap.size w w'
def RetZE (w : World) (err : Int) (e : Ending) (w' : World) : Prop :=
  e = .returned (.tuple #[.agg #[.bool false, .slice none 0 0, .slice none 0 0], .int .i64 err]) ∧ Below w.heap.size w w'

theorem Fr.inv {w : World} {s : Bool} {A B : Option Addr} {n c m d : Nat} {q : Rat} {k : Nat} (h : Fr w s A n c B m d q k) : Fr w s B m d A n c q⁻¹ k := by
  obtain ⟨⟨l, r, h1, h2, h3, h4, h5⟩, h6, h7⟩ := h
  exact ⟨⟨r, l, h2, h1, h4, h3, by rw [h5, rv_inv]⟩, h7, h6⟩

end Go.Proofs.YtlnajhochpbgpaaGreatDoor
