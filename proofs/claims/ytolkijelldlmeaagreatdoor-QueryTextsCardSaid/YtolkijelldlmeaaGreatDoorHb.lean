/- Entries in memory; ranges of numbers and years; lists of entries that are in order. -/
import Derived.Test.YtolkijelldlmeaaGreatDoorBnat
import Derived.Test.YtolkijelldlmeaaGreatDoorBL
import Derived.Test.YtolkijelldlmeaaGreatDoorHMath
namespace Go.Proofs.YtolkijelldlmeaaGreatDoor
open Go.RowKit Go.Proofs Go

/-- b tells whether p holds -/
def Tells (b : Bool) (p : Prop) : Prop := b = true ↔ p
def Rng (n lo hi : Int) : Prop := lo ≤ n ∧ n ≤ hi
theorem yes {p : Prop} (h : p) : Tells true p := ⟨fun _ => h, fun _ => rfl⟩
theorem no {p : Prop} (h : ¬ p) : Tells false p := ⟨fun e => (by cases e), fun e => absurd e h⟩
theorem Tells.t {b : Bool} {p : Prop} (h : Tells b p) (hp : p) : b = true := h.2 hp
theorem Tells.f {b : Bool} {p : Prop} (h : Tells b p) (hp : ¬ p) : b = false := by
  cases b
  · rfl
  · exact absurd (h.1 rfl) hp
/-- the slice at A reads as entries -/
def Es (w : World) (A : Option Addr) (l : List (Int × Int)) : Prop :=
  0 < l.length → ∃ ad, A = some ad ∧ ad.block < w.heap.size ∧ ∀ i x, l[i]? = some x → w.cell? (ad.add (i * 2)) = some (.int .i64 x.1) ∧ w.cell? ⟨(ad.add (i * 2)).block, (ad.add (i * 2)).off + 1, none⟩ = some (.int .i64 x.2)
section
variable {w w' : World} {A : Option Addr} {l : List (Int × Int)}
theorem Es.nil (w : World) (A : Option Addr) : Es w A [] := fun h => absurd h (by simp)
theorem Es.ext (h : Es w A l) (hb : Below w.heap.size w w') : Es w' A l := fun h0 => by
  obtain ⟨ad, h1, h2, h3⟩ := h h0
  refine ⟨ad, h1, Nat.lt_of_lt_of_le h2 hb.size, fun i x hx => ?_⟩
  obtain ⟨a, b⟩ := h3 i x hx
  exact ⟨by rw [hb.cell (cell_lt a)]; exact a, by rw [hb.cell (cell_lt b)]; exact b⟩
theorem Es.at_ (h : Es w A l) {i : Nat} {x : Int × Int} (hx : l[i]? = some x) : ∃ ad, A = some ad ∧ ad.block < w.heap.size ∧ w.cell? (ad.add (i * 2)) = some (.int .i64 x.1) ∧ w.cell? ⟨(ad.add (i * 2)).block, (ad.add (i * 2)).off + 1, none⟩ = some (.int .i64 x.2) := by
  have hi := (List.getElem?_eq_some_iff.1 hx).1
  obtain ⟨ad, h1, h2, h3⟩ := h (by omega)
  exact ⟨ad, h1, h2, h3 i x hx⟩
end
end Go.Proofs.YtolkijelldlmeaaGreatDoor
