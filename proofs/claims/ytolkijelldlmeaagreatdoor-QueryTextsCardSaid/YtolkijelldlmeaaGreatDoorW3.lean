/- The reference's sorted list of weights. -/
import Derived.Test.YtolkijelldlmeaaGreatDoorW2
import Derived.Test.YtolkijelldlmeaaGreatDoorWSort
import Derived.RegionTactic
import Derived.BigRegion
namespace Go.Proofs.YtolkijelldlmeaaGreatDoor
open Go.RowKit Go.Proofs Go

/-- a list of numbers -/
def RetLs (w : World) (L : List Int) (e : Ending) (w' : World) : Prop := ∃ A c, e = .returned (.slice A L.length c) ∧ IEs w' A L ∧ L.length ≤ c ∧ Below w.heap.size w w'
theorem icells_set (l : List Int) (j : Nat) (x : Int) : (icells l).set j (.int .i64 x) = icells (l.set j x) := by simp [icells, List.map_set]
theorem icells_at {l : List Int} {j : Nat} (h : j < l.length) : (icells l)[j]? = some (.int .i64 (at0 l j)) := by
  rw [icells, List.getElem?_map, at0_get h]; rfl
theorem Own.icell {w : World} {B T g n c j : Nat} {o : List Int} (h : Own w B T (some ⟨g, 0, none⟩) n c (icells o)) (hj : j < o.length) : w.cell? ⟨g, j, none⟩ = some (.int .i64 (at0 o j)) := by
  have hl := h.len
  rw [icells, List.length_map] at hl
  rw [World.ownsRow.cellAt h j (by omega)]
  exact icells_at hj
theorem Own.istored {w : World} {B T g n c j : Nat} {o : List Int} (h : Own w B T (some ⟨g, 0, none⟩) n c (icells o)) (x : Int) : Own (w.setCell ⟨g, j, none⟩ (.int .i64 x)) B T (some ⟨g, 0, none⟩) n c (icells (o.set j x)) := by
  rw [← icells_set]; exact (World.ownsRow.stored h j _).1
theorem Own.block {w : World} {B T n c : Nat} {A : Option Addr} {xs : List Value} (h : Own w B T A n c xs) (h0 : 0 < n) : ∃ g, A = some ⟨g, 0, none⟩ ∧ B ≤ g := by
  rcases h.2 with ⟨_, h2⟩ | ⟨g, cap, cur, hv, hb, _⟩
  · omega
  · injection hv with hA _ _
    exact ⟨g, hA, hb⟩
theorem Own.iown {w : World} {B n c : Nat} {A : Option Addr} {o : List Int} (h : Own w B 3 A n c (icells o)) (hn : n = o.length) : IOwn w B A c o := by subst hn; exact h
end Go.Proofs.YtolkijelldlmeaaGreatDoor
