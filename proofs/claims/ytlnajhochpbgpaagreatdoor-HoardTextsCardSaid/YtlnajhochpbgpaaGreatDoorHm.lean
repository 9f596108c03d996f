/- Two hoards as one. -/
import Derived.Test.YtlnajhochpbgpaaGreatDoorHy
import Derived.IntWalk
namespace Go.Proofs.YtlnajhochpbgpaaGreatDoor
open Go.RowKit Go.Proofs Go

/-- the types up to k of both, with their numbers -/
def mergeP (a b : List (Int × Int)) : Nat → List (Int × Int)
  | 0 => []
  | k + 1 => mergeP a b k ++ (if 0 < numE a ((k : Int) + 1) + numE b ((k : Int) + 1) then [((k : Int) + 1, numE a ((k : Int) + 1) + numE b ((k : Int) + 1))] else [])
def greatP (a b : List (Int × Int)) (k : Nat) : Bool := (mergeP a b k).any fun x => decide (999 < x.2)
theorem mergeP_yes {a b : List (Int × Int)} {k : Nat} (h : 0 < numE a ((k : Int) + 1) + numE b ((k : Int) + 1)) : mergeP a b (k + 1) = mergeP a b k ++ [((k : Int) + 1, numE a ((k : Int) + 1) + numE b ((k : Int) + 1))] := by rw [mergeP, if_pos h]
theorem mergeP_no {a b : List (Int × Int)} {k : Nat} (h : ¬ 0 < numE a ((k : Int) + 1) + numE b ((k : Int) + 1)) : mergeP a b (k + 1) = mergeP a b k := by rw [mergeP, if_neg h, List.append_nil]
theorem greatP_no {a b : List (Int × Int)} {k : Nat} (h : ¬ 0 < numE a ((k : Int) + 1) + numE b ((k : Int) + 1)) : greatP a b (k + 1) = greatP a b k := by rw [greatP, mergeP_no h]; rfl
theorem greatP_yes {a b : List (Int × Int)} {k : Nat} (h : 0 < numE a ((k : Int) + 1) + numE b ((k : Int) + 1)) : greatP a b (k + 1) = (greatP a b k || decide (999 < numE a ((k : Int) + 1) + numE b ((k : Int) + 1))) := by
  rw [greatP, mergeP_yes h, List.any_append]; simp [greatP]
theorem mergeP_len (a b : List (Int × Int)) : ∀ k, (mergeP a b k).length ≤ k
  | 0 => Nat.le_refl _
  | k + 1 => by
    have := mergeP_len a b k
    rw [mergeP, List.length_append]
    split <;> simp <;> omega
/-- what two hoards make -/
def MergeIs (ida : Int) (la : List (Int × Int)) (fa ta idb : Int) (lb : List (Int × Int)) (fb tb : Int) (id : Int) (L : List (Int × Int)) (f t err : Int) : Prop :=
  (¬ (HV ida la fa ta ∧ HV idb lb fb tb) ∧ id = 0 ∧ L = [] ∧ f = 0 ∧ t = 0 ∧ err = 1) ∨
  (HV ida la fa ta ∧ HV idb lb fb tb ∧ ∃ F T, Com fa ta fb tb F T ∧
    ((¬ F ≤ T ∧ id = 0 ∧ L = [] ∧ f = 0 ∧ t = 0 ∧ err = 10) ∨
     (F ≤ T ∧ 32 < (mergeP la lb 99).length ∧ id = 0 ∧ L = [] ∧ f = 0 ∧ t = 0 ∧ err = 6) ∨
     (F ≤ T ∧ (mergeP la lb 99).length ≤ 32 ∧ greatP la lb 99 = true ∧ id = 0 ∧ L = [] ∧ f = 0 ∧ t = 0 ∧ err = 2) ∨
     (F ≤ T ∧ (mergeP la lb 99).length ≤ 32 ∧ greatP la lb 99 = false ∧ ida = id ∧ mergeP la lb 99 = L ∧ F = f ∧ T = t ∧ err = 0)))
theorem MergeIs.ex (ida : Int) (la : List (Int × Int)) (fa ta idb : Int) (lb : List (Int × Int)) (fb tb : Int) : ∃ id L f t err, MergeIs ida la fa ta idb lb fb tb id L f t err := by
  by_cases h : HV ida la fa ta ∧ HV idb lb fb tb
  · obtain ⟨F, T, hc⟩ := Com.ex fa ta fb tb
    by_cases h1 : F ≤ T
    · by_cases h2 : 32 < (mergeP la lb 99).length
      · exact ⟨_, _, _, _, _, .inr ⟨h.1, h.2, F, T, hc, .inr (.inl ⟨h1, h2, rfl, rfl, rfl, rfl, rfl⟩)⟩⟩
      · cases hg : greatP la lb 99
        · exact ⟨_, _, _, _, _, .inr ⟨h.1, h.2, F, T, hc, .inr (.inr (.inr ⟨h1, by omega, hg, rfl, rfl, rfl, rfl, rfl⟩))⟩⟩
        · exact ⟨_, _, _, _, _, .inr ⟨h.1, h.2, F, T, hc, .inr (.inr (.inl ⟨h1, by omega, hg, rfl, rfl, rfl, rfl, rfl⟩))⟩⟩
    · exact ⟨_, _, _, _, _, .inr ⟨h.1, h.2, F, T, hc, .inl ⟨h1, rfl, rfl, rfl, rfl, rfl⟩⟩⟩
  · exact ⟨_, _, _, _, _, .inl ⟨h, rfl, rfl, rfl, rfl, rfl⟩⟩
/-- a hoard and an error, handed back -/
def RetM (w : World) (id : Int) (L : List (Int × Int)) (f t err : Int) (e : Ending) (w' : World) : Prop :=
  ∃ A c, e = .returned (.tuple #[.agg #[.int .i64 id, .slice A L.length c, .int .i64 f, .int .i64 t], .int .i64 err]) ∧ Es w' A L ∧ Below w.heap.size w w'
end Go.Proofs.YtlnajhochpbgpaaGreatDoor
