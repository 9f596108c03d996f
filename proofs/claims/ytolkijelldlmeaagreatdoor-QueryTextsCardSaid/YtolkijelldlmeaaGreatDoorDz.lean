/- The library's decimal texts of numbers. -/
import Derived.Test.YtolkijelldlmeaaGreatDoorBL
import Derived.Test.YtolkijelldlmeaaGreatDoorDz0
import Derived.Test.YtolkijelldlmeaaGreatDoorText2
import Derived.Test.YtolkijelldlmeaaGreatDoorShelf
import Derived.Lib.ItoaMem
namespace Go.Proofs.YtolkijelldlmeaaGreatDoor
open Go.RowKit Go.Proofs Go

theorem below_grow (w : World) (k : Nat) (os : Array Obj) : Below w.heap.size w (Go.Sort.grow (w.drewN k) os) := by
  refine ⟨rfl, rfl, rfl, by simp [Go.Sort.grow, World.drewN], fun i hi => ?_⟩
  show (w.heap ++ os)[i]? = w.heap[i]?
  rw [Array.getElem?_append_left hi]
theorem itoa_h {n : Int} {P : List UInt8} (w : World) (hP : Hid (dz n = P)) (h0 : 0 ≤ n) (h1 : n ≤ 9223372036854775807) (hT : Tab w) :
    Calls Tryz.prog 130 #[.int .i64 n] w fun e w' => e = .returned (.string (str P)) ∧ Below w.heap.size w w' := by
  refine (Tryz.strconv_Itoa n (by omega) h1 w hT).mono ?_
  rintro e w' ⟨rfl, k, os, rfl⟩
  obtain ⟨m, rfl⟩ : ∃ m : Nat, n = m := ⟨n.toNat, by omega⟩
  refine ⟨?_, below_grow w k os⟩
  rw [Lib.itoa_nonneg, ← hP.out]; rfl
theorem str_eq {l m : List UInt8} {b : Bool} (h : (l == m) = b) : ((str l).toList == (str m).toList) = b := by rw [str_toList, str_toList]; exact h

end Go.Proofs.YtolkijelldlmeaaGreatDoor
