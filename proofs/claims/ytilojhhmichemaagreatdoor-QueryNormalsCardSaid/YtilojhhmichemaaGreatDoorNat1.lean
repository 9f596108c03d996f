/- The package natural, first part: trim, limbs, made, compare. -/
import Derived.Test.YtilojhhmichemaaGreatDoorProg
import Derived.Test.YtilojhhmichemaaGreatDoorBase
namespace Go.Proofs.YtilojhhmichemaaGreatDoor
open Go.RowKit Go.Proofs

theorem EU : Elt Tryz.prog 94 112 (.int .u32 0) 4 := ⟨Tryz.underlying94, by kernel_rfl, rfl⟩

def lenOf : Value → Nat | .slice _ n _ => n | _ => 0

/-- limbs, after k rounds -/
structure LimbsAt (l : List Nat) (k : Nat) (o : List Nat) (carry : Nat) : Prop where
  len : o.length = k
  dig : Dig o
  car : carry ≤ 4
  eq : val o + pw k * carry = val (l.take k)
theorem LimbsAt.next {l : List Nat} {k : Nat} {o : List Nat} {carry : Nat} (h : LimbsAt l k o carry) (hk : k < l.length) (hs : at_ l k < 4294967296) :
    LimbsAt l (k + 1) (o ++ [(carry + at_ l k) % 1000000000]) ((carry + at_ l k) / 1000000000) := by
  have := h.car
  refine ⟨by rw [List.length_append, h.len]; rfl, h.dig.snoc (by omega), by omega, ?_⟩
  rw [val_snoc, val_take_succ hk, ← h.eq, h.len, pw_succ]
  have e : carry + at_ l k = 1000000000 * ((carry + at_ l k) / 1000000000) + (carry + at_ l k) % 1000000000 := by omega
  generalize (carry + at_ l k) / 1000000000 = q at *
  generalize (carry + at_ l k) % 1000000000 = r at *
  grind
theorem LimbsAt.done {l : List Nat} {o : List Nat} {carry : Nat} (h : LimbsAt l l.length o carry) : val (o ++ [carry]) = val l ∧ Dig (o ++ [carry]) := by
  have := h.car
  refine ⟨?_, h.dig.snoc (by omega)⟩
  rw [val_snoc, h.len, h.eq, List.take_of_length_le (Nat.le_refl _)]

theorem small_of_dig {l : List Nat} (h : Dig l) (j : Nat) : at_ l j < 4294967296 := by have := h j; omega

end Go.Proofs.YtilojhhmichemaaGreatDoor
