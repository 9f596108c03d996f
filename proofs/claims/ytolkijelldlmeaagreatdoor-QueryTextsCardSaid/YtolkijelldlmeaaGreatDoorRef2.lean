/- The reference of layer 1, second part: Add, Sub, Mul. Printed by genref2.py. -/
import Derived.Test.YtolkijelldlmeaaGreatDoorRef1
namespace Go.Proofs.YtolkijelldlmeaaGreatDoor
open Go.RowKit Go.Proofs


theorem small_snoc {o : List Nat} {x : Nat} (h : ∀ j, at_ o j < 4294967296) (hx : x < 4294967296) (j : Nat) : at_ (o ++ [x]) j < 4294967296 := by
  by_cases hj : j < o.length
  · rw [at_append_l hj]; exact h j
  · rw [at_append_r (by omega)]
    cases e : j - o.length with
    | zero => rw [at_zero]; exact hx
    | succ k => rw [at_succ, at_nil]; omega

def RetNEF (w : World) (n : Nat) (err : Int) (e : Ending) (w' : World) : Prop := ∃ A c, e = .returned (.tuple #[.agg #[.slice A (dig n).length c], .int .i64 err]) ∧ Lim w' A c (dig n) ∧ Below w.heap.size w w' ∧ ∀ g, g < w.heap.size → Avoid g A (dig n).length
theorem RetNEF.ret {w w' : World} {n : Nat} {err : Int} {e : Ending} (h : RetNEF w n err e w') : RetNE w n err e w' := by
  obtain ⟨A, c, h1, h2, h3, _⟩ := h
  exact ⟨A, c, h1, h2, h3⟩
theorem RetNEF.nil {w w' : World} {err : Int} (hb : Below w.heap.size w w') : RetNEF w 0 err (.returned (.tuple #[.agg #[.slice none 0 0], .int .i64 err])) w' := ⟨none, 0, rfl, Lim.nil _ _ _, hb, fun _ _ h => absurd h (by simp [dig_zero])⟩


structure RMulAt (l m : List Nat) (k : Nat) (o : List Nat) : Prop where
  len : o.length = l.length + m.length + 1
  dg : Dig o
  eq : val o = val (l.take k) * val m
  zer : ∀ p, k + m.length ≤ p → at_ o p = 0
structure RInAt (l m : List Nat) (k j : Nat) (o : List Nat) (carry : Nat) : Prop where
  len : o.length = l.length + m.length + 1
  dg : Dig o
  car : carry < 1000000000
  eq : val o + pw (k + j) * carry = val (l.take k) * val m + pw k * at_ l k * val (m.take j)
  zer : ∀ p, k + m.length ≤ p → k + j ≤ p → at_ o p = 0
  jle : j ≤ m.length + 1
  fin : j = m.length + 1 → carry = 0
theorem RMulAt.start {l m : List Nat} {k : Nat} {o : List Nat} (h : RMulAt l m k o) : RInAt l m k 0 o 0 :=
  ⟨h.len, h.dg, by omega, by rw [h.eq, List.take_zero, val_nil]; omega, fun p hp _ => h.zer p hp, by omega, fun _ => rfl⟩
theorem RInAt.next {l m : List Nat} {k j s : Nat} {o : List Nat} {carry : Nat} (h : RInAt l m k j o carry) (hk : k < l.length) (hj : j < m.length) (hl : Dig l) (hm : Dig m)
    (hs : s = at_ o (k + j) + carry + at_ l k * at_ m j) : RInAt l m k (j + 1) (o.set (k + j) (s % 1000000000)) (s / 1000000000) := by
  have h1 := h.car
  have h2 := h.dg (k + j)
  have h3 := mul_digits (hl k) (hm j)
  have hlt : k + j < o.length := by rw [h.len]; omega
  refine ⟨by rw [List.length_set]; exact h.len, h.dg.set _ (by omega), by omega, ?_, fun p hp hp2 => by rw [at_set_ne (by omega)]; exact h.zer p hp (by omega), by omega, fun he => absurd he (by omega)⟩
  have e1 := val_set hlt (s % 1000000000)
  have e2 := h.eq
  rw [val_take_succ hj, ← Nat.add_assoc k j 1, pw_succ]
  rw [pw_add] at *
  have e : s = 1000000000 * (s / 1000000000) + s % 1000000000 := by omega
  generalize s / 1000000000 = q at *
  generalize s % 1000000000 = r at *
  generalize val (o.set (k + j) r) = v' at *
  grind
theorem RInAt.last {l m : List Nat} {k : Nat} {o : List Nat} {carry : Nat} (h : RInAt l m k m.length o carry) (hk : k < l.length) : RInAt l m k (m.length + 1) (o.set (k + m.length) carry) 0 := by
  have hlt : k + m.length < o.length := by rw [h.len]; omega
  refine ⟨by rw [List.length_set]; exact h.len, h.dg.set _ h.car, by omega, ?_, fun p hp hp2 => by rw [at_set_ne (by omega)]; exact h.zer p hp (by omega), Nat.le_refl _, fun _ => rfl⟩
  have e1 := val_set hlt carry
  have e2 := h.eq
  rw [h.zer _ (Nat.le_refl _) (Nat.le_refl _)] at e1
  rw [List.take_of_length_le (Nat.le_refl _)] at e2
  rw [List.take_of_length_le (Nat.le_succ _), Nat.mul_zero, Nat.add_zero]
  rw [Nat.mul_zero, Nat.add_zero] at e1
  rw [e1, e2]
theorem RInAt.finish {l m : List Nat} {k j : Nat} {o : List Nat} (h : RInAt l m k j o 0) (hk : k < l.length) (hj : m.length ≤ j) : RMulAt l m (k + 1) o := by
  have e := h.eq
  have hle := h.jle
  rw [List.take_of_length_le hj] at e
  refine ⟨h.len, h.dg, ?_, fun p hp => h.zer p (by omega) (by omega)⟩
  rw [val_take_succ hk, Nat.add_mul]
  omega


end Go.Proofs.YtolkijelldlmeaaGreatDoor
