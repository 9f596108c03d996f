/- The package natural, second part: compare, plus, minus. -/
import Derived.Test.YtilojhhmichemaaGreatDoorNat1
namespace Go.Proofs.YtilojhhmichemaaGreatDoor
open Go.RowKit Go.Proofs

theorem div_step {a b k : Nat} (h : a / pw (k + 1) = b / pw (k + 1)) (e : at_ (dig a) k = at_ (dig b) k) : a / pw k = b / pw k := by
  rw [div_pw_succ, div_pw_succ b, h, e]
theorem lt_of_div {a b k : Nat} (h : a / pw k < b / pw k) : a < b := by
  rcases Nat.lt_or_ge a b with h' | h'
  · exact h'
  · have := Nat.div_le_div_right (c := pw k) h'; omega
theorem lt_of_at {a b k : Nat} (h : a / pw (k + 1) = b / pw (k + 1)) (e : at_ (dig a) k < at_ (dig b) k) : a < b :=
  lt_of_div (k := k) (by rw [div_pw_succ, div_pw_succ b, h]; omega)
theorem lt_of_len {a b : Nat} (h : (dig a).length < (dig b).length) : a < b := by
  rcases Nat.lt_or_ge a b with h' | h'
  · exact h'
  · have := dig_mono h'; omega
theorem div_len (a : Nat) {k : Nat} (h : (dig a).length ≤ k) : a / pw k = 0 := by
  rw [Nat.div_eq_of_lt]
  exact Nat.lt_of_lt_of_le (dig_lt a) (pw_le h)

structure PlusAt (l m : List Nat) (k : Nat) (o : List Nat) (carry : Nat) : Prop where
  len : o.length = k
  dig : Dig o
  car : carry ≤ 1
  eq : val o + pw k * carry = val (l.take k) + val (m.take k)
theorem val_take_at (m : List Nat) (k : Nat) : val (m.take (k + 1)) = val (m.take k) + pw k * at_ m k := by
  by_cases h : k < m.length
  · exact val_take_succ h
  · rw [List.take_of_length_le (by omega), List.take_of_length_le (by omega), at_ge (by omega), Nat.mul_zero, Nat.add_zero]
theorem PlusAt.next {l m : List Nat} {k : Nat} {o : List Nat} {carry s : Nat} (h : PlusAt l m k o carry) (hl : Dig l) (hm : Dig m) (hs : s = at_ l k + carry + at_ m k) :
    PlusAt l m (k + 1) (o ++ [s % 1000000000]) (s / 1000000000) := by
  have := h.car
  have := hl k
  have := hm k
  refine ⟨by rw [List.length_append, h.len]; rfl, h.dig.snoc (by omega), by omega, ?_⟩
  rw [val_snoc, val_take_at l, val_take_at m, h.len, pw_succ]
  have e1 := h.eq
  have e : s = 1000000000 * (s / 1000000000) + s % 1000000000 := by omega
  generalize s / 1000000000 = q at *
  generalize s % 1000000000 = r at *
  grind
theorem PlusAt.done {l m : List Nat} {o : List Nat} {carry : Nat} (h : PlusAt l m l.length o carry) (hlen : m.length ≤ l.length) : val (o ++ [carry]) = val l + val m ∧ Dig (o ++ [carry]) := by
  have := h.car
  refine ⟨?_, h.dig.snoc (by omega)⟩
  rw [val_snoc, h.len, h.eq, List.take_of_length_le (Nat.le_refl _), List.take_of_length_le hlen]

end Go.Proofs.YtilojhhmichemaaGreatDoor
