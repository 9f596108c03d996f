/- The package natural, fourth part: times, short. -/
import Derived.Test.YtilojhhmichemaaGreatDoorNat3
namespace Go.Proofs.YtilojhhmichemaaGreatDoor
open Go.RowKit Go.Proofs

structure TimesAt (l m : List Nat) (k : Nat) (o : List Nat) : Prop where
  len : o.length = l.length + m.length
  dg : Dig o
  eq : val o = val (l.take k) * val m
  zer : ∀ p, k + m.length ≤ p → at_ o p = 0
structure InAt (l m : List Nat) (k j : Nat) (o : List Nat) (carry : Nat) : Prop where
  len : o.length = l.length + m.length
  dg : Dig o
  car : carry < 1000000000
  eq : val o + pw (k + j) * carry = val (l.take k) * val m + pw k * at_ l k * val (m.take j)
  zer : ∀ p, k + m.length ≤ p → at_ o p = 0
theorem TimesAt.start {l m : List Nat} {k : Nat} {o : List Nat} (h : TimesAt l m k o) : InAt l m k 0 o 0 :=
  ⟨h.len, h.dg, by omega, by rw [h.eq, List.take_zero, val_nil]; omega, h.zer⟩
theorem mul_digits {x y : Nat} (hx : x < 1000000000) (hy : y < 1000000000) : x * y ≤ 999999998000000001 :=
  Nat.mul_le_mul (show x ≤ 999999999 by omega) (show y ≤ 999999999 by omega)
theorem InAt.next {l m : List Nat} {k j s : Nat} {o : List Nat} {carry : Nat} (h : InAt l m k j o carry) (hk : k < l.length) (hj : j < m.length) (hl : Dig l) (hm : Dig m)
    (hs : s = carry + (at_ l k * at_ m j + at_ o (k + j))) : InAt l m k (j + 1) (o.set (k + j) (s % 1000000000)) (s / 1000000000) := by
  have h1 := h.car
  have h2 := h.dg (k + j)
  have h3 := mul_digits (hl k) (hm j)
  have hlt : k + j < o.length := by rw [h.len]; omega
  refine ⟨by rw [List.length_set]; exact h.len, h.dg.set _ (by omega), by omega, ?_, fun p hp => by rw [at_set_ne (by omega)]; exact h.zer p hp⟩
  have e1 := val_set hlt (s % 1000000000)
  have e2 := h.eq
  rw [val_take_succ hj, ← Nat.add_assoc k j 1, pw_succ]
  rw [pw_add] at *
  have e : s = 1000000000 * (s / 1000000000) + s % 1000000000 := by omega
  generalize s / 1000000000 = q at *
  generalize s % 1000000000 = r at *
  generalize val (o.set (k + j) r) = v' at *
  grind
theorem InAt.finish {l m : List Nat} {k : Nat} {o : List Nat} {carry : Nat} (h : InAt l m k m.length o carry) (hk : k < l.length) : TimesAt l m (k + 1) (o.set (k + m.length) carry) := by
  have hlt : k + m.length < o.length := by rw [h.len]; omega
  have e1 := val_set hlt carry
  rw [h.zer _ (Nat.le_refl _), h.eq, List.take_of_length_le (Nat.le_refl _)] at e1
  refine ⟨by rw [List.length_set]; exact h.len, h.dg.set _ h.car, ?_, fun p hp => by rw [at_set_ne (by omega)]; exact h.zer p (by omega)⟩
  rw [val_take_succ hk, Nat.add_mul]
  omega

structure ShortAt (l : List Nat) (d k : Nat) (o : List Nat) (r : Nat) : Prop where
  len : o.length = l.length
  dg : Dig o
  lt : r < d
  eq : val (l.drop k) = val (o.drop k) * d + r
theorem ShortAt.next {l : List Nat} {d k s : Nat} {o : List Nat} {r : Nat} (h : ShortAt l d (k + 1) o r) (hk : k < l.length) (hl : Dig l) (hs : s = r * 1000000000 + at_ l k) : ShortAt l d k (o.set k (s / d)) (s % d) ∧ s / d < 1000000000 := by
  have h1 := h.lt
  have h2 := hl k
  have hq : s / d < 1000000000 := by
    rw [Nat.div_lt_iff_lt_mul (by omega)]
    have : 1000000000 * (r + 1) ≤ 1000000000 * d := Nat.mul_le_mul_left _ h1
    omega
  refine ⟨⟨by rw [List.length_set]; exact h.len, h.dg.set _ hq, Nat.mod_lt _ (by omega), ?_⟩, hq⟩
  have hk2 : k < (o.set k (s / d)).length := by rw [List.length_set, h.len]; exact hk
  rw [val_drop_cons hk, val_drop_cons hk2, at_set_same (by rw [h.len]; exact hk), h.eq, List.drop_set_of_lt (by omega)]
  have e : s = d * (s / d) + s % d := (Nat.div_add_mod s d).symm
  generalize s / d = q at *
  generalize s % d = t at *
  grind
def RetSR (w : World) (q r : Nat) (e : Ending) (w' : World) : Prop := ∃ A c, e = .returned (.tuple #[.slice A (dig q).length c, .int .u32 r]) ∧ Lim w' A c (dig q) ∧ Below w.heap.size w w'
theorem ret_slice_int {A : Option Addr} {n m c : Nat} {k : IntKind} {x y : Int} (h : n = m) (h2 : x = y) : Ending.returned (.tuple #[.slice A n c, .int k x]) = .returned (.tuple #[.slice A m c, .int k y]) := by rw [h, h2]

end Go.Proofs.YtilojhhmichemaaGreatDoor
