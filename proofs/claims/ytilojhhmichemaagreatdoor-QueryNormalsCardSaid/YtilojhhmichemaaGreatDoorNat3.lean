/- The package natural, third part: minus, times, short. -/
import Derived.Test.YtilojhhmichemaaGreatDoorNat2
namespace Go.Proofs.YtilojhhmichemaaGreatDoor
open Go.RowKit Go.Proofs

structure MinusAt (l m : List Nat) (k : Nat) (o : List Nat) (br : Nat) : Prop where
  len : o.length = k
  dg : Dig o
  car : br ≤ 1
  eq : val o + val (m.take k) = val (l.take k) + pw k * br
theorem MinusAt.next {l m : List Nat} {k : Nat} {o : List Nat} {br x br2 : Nat} (h : MinusAt l m k o br) (hx : x < 1000000000) (hb : br2 ≤ 1) (e : x + at_ m k + br = at_ l k + 1000000000 * br2) :
    MinusAt l m (k + 1) (o ++ [x]) br2 := by
  refine ⟨by rw [List.length_append, h.len]; rfl, h.dg.snoc hx, hb, ?_⟩
  rw [val_snoc, val_take_at l, val_take_at m, h.len, pw_succ]
  have e1 := h.eq
  grind
theorem MinusAt.done {a b : Nat} {o : List Nat} {br : Nat} (h : MinusAt (dig a) (dig b) (dig a).length o br) (hle : b ≤ a) : val o = a - b := by
  have e := h.eq
  have hlt := val_lt h.dg
  rw [h.len] at hlt
  rw [List.take_of_length_le (Nat.le_refl _), List.take_of_length_le (dig_mono hle), val_dig, val_dig] at e
  have hc := h.car
  rcases Nat.eq_zero_or_pos br with h0 | h0
  · rw [h0] at e; omega
  · obtain rfl : br = 1 := by omega
    omega

theorem RetF.ret {w w' : World} {n : Nat} {e : Ending} (h : RetF w n e w') : RetS w n e w' := by
  obtain ⟨A, c, h1, h2, h3, _⟩ := h
  exact ⟨A, c, h1, h2, h3⟩
end Go.Proofs.YtilojhhmichemaaGreatDoor
