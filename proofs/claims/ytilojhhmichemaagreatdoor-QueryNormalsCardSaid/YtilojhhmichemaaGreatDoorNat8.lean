/- The package natural, eighth part: the exported functions Cmp, Add, Mul, Sub. Printed by gen8.py. -/
import Derived.Test.YtilojhhmichemaaGreatDoorNat7
import Derived.Test.YtilojhhmichemaaGreatDoorBox
namespace Go.Proofs.YtilojhhmichemaaGreatDoor
open Go.RowKit Go.Proofs

theorem dig_len_of {l : List Nat} {n : Nat} (hs : ∀ j, at_ l j < 4294967296) (hn : n = l.length) : (dig (val l)).length ≤ n + 1 := by
  subst hn
  refine dig_len_le ?_
  have key : ∀ l : List Nat, (∀ j, at_ l j < 4294967296) → 999999999 * val l + 4294967295 ≤ 4294967295 * pw l.length := by
    intro l
    induction l with
    | nil => intro _; rw [val_nil, List.length_nil, pw_zero]; omega
    | cons x l ih =>
      intro hs
      have h0 := hs 0
      rw [at_zero] at h0
      have := ih (fun j => by have := hs (j + 1); rwa [at_succ] at this)
      rw [val_cons, List.length_cons, pw_succ]
      omega
  have h1 := key l hs
  rw [pw_succ]
  omega

theorem add_len {a b k m : Nat} (ha : (dig a).length ≤ k) (hb : (dig b).length ≤ m) : (dig (a + b)).length ≤ k + m + 1 := by
  have h1 := Nat.lt_of_lt_of_le (dig_lt a) (pw_le ha)
  have h2 := Nat.lt_of_lt_of_le (dig_lt b) (pw_le hb)
  refine dig_len_le ?_
  rw [pw_succ, pw_add]
  have h3 := pw_pos k
  have h4 := pw_pos m
  have h5 : pw k ≤ pw k * pw m := Nat.le_mul_of_pos_right _ h4
  have h6 : pw m ≤ pw k * pw m := Nat.le_mul_of_pos_left _ h3
  omega

theorem mul_len {a b k m : Nat} (ha : (dig a).length ≤ k) (hb : (dig b).length ≤ m) : (dig (a * b)).length ≤ k + m + 1 := by
  have h1 := Nat.lt_of_lt_of_le (dig_lt a) (pw_le ha)
  have h2 := Nat.lt_of_lt_of_le (dig_lt b) (pw_le hb)
  refine dig_len_le ?_
  rw [pw_succ, pw_add]
  have h3 := pw_pos k
  have h4 := pw_pos m
  have h5 : a * b < pw k * pw m := Nat.mul_lt_mul'' h1 h2
  omega

def RetNE (w : World) (n : Nat) (err : Int) (e : Ending) (w' : World) : Prop := ∃ A c, e = .returned (.tuple #[.agg #[.slice A (dig n).length c], .int .i64 err]) ∧ Lim w' A c (dig n) ∧ Below w.heap.size w w'
theorem RetNE.nil {w w' : World} {err : Int} (hb : Below w.heap.size w w') : RetNE w 0 err (.returned (.tuple #[.agg #[.slice none 0 0], .int .i64 err])) w' := ⟨none, 0, rfl, Lim.nil _ _ _, hb⟩

end Go.Proofs.YtilojhhmichemaaGreatDoor
