/- The package natural: Digits, Pow. -/
import Derived.Test.YtolkijelldlmeaaGreatDoorText2
namespace Go.Proofs.YtolkijelldlmeaaGreatDoor
open Go.RowKit Go.Proofs Go

theorem and_one_256 : ∀ e : Fin 257, bits BinOp.and IntKind.i64 (e.val : Int) 1 = ((e.val % 2 : Nat) : Int) := by decide +kernel
theorem pow_le_max {V r N : Nat} (h : r ≤ N) : V ^ r ≤ max 1 (V ^ N) := by
  rcases Nat.eq_zero_or_pos V with h0 | h0
  · subst h0
    rcases Nat.eq_zero_or_pos r with h1 | h1
    · subst h1; simp; omega
    · rw [Nat.zero_pow h1]; omega
  · have := Nat.pow_le_pow_right h0 h; omega
theorem pow_len {V r N : Nat} (h : r ≤ N) (hd : Lib.nDigits V * N ≤ 4000) : (dig (V ^ r)).length ≤ 445 := by
  obtain ⟨L, hL⟩ : ∃ L, L = 445 := ⟨_, rfl⟩
  rw [← hL]
  refine dig_len_le (Nat.lt_of_le_of_lt (pow_le_max h) ?_)
  obtain ⟨K, hK⟩ : ∃ K, K = 4001 := ⟨_, rfl⟩
  have h1 : V ^ N < 10 ^ K := by
    have h2 : V ^ N ≤ (10 ^ Lib.nDigits V) ^ N := Nat.pow_le_pow_left (Nat.le_of_lt (Lib.lt_pow_nDigits V)) N
    rw [← Nat.pow_mul] at h2
    exact Nat.lt_of_le_of_lt h2 (Nat.pow_lt_pow_right (by omega) (by omega))
  have h3 : (10 : Nat) ^ K ≤ pw L := by rw [pw_ten]; exact Nat.pow_le_pow_right (by omega) (by omega)
  have h4 : 1 < 10 ^ K := Nat.one_lt_pow (by omega) (by omega)
  generalize 10 ^ K = T at *
  omega

end Go.Proofs.YtolkijelldlmeaaGreatDoor
