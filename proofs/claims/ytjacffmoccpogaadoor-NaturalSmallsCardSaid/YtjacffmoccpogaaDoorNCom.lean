/- What the statements on naturals share: arguments, sizes. -/
import Derived.Test.YtjacffmoccpogaaDoorNAwake
namespace Go.Proofs.YtjacffmoccpogaaDoor
open Go.RowKit Go.Proofs Go

/-- an argument: a natural of any kind -/
structure NArg (w : World) (A : Option Addr) (n c : Nat) : Prop where
  ex : ∃ l, Lim w A c l ∧ n = l.length
  hn : n ≤ 9223372036854775807
theorem NArg.nr {w : World} {A : Option Addr} {n c k : Nat} (h : NArg w A n c) (hk : n ≤ k) : ∃ q, Nr w A n c q k := by
  obtain ⟨l, h1, h2⟩ := h.ex
  exact ⟨val l, l, h1, h2, rfl, hk⟩
theorem fewN_true {n m : Nat} (h : fewN n m = true) : n ≤ 12 ∧ m ≤ 12 := by simpa [fewN] using h
theorem gcd_len {a b k m : Nat} (ha : (dig a).length ≤ k) (hb : (dig b).length ≤ m) : (dig (Nat.gcd a b)).length ≤ k + m := by
  rcases Nat.eq_zero_or_pos a with h | h
  · subst h; rw [Nat.gcd_zero_left]; omega
  · exact Nat.le_trans (dig_mono (Nat.gcd_le_left b h)) (by omega)
theorem cmp_self (a : Nat) : cmpI a a = 0 := cmpI_eq rfl
end Go.Proofs.YtjacffmoccpogaaDoor
