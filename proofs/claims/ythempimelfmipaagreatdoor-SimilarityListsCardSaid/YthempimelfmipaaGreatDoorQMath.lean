/- Plain arithmetic: how rational numbers compare, and the laws of order and of the whole part. No program. -/
import Derived.Test.YthempimelfmipaaGreatDoorFMath
import Derived.Test.YthempimelfmipaaGreatDoorBase
namespace Go.Proofs.YthempimelfmipaaGreatDoor

theorem cmpQ_lt {p q : Rat} (h : p < q) : cmpQ p q = -1 := by rw [cmpQ, if_pos h]
theorem cmpQ_eq {p q : Rat} (h : p = q) : cmpQ p q = 0 := by subst h; rw [cmpQ, if_neg (Rat.lt_irrefl), if_pos rfl]
theorem cmpQ_gt {p q : Rat} (h : q < p) : cmpQ p q = 1 := by unfold cmpQ; grind
theorem cmpQ_cases (p q : Rat) : (p < q ∧ cmpQ p q = -1) ∨ (p = q ∧ cmpQ p q = 0) ∨ (q < p ∧ cmpQ p q = 1) := by unfold cmpQ; grind
theorem sgn_cases (p : Rat) : (p < 0 ∧ sgn p = -1) ∨ (p = 0 ∧ sgn p = 0) ∨ (0 < p ∧ sgn p = 1) := by unfold sgn; grind
theorem cmpQ_swap (p q : Rat) : cmpQ p q = -cmpQ q p := by
  rcases cmpQ_cases p q with h | h | h <;> rcases cmpQ_cases q p with k | k | k <;> grind
theorem cmpQ_range (p q : Rat) : -1 ≤ cmpQ p q ∧ cmpQ p q ≤ 1 := by
  rcases cmpQ_cases p q with h | h | h <;> omega
theorem cmpQ_zero {p q : Rat} : cmpQ p q = 0 ↔ p = q := by
  rcases cmpQ_cases p q with h | h | h <;> grind
theorem cmpQ_le {p q : Rat} : cmpQ p q ≤ 0 ↔ p ≤ q := by
  rcases cmpQ_cases p q with h | h | h <;> grind
theorem cmpQ_pos {p q : Rat} : 0 < cmpQ p q ↔ q < p := by
  rcases cmpQ_cases p q with h | h | h <;> grind
theorem cmpQ_neg {p q : Rat} : cmpQ p q < 0 ↔ p < q := by
  rcases cmpQ_cases p q with h | h | h <;> grind
theorem cmpQ_add (p q c : Rat) : cmpQ (p + c) (q + c) = cmpQ p q := by
  rw [cmpQ_sub, cmpQ_sub]; congr 1; grind
theorem sgn_mul (p q : Rat) : sgn (p * q) = sgn p * sgn q := by
  have h1 := @Rat.mul_pos p q
  have h2 := @Rat.mul_pos (-p) q
  have h3 := @Rat.mul_pos p (-q)
  have h4 := @Rat.mul_pos (-p) (-q)
  have e2 : -p * q = -(p * q) := by grind
  have e3 : p * -q = -(p * q) := by grind
  have e4 : -p * -q = p * q := by grind
  rw [e2] at h2
  rw [e3] at h3
  rw [e4] at h4
  rcases sgn_cases p with h | h | h <;> rcases sgn_cases q with k | k | k <;> rcases sgn_cases (p * q) with m | m | m <;> grind
theorem cmpQ_mul (p q c : Rat) : cmpQ (p * c) (q * c) = cmpQ p q * sgn c := by
  rw [cmpQ_sub, cmpQ_sub, show p * c - q * c = (p - q) * c by grind, sgn_mul]
theorem cmpQ_trans {p q r : Rat} (h1 : cmpQ p q ≤ 0) (h2 : cmpQ q r ≤ 0) : cmpQ p r ≤ 0 := by
  rw [cmpQ_le] at *; grind
theorem sgn_lt {p q : Rat} (h : sgn p < sgn q) : cmpQ p q = -1 := by
  rcases sgn_cases p with h1 | h1 | h1 <;> rcases sgn_cases q with h2 | h2 | h2 <;> rcases cmpQ_cases p q with h3 | h3 | h3 <;> grind
theorem sgn_gt {p q : Rat} (h : sgn q < sgn p) : cmpQ p q = 1 := by
  rw [cmpQ_swap, sgn_lt h]; rfl
theorem sgn_eq_zero {p : Rat} : sgn p = 0 ↔ p = 0 := by
  rcases sgn_cases p with h | h | h <;> grind
theorem cmpQ_same (s : Bool) {a b c d : Nat} (hb : 0 < b) (hd : 0 < d) : cmpQ (rv s a b) (rv s c d) = (if s then -1 else 1) * cmpI (a * d) (c * b) := by
  have hbd : 0 < b * d := Nat.mul_pos hb hd
  rw [cmpQ_sub]
  by_cases h : c * b ≤ a * d
  · have e : rv s a b - rv s c d = rv s (a * d - c * b) (b * d) := by rw [Rat.sub_eq_add_neg, neg_rv, rv_add_le s a b c d hb hd h]
    rw [e, sgn_rv]
    by_cases h2 : c * b < a * d
    · rw [if_neg (by omega), cmpI_gt h2]; cases s <;> rfl
    · rw [if_pos (by omega), cmpI_eq (by omega)]; cases s <;> rfl
  · have e : rv s a b - rv s c d = -rv s (c * b - a * d) (d * b) := by
      have := rv_add_le s c d a b hd hb (by omega)
      rw [← this, ← neg_rv]; grind
    rw [e, sgn_neg, sgn_rv, if_neg (by have := Nat.mul_pos hd hb; omega), cmpI_lt (by omega)]
    cases s <;> rfl

/-- the whole part, as a number -/
def flo (q : Rat) : Rat := (q.floor : Rat)
theorem flo_le (q : Rat) : flo q ≤ q := Rat.floor_le q
theorem lt_flo (q : Rat) : q < flo q + 1 := by have h := Rat.lt_floor_add_one q; rw [Rat.intCast_add] at h; exact h
theorem flo_flo (q : Rat) : flo (flo q) = flo q := by simp [flo]
theorem cmpQ_flo (q : Rat) : cmpQ (flo q) q ≤ 0 := cmpQ_le.2 (flo_le q)
theorem cmpQ_flo1 (q : Rat) : cmpQ q (flo q + 1) < 0 := cmpQ_neg.2 (lt_flo q)
theorem flo_rv (q : Rat) : flo q = rv (sg q) (if sg q && decide (0 < nu q % q.den) then nu q / q.den + 1 else nu q / q.den) 1 := floor_rv q
theorem len_succ {a k : Nat} (ha : (dig a).length ≤ k) : (dig (a + 1)).length ≤ k + 1 := by
  by_cases h : k = 0
  · subst h
    have h0 : a = 0 := dig_len_zero.1 (by omega)
    subst h0
    exact dig_len_le (by decide)
  · exact len_add ha (by have : (dig 1).length ≤ 1 := dig_len_le (by decide)
                         omega)
theorem Sz.flo {q : Rat} {k : Nat} (h : Sz q k) : Sz (flo q) (k + 1) := by
  rw [flo_rv]
  have h1 := Nat.le_trans (dig_mono (Nat.div_le_self (nu q) q.den)) h.1
  refine Sz.of_rv ?_ (by have : (dig 1).length ≤ 1 := dig_len_le (by decide)
                         omega) (by omega)
  split
  · exact len_succ h1
  · omega
theorem Sz.inv {q : Rat} {k : Nat} (h : Sz q k) (hk : 1 ≤ k) : Sz q⁻¹ k := by
  rw [← rv_self q, rv_inv]; exact Sz.of_rv h.2 h.1 hk
theorem Sz.one_le {q : Rat} {k : Nat} (h : Sz q k) : 1 ≤ k := Nat.le_trans (dig_len_pos.2 q.den_pos) h.2
theorem Sz.div {p q : Rat} {k m : Nat} (hp : Sz p k) (hq : Sz q m) : Sz (p * q⁻¹) (k + m) := hp.mul (hq.inv hq.one_le) (by have := hp.one_le; omega)
end Go.Proofs.YthempimelfmipaaGreatDoor
