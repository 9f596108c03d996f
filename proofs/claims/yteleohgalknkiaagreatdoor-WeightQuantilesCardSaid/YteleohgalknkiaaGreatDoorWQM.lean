/- Plain: medians, quantiles and deviations as quotients of whole numbers. No program. -/
import Derived.Test.YteleohgalknkiaaGreatDoorQMath
import Derived.Test.YteleohgalknkiaaGreatDoorDMath
import Derived.Test.YteleohgalknkiaaGreatDoorW3M
namespace Go.Proofs.YteleohgalknkiaaGreatDoor

def quo (x d : Int) : Rat := (x : Rat) / (d : Rat)
theorem cast_ne {d : Int} (h : 0 < d) : (d : Rat) ≠ 0 := fun e => by
  have := Rat.intCast_eq_zero_iff.1 e
  omega
theorem quo_rv (x : Int) {d : Int} (hd : 0 < d) : quo x d = rv (decide (x < 0)) x.natAbs d.natAbs := by
  rw [rv, Rat.mkRat_eq_div, quo]
  have e1 : (if decide (x < 0) = true then -(x.natAbs : Int) else (x.natAbs : Int)) = x := by
    by_cases h : x < 0
    · simp only [decide_eq_true h, if_true]; omega
    · simp only [decide_eq_false h, Bool.false_eq_true, if_false]; omega
  have e2 : ((d.natAbs : Nat) : Rat) = (d : Rat) := by
    rw [← Rat.intCast_natCast]; congr 1; omega
  rw [e1, e2]
theorem quo_sz {x d : Int} (h1 : -1000000000000000000 < x) (h2 : x < 1000000000000000000) (hd : 0 < d) (h3 : d < 1000000000000000000) : Sz (quo x d) 2 := by
  rw [quo_rv x hd]
  exact Sz.of_rv (dig_len_le (k := 2) (by have h := pw_ten 2; rw [h]; omega)) (dig_len_le (k := 2) (by have h := pw_ten 2; rw [h]; omega)) (by omega)
theorem quo_sub (x y : Int) {d e : Int} (hd : 0 < d) (he : 0 < e) : quo x d - quo y e = quo (x * e - y * d) (d * e) := by
  have h1 := cast_ne hd
  have h2 := cast_ne he
  rw [quo, quo, quo, Rat.intCast_sub, Rat.intCast_mul, Rat.intCast_mul, Rat.intCast_mul]
  grind
theorem quo_add (x y : Int) {d : Int} (hd : 0 < d) : quo x d + quo y d = quo (x + y) d := by
  have h1 := cast_ne hd
  rw [quo, quo, quo, Rat.intCast_add]
  grind
theorem quo_mul (x y : Int) {d e : Int} (hd : 0 < d) (he : 0 < e) : quo x d * quo y e = quo (x * y) (d * e) := by
  have h1 := cast_ne hd
  have h2 := cast_ne he
  rw [quo, quo, quo, Rat.intCast_mul, Rat.intCast_mul]
  grind
theorem quo_neg (x d : Int) : -quo x d = quo (-x) d := by
  rw [quo, quo, Rat.intCast_neg]
  grind
theorem quo_eq {x y d e : Int} (hd : 0 < d) (he : 0 < e) (h : x * e = y * d) : quo x d = quo y e := by
  have h1 := cast_ne hd
  have h2 := cast_ne he
  have h3 : (x : Rat) * (e : Rat) = (y : Rat) * (d : Rat) := by rw [← Rat.intCast_mul, ← Rat.intCast_mul, h]
  rw [quo, quo]
  grind
theorem quo_sub_le {x y d : Int} (hd : 0 < d) (h : x ≤ y) : quo x d ≤ quo y d := by
  rw [quo_rv x hd, quo_rv y hd, rv, rv]
  have h1 : (0 : Rat) < (d : Rat) := by exact_mod_cast (Rat.intCast_lt_intCast.2 hd)
  have h2 : (x : Rat) ≤ (y : Rat) := Rat.intCast_le_intCast.2 h
  have e := quo_rv x hd
  have e2 := quo_rv y hd
  rw [rv] at e e2
  rw [← e, ← e2, quo, quo, Rat.div_def, Rat.div_def]
  exact Rat.mul_le_mul_of_nonneg_right h2 (Rat.le_of_lt (Rat.inv_pos.2 h1))
theorem quo_add2 (x y : Int) {d e : Int} (hd : 0 < d) (he : 0 < e) : quo x d + quo y e = quo (x * e + y * d) (d * e) := by
  have h1 := cast_ne hd
  have h2 := cast_ne he
  rw [quo, quo, quo, Rat.intCast_add, Rat.intCast_mul, Rat.intCast_mul, Rat.intCast_mul]
  grind
theorem quo_le {x y d e : Int} (hd : 0 < d) (he : 0 < e) (h : x * e ≤ y * d) : quo x d ≤ quo y e := by
  have hde := Int.mul_pos hd he
  rw [quo_eq (x := x) (d := d) (y := x * e) (e := d * e) hd hde (by grind), quo_eq (x := y) (d := e) (y := y * d) (e := d * e) he hde (by grind)]
  exact quo_sub_le hde h
theorem quo_inj {x y d e : Int} (hd : 0 < d) (he : 0 < e) (h : quo x d = quo y e) : x * e = y * d := by
  have h1 := cast_ne hd
  have h2 := cast_ne he
  have h3 : ((x * e : Int) : Rat) = ((y * d : Int) : Rat) := by
    rw [quo, quo] at h
    rw [Rat.intCast_mul, Rat.intCast_mul]
    grind
  exact Rat.intCast_inj.1 h3
theorem quo_le_iff {x y d e : Int} (hd : 0 < d) (he : 0 < e) : quo x d ≤ quo y e ↔ x * e ≤ y * d := by
  refine ⟨fun h => ?_, quo_le hd he⟩
  rcases Int.lt_or_le (y * d) (x * e) with h1 | h1
  · have h2 := quo_le he hd (x := y) (y := x) (by omega)
    have h3 := quo_inj hd he (Rat.le_antisymm h h2)
    omega
  · exact h1
theorem quo_lt_iff {x y d e : Int} (hd : 0 < d) (he : 0 < e) : quo x d < quo y e ↔ x * e < y * d := by
  rw [← Rat.not_le, quo_le_iff he hd]; omega
/-- what Of makes of two numbers -/
theorem of_quo (x : Int) {y : Int} (hy : 0 < y) : rv (!(decide (x < 0) == decide (y < 0))) x.natAbs y.natAbs = quo x y := by
  rw [quo_rv x hy, decide_eq_false (show ¬ y < 0 by omega)]
  cases decide (x < 0) <;> rfl
theorem cmp_quo (x y : Int) {d e : Int} (hd : 0 < d) (he : 0 < e) : cmpQ (quo x d) (quo y e) = if x * e < y * d then -1 else if x * e = y * d then 0 else 1 := by
  by_cases h1 : x * e < y * d
  · rw [if_pos h1]; exact cmpQ_lt ((quo_lt_iff hd he).2 h1)
  · rw [if_neg h1]
    by_cases h2 : x * e = y * d
    · rw [if_pos h2]; exact cmpQ_eq (quo_eq hd he h2)
    · rw [if_neg h2]; exact cmpQ_gt ((quo_lt_iff he hd).2 (by omega))
theorem sgn_quo (x : Int) {d : Int} (hd : 0 < d) : sgn (quo x d) = if x < 0 then -1 else if x = 0 then 0 else 1 := by
  rw [quo_rv x hd, sgn_rv]
  by_cases h0 : x = 0
  · subst h0; simp
  · rw [if_neg (by omega)]
    by_cases h1 : x < 0
    · rw [decide_eq_true h1, if_pos h1]; rfl
    · rw [decide_eq_false h1, if_neg h1, if_neg h0]; rfl
theorem quo_sz1 {x d : Int} (h1 : -1000000000 < x) (h2 : x < 1000000000) (hd : 0 < d) (h3 : d < 1000000000) : Sz (quo x d) 1 := by
  rw [quo_rv x hd]
  exact Sz.of_rv (dig_len_le (k := 1) (by have h := pw_ten 1; rw [h]; omega)) (dig_len_le (k := 1) (by have h := pw_ten 1; rw [h]; omega)) (by omega)
end Go.Proofs.YteleohgalknkiaaGreatDoor

namespace Go.Proofs.YteleohgalknkiaaGreatDoor

/-- the whole number i + 1 is below the p-th part of n -/
def lowQ (p : Rat) (n i : Nat) : Bool := decide (quo ((i : Int) + 1) 1 < p * quo (n : Int) 1)
theorem sgn_n {n : Nat} (h : 0 < n) : sgn (quo (n : Int) 1) = 1 := by
  rw [sgn_quo _ (by omega), if_neg (by omega), if_neg (by omega)]
theorem low_ref (p : Rat) {n : Nat} (h : 0 < n) (i : Nat) : cmpQ (quo ((i : Int) + 1) (n : Int)) p = cmpQ (quo ((i : Int) + 1) 1) (p * quo (n : Int) 1) := by
  have h1 := cmpQ_mul (quo ((i : Int) + 1) (n : Int)) p (quo (n : Int) 1)
  rw [sgn_n h, Int.mul_one, quo_mul _ _ (by omega) (by omega)] at h1
  rw [← h1]
  congr 1
  exact quo_eq (by omega) (by omega) (by grind)
theorem low_iff (p : Rat) (n i : Nat) : lowQ p n i = true ↔ cmpQ (quo ((i : Int) + 1) 1) (p * quo (n : Int) 1) < 0 := by
  rw [lowQ, decide_eq_true_eq, cmpQ_neg]
theorem low_last {p : Rat} (h : p ≤ quo 1 1) {n : Nat} (hn : 0 < n) : lowQ p n (n - 1) = false := by
  refine decide_eq_false fun h1 => ?_
  rw [show ((n - 1 : Nat) : Int) + 1 = (n : Int) by omega] at h1
  have h2 : cmpQ (p * quo (n : Int) 1) (quo 1 1 * quo (n : Int) 1) ≤ 0 := by
    rw [cmpQ_mul, sgn_n hn, Int.mul_one]; exact cmpQ_le.2 h
  rw [cmpQ_le, quo_mul _ _ (by omega) (by omega), Int.one_mul, Int.one_mul] at h2
  exact Rat.not_le.2 h1 h2
/-- the index of the quantile -/
def QAt (p : Rat) (n i : Nat) : Prop := i < n ∧ lowQ p n i = false ∧ ∀ j, j < i → lowQ p n j = true
theorem QAt.ex {p : Rat} (h : p ≤ quo 1 1) {n : Nat} (hn : 0 < n) : ∃ i, QAt p n i := by
  have key : ∀ k : Nat, (∀ j, j < k → lowQ p n j = true) → k < n → ∃ i, QAt p n i := by
    intro k
    induction hm : n - k generalizing k with
    | zero => intro _ h2; omega
    | succ m ih =>
      intro h1 h2
      cases h3 : lowQ p n k with
      | false => exact ⟨k, h2, h3, h1⟩
      | true =>
        refine ih (k + 1) (by omega) (fun j hj => ?_) ?_
        · by_cases e : j = k
          · rw [e]; exact h3
          · exact h1 j (by omega)
        · rcases Nat.lt_or_ge (k + 1) n with h4 | h4
          · exact h4
          · obtain rfl : k = n - 1 := by omega
            rw [low_last h hn] at h3; cases h3
  exact key 0 (fun j hj => by omega) hn
theorem QAt.unique {p : Rat} {n i j : Nat} (h : QAt p n i) (k : QAt p n j) : i = j := by
  rcases Nat.lt_trichotomy i j with e | e | e
  · have := k.2.2 i e; rw [h.2.1] at this; cases this
  · exact e
  · have := h.2.2 j e; rw [k.2.1] at this; cases this
/-- enough are at most the quantile -/
theorem quant_most {p : Rat} {l : List Int} {i : Nat} (h : QAt p l.length i) : 0 ≤ cmpQ (quo ((l.countP fun x => decide (x ≤ at0 (srt l) i) : Nat) : Int) 1) (p * quo (l.length : Int) 1) := by
  have h1 : i + 1 ≤ l.countP fun x => decide (x ≤ at0 (srt l) i) := by
    rw [countP_srt]
    refine countP_least (by rw [srt_len]; exact h.1) fun j hj => decide_eq_true ?_
    exact asc_le (srt_asc l) (by omega) (by rw [srt_len]; exact h.1)
  have h2 : ¬ quo ((i : Int) + 1) 1 < p * quo (l.length : Int) 1 := of_decide_eq_false h.2.1
  have h3 : quo ((i : Int) + 1) 1 ≤ quo ((l.countP fun x => decide (x ≤ at0 (srt l) i) : Nat) : Int) 1 := quo_le (by omega) (by omega) (by omega)
  have h4 : ¬ quo ((l.countP fun x => decide (x ≤ at0 (srt l) i) : Nat) : Int) 1 < p * quo (l.length : Int) 1 := fun h5 => h2 (by
    have := Rat.not_lt.1 h2; exact absurd h5 (Rat.not_lt.2 (Rat.le_trans this h3)))
  have h5 : ¬ cmpQ (quo ((l.countP fun x => decide (x ≤ at0 (srt l) i) : Nat) : Int) 1) (p * quo (l.length : Int) 1) < 0 := fun h6 => h4 (cmpQ_neg.1 h6)
  omega
/-- not enough are less -/
theorem quant_less {p : Rat} (hp : 0 < p) {l : List Int} {i : Nat} (h : QAt p l.length i) : cmpQ (quo ((l.countP fun x => decide (x < at0 (srt l) i) : Nat) : Int) 1) (p * quo (l.length : Int) 1) < 0 := by
  have h1 : l.countP (fun x => decide (x < at0 (srt l) i)) ≤ i := by
    rw [countP_srt]
    refine countP_first fun j hj hj2 => decide_eq_false ?_
    have := asc_le (srt_asc l) (i := i) (j := j) hj hj2
    omega
  have h3 : quo ((l.countP fun x => decide (x < at0 (srt l) i) : Nat) : Int) 1 ≤ quo (i : Int) 1 := quo_le (by omega) (by omega) (by omega)
  rw [cmpQ_neg]
  have h4 : quo (i : Int) 1 < p * quo (l.length : Int) 1 := by
    rcases Nat.eq_zero_or_pos i with h5 | h5
    · subst h5
      have h6 : quo (0 : Int) 1 = 0 := by rw [quo, Rat.div_def, Rat.intCast_zero, Rat.zero_mul]
      have h7 : sgn (p * quo (l.length : Int) 1) = 1 := by rw [sgn_mul, sgn_n h.1]; rcases sgn_cases p with e | e | e <;> grind
      have h8 : 0 < p * quo (l.length : Int) 1 := by rcases sgn_cases (p * quo (l.length : Int) 1) with e | e | e <;> grind
      exact h6 ▸ h8
    · have h6 := of_decide_eq_true (h.2.2 (i - 1) (by omega))
      rwa [show ((i - 1 : Nat) : Int) + 1 = (i : Int) by omega] at h6
  grind
/-- the distance from the median -/
theorem dist_quo (x t : Int) : quo x 1 - quo t 2 = quo (2 * x - t) 2 := by
  rw [quo_sub _ _ (by omega) (by omega)]
  exact quo_eq (by omega) (by omega) (by omega)
theorem dist_neg {x t : Int} (h : 2 * x < t) : -(quo (2 * x - t) 2) = quo (mg x t) 2 := by
  rw [quo_neg, mg, if_pos h]; congr 1; omega
theorem dist_pos {x t : Int} (h : ¬ 2 * x < t) : quo (2 * x - t) 2 = quo (mg x t) 2 := by rw [mg, if_neg h]
theorem dist_sgn (x t : Int) : sgn (quo (2 * x - t) 2) < 0 ↔ 2 * x < t := by
  rw [sgn_quo _ (by omega)]
  split
  · constructor <;> intro <;> omega
  · split <;> constructor <;> intro <;> omega
end Go.Proofs.YteleohgalknkiaaGreatDoor
