/- Plain: how far two lists of numbers are from one another, as whole numbers over the product of their totals. No program. -/
import Derived.Test.YthempimelfmipaaGreatDoorHMath
import Derived.Test.YthempimelfmipaaGreatDoorQMath
namespace Go.Proofs.YthempimelfmipaaGreatDoor

/-- the magnitude -/
def mag (x : Int) : Int := if x < 0 then -x else x
theorem mag_nn (x : Int) : 0 ≤ mag x := by rw [mag]; split <;> omega
theorem mag_add (x y : Int) : mag (x + y) ≤ mag x + mag y := by unfold mag; split <;> split <;> split <;> omega
theorem mag_mul (x : Int) {T : Int} (h : 0 ≤ T) : mag (x * T) = mag x * T := by
  unfold mag
  by_cases hx : x < 0
  · rw [if_pos hx]
    by_cases hT : T = 0
    · subst hT; simp
    · rw [if_pos (Int.mul_neg_of_neg_of_pos hx (by omega)), Int.neg_mul]
  · rw [if_neg hx, if_neg (by have := Int.mul_nonneg (show 0 ≤ x by omega) h; omega)]
theorem mag_neg (x : Int) : mag (-x) = mag x := by unfold mag; split <;> split <;> omega
theorem mag_sub_le {x y : Int} (hx : 0 ≤ x) (hy : 0 ≤ y) : mag (x - y) ≤ x + y := by unfold mag; split <;> omega
theorem mag_sub_eq {x y : Int} (hx : 0 ≤ x) (hy : 0 ≤ y) : mag (x - y) = x + y ↔ x = 0 ∨ y = 0 := by unfold mag; split <;> omega
/-- the difference of two shares, over the product of the totals -/
def difT (a b : List (Int × Int)) (t : Int) : Int := mag (numE a t * totE b - numE b t * totE a)
def sumD (a b : List (Int × Int)) : Nat → Int
  | 0 => 0
  | k + 1 => sumD a b k + difT a b ((k : Int) + 1)
def sumE (a : List (Int × Int)) : Nat → Int
  | 0 => 0
  | k + 1 => sumE a k + numE a ((k : Int) + 1)
theorem difT_comm (a b : List (Int × Int)) (t : Int) : difT a b t = difT b a t := by
  rw [difT, difT, ← mag_neg]; congr 1; omega
theorem sumD_comm (a b : List (Int × Int)) : ∀ k, sumD a b k = sumD b a k
  | 0 => rfl
  | k + 1 => by rw [sumD, sumD, sumD_comm a b k, difT_comm]
theorem sumD_nn (a b : List (Int × Int)) : ∀ k, 0 ≤ sumD a b k
  | 0 => Int.le_refl _
  | k + 1 => by rw [sumD]; have := sumD_nn a b k; have := mag_nn (numE a ((k : Int) + 1) * totE b - numE b ((k : Int) + 1) * totE a); rw [difT]; omega
/-- the way over a third -/
theorem difT_tri (a b c : List (Int × Int)) (ha : 0 ≤ totE a) (hb : 0 ≤ totE b) (hc : 0 ≤ totE c) (t : Int) : difT a c t * totE b ≤ difT a b t * totE c + difT b c t * totE a := by
  rw [difT, difT, difT, ← mag_mul _ hb, ← mag_mul _ hc, ← mag_mul _ ha]
  have e : (numE a t * totE c - numE c t * totE a) * totE b = (numE a t * totE b - numE b t * totE a) * totE c + (numE b t * totE c - numE c t * totE b) * totE a := by grind
  rw [e]
  exact mag_add _ _
theorem sumD_tri (a b c : List (Int × Int)) (ha : 0 ≤ totE a) (hb : 0 ≤ totE b) (hc : 0 ≤ totE c) : ∀ k, sumD a c k * totE b ≤ sumD a b k * totE c + sumD b c k * totE a
  | 0 => by simp [sumD]
  | k + 1 => by
    have h1 := sumD_tri a b c ha hb hc k
    have h2 := difT_tri a b c ha hb hc ((k : Int) + 1)
    rw [sumD, sumD, sumD, Int.add_mul, Int.add_mul, Int.add_mul]
    omega
/-- at most twice the product of the totals -/
theorem difT_le {a b : List (Int × Int)} {t : Int} (ha : 0 ≤ totE a) (hb : 0 ≤ totE b) (h1 : 0 ≤ numE a t) (h2 : 0 ≤ numE b t) : difT a b t ≤ numE a t * totE b + numE b t * totE a :=
  mag_sub_le (Int.mul_nonneg h1 hb) (Int.mul_nonneg h2 ha)
theorem sumD_le {a b : List (Int × Int)} (ha : 0 ≤ totE a) (hb : 0 ≤ totE b) (h1 : ∀ t, 0 ≤ numE a t) (h2 : ∀ t, 0 ≤ numE b t) : ∀ k, sumD a b k ≤ sumE a k * totE b + sumE b k * totE a
  | 0 => by simp [sumD, sumE]
  | k + 1 => by
    have h3 := sumD_le ha hb h1 h2 k
    have h4 := difT_le ha hb (h1 ((k : Int) + 1)) (h2 ((k : Int) + 1))
    rw [sumD, sumE, sumE, Int.add_mul, Int.add_mul]
    omega
/-- as much as that exactly where nothing is common -/
theorem sumD_eq {a b : List (Int × Int)} (ha : 1 ≤ totE a) (hb : 1 ≤ totE b) (h1 : ∀ t, 0 ≤ numE a t) (h2 : ∀ t, 0 ≤ numE b t) : ∀ k : Nat, sumD a b k = sumE a k * totE b + sumE b k * totE a ↔ ∀ i : Nat, i < k → numE a ((i : Int) + 1) = 0 ∨ numE b ((i : Int) + 1) = 0
  | 0 => by simp [sumD, sumE]
  | k + 1 => by
    have h3 := sumD_le (a := a) (b := b) (by omega) (by omega) h1 h2 k
    have h4 := difT_le (a := a) (b := b) (by omega) (by omega) (h1 ((k : Int) + 1)) (h2 ((k : Int) + 1))
    have ih := sumD_eq ha hb h1 h2 k
    have h5 : difT a b ((k : Int) + 1) = numE a ((k : Int) + 1) * totE b + numE b ((k : Int) + 1) * totE a ↔ numE a ((k : Int) + 1) = 0 ∨ numE b ((k : Int) + 1) = 0 := by
      rw [difT, mag_sub_eq (Int.mul_nonneg (h1 _) (by omega)) (Int.mul_nonneg (h2 _) (by omega)), Int.mul_eq_zero, Int.mul_eq_zero]
      constructor
      · rintro ((h | h) | (h | h))
        · exact .inl h
        · omega
        · exact .inr h
        · omega
      · rintro (h | h)
        · exact .inl (.inl h)
        · exact .inr (.inl h)
    rw [sumD, sumE, sumE, Int.add_mul, Int.add_mul]
    constructor
    · intro h i hi
      by_cases hik : i = k
      · subst hik; exact h5.1 (by omega)
      · exact ih.1 (by omega) i (by omega)
    · intro h
      have e1 := ih.2 fun i hi => h i (by omega)
      have e2 := h5.2 (h k (by omega))
      omega
/-- the same shares are not apart -/
theorem sumD_zero {a b : List (Int × Int)} {m n : Int} (h1 : ∀ t, numE b t * n = numE a t * m) (h2 : totE b * n = totE a * m) (hn : 1 ≤ n) : ∀ k, sumD a b k = 0
  | 0 => rfl
  | k + 1 => by
    have e : numE a ((k : Int) + 1) * totE b - numE b ((k : Int) + 1) * totE a = 0 := by
      have h3 := h1 ((k : Int) + 1)
      have h4 : (numE a ((k : Int) + 1) * totE b - numE b ((k : Int) + 1) * totE a) * n = 0 := by grind
      rcases Int.mul_eq_zero.1 h4 with h | h
      · exact h
      · omega
    rw [sumD, sumD_zero h1 h2 hn k, difT, e]; rfl
/-- two lists made one: as far from the one as both are from one another -/
theorem sumD_merge {a b m : List (Int × Int)} (h1 : ∀ t, 1 ≤ t → t ≤ 99 → numE m t = numE a t + numE b t) (h2 : totE m = totE a + totE b) : ∀ k : Nat, k ≤ 99 → sumD a m k = sumD a b k
  | 0, _ => rfl
  | k + 1, hk => by
    rw [sumD, sumD, sumD_merge h1 h2 k (by omega), difT, difT, h1 _ (by omega) (by omega), h2]
    congr 2
    grind
end Go.Proofs.YthempimelfmipaaGreatDoor
