/- Plain: the sums of hoards, merges, the latest type. -/
import Derived.Test.YteleohgalknkiaaGreatDoorQMath
import Derived.Test.YteleohgalknkiaaGreatDoorDMath
import Derived.Test.YteleohgalknkiaaGreatDoorHMath
import Derived.Test.YteleohgalknkiaaGreatDoorHawM
import Derived.Test.YteleohgalknkiaaGreatDoorHown
import Derived.Test.YteleohgalknkiaaGreatDoorIn
import Derived.Test.YteleohgalknkiaaGreatDoorHm
namespace Go.Proofs.YteleohgalknkiaaGreatDoor

def quo (x d : Int) : Rat := (x : Rat) / (d : Rat)
theorem cast_ne {d : Int} (h : 0 < d) : (d : Rat) ≠ 0 := fun e => by
  have := Rat.intCast_eq_zero_iff.1 e
  omega
theorem quo_rv (x : Int) {d : Int} (hd : 0 < d) : quo x d = rv (decide (x < 0)) x.natAbs d.natAbs := by
  rw [rv, Rat.mkRat_eq_div, quo]
  have e1 : (if decide (x < 0) = true then -(x.natAbs : Int) else (x.natAbs : Int)) = x := by
    by_cases h : x < 0
    · simp only [decide_eq_true h, if_true]; omega
    · simp only [decide_eq_false h, Bool.false_eq_true, if_false]; omega
  have e2 : ((d.natAbs : Nat) : Rat) = (d : Rat) := by
    rw [← Rat.intCast_natCast]; congr 1; omega
  rw [e1, e2]
theorem quo_sz {x d : Int} (h1 : -1000000000000000000 < x) (h2 : x < 1000000000000000000) (hd : 0 < d) (h3 : d < 1000000000000000000) : Sz (quo x d) 2 := by
  rw [quo_rv x hd]
  exact Sz.of_rv (dig_len_le (k := 2) (by have h := pw_ten 2; rw [h]; omega)) (dig_len_le (k := 2) (by have h := pw_ten 2; rw [h]; omega)) (by omega)
theorem quo_sub (x y : Int) {d e : Int} (hd : 0 < d) (he : 0 < e) : quo x d - quo y e = quo (x * e - y * d) (d * e) := by
  have h1 := cast_ne hd
  have h2 := cast_ne he
  rw [quo, quo, quo, Rat.intCast_sub, Rat.intCast_mul, Rat.intCast_mul, Rat.intCast_mul]
  grind
theorem quo_add (x y : Int) {d : Int} (hd : 0 < d) : quo x d + quo y d = quo (x + y) d := by
  have h1 := cast_ne hd
  rw [quo, quo, quo, Rat.intCast_add]
  grind
theorem quo_mul (x y : Int) {d e : Int} (hd : 0 < d) (he : 0 < e) : quo x d * quo y e = quo (x * y) (d * e) := by
  have h1 := cast_ne hd
  have h2 := cast_ne he
  rw [quo, quo, quo, Rat.intCast_mul, Rat.intCast_mul]
  grind
theorem quo_neg (x d : Int) : -quo x d = quo (-x) d := by
  rw [quo, quo, Rat.intCast_neg]
  grind
theorem quo_eq {x y d e : Int} (hd : 0 < d) (he : 0 < e) (h : x * e = y * d) : quo x d = quo y e := by
  have h1 := cast_ne hd
  have h2 := cast_ne he
  have h3 : (x : Rat) * (e : Rat) = (y : Rat) * (d : Rat) := by rw [← Rat.intCast_mul, ← Rat.intCast_mul, h]
  rw [quo, quo]
  grind
theorem quo_sub_le {x y d : Int} (hd : 0 < d) (h : x ≤ y) : quo x d ≤ quo y d := by
  rw [quo_rv x hd, quo_rv y hd, rv, rv]
  have h1 : (0 : Rat) < (d : Rat) := by exact_mod_cast (Rat.intCast_lt_intCast.2 hd)
  have h2 : (x : Rat) ≤ (y : Rat) := Rat.intCast_le_intCast.2 h
  have e := quo_rv x hd
  have e2 := quo_rv y hd
  rw [rv] at e e2
  rw [← e, ← e2, quo, quo, Rat.div_def, Rat.div_def]
  exact Rat.mul_le_mul_of_nonneg_right h2 (Rat.le_of_lt (Rat.inv_pos.2 h1))
theorem quo_add2 (x y : Int) {d e : Int} (hd : 0 < d) (he : 0 < e) : quo x d + quo y e = quo (x * e + y * d) (d * e) := by
  have h1 := cast_ne hd
  have h2 := cast_ne he
  rw [quo, quo, quo, Rat.intCast_add, Rat.intCast_mul, Rat.intCast_mul, Rat.intCast_mul]
  grind
theorem quo_le {x y d e : Int} (hd : 0 < d) (he : 0 < e) (h : x * e ≤ y * d) : quo x d ≤ quo y e := by
  have hde := Int.mul_pos hd he
  rw [quo_eq (x := x) (d := d) (y := x * e) (e := d * e) hd hde (by grind), quo_eq (x := y) (d := e) (y := y * d) (e := d * e) he hde (by grind)]
  exact quo_sub_le hde h
theorem quo_inj {x y d e : Int} (hd : 0 < d) (he : 0 < e) (h : quo x d = quo y e) : x * e = y * d := by
  have h1 := cast_ne hd
  have h2 := cast_ne he
  have h3 : ((x * e : Int) : Rat) = ((y * d : Int) : Rat) := by
    rw [quo, quo] at h
    rw [Rat.intCast_mul, Rat.intCast_mul]
    grind
  exact Rat.intCast_inj.1 h3
theorem quo_le_iff {x y d e : Int} (hd : 0 < d) (he : 0 < e) : quo x d ≤ quo y e ↔ x * e ≤ y * d := by
  refine ⟨fun h => ?_, quo_le hd he⟩
  rcases Int.lt_or_le (y * d) (x * e) with h1 | h1
  · have h2 := quo_le he hd (x := y) (y := x) (by omega)
    have h3 := quo_inj hd he (Rat.le_antisymm h h2)
    omega
  · exact h1
theorem quo_lt_iff {x y d e : Int} (hd : 0 < d) (he : 0 < e) : quo x d < quo y e ↔ x * e < y * d := by
  rw [← Rat.not_le, quo_le_iff he hd]; omega
/-- what Of makes of two numbers -/
theorem of_quo (x : Int) {y : Int} (hy : 0 < y) : rv (!(decide (x < 0) == decide (y < 0))) x.natAbs y.natAbs = quo x y := by
  rw [quo_rv x hy, decide_eq_false (show ¬ y < 0 by omega)]
  cases decide (x < 0) <;> rfl
theorem cmp_quo (x y : Int) {d e : Int} (hd : 0 < d) (he : 0 < e) : cmpQ (quo x d) (quo y e) = if x * e < y * d then -1 else if x * e = y * d then 0 else 1 := by
  by_cases h1 : x * e < y * d
  · rw [if_pos h1]; exact cmpQ_lt ((quo_lt_iff hd he).2 h1)
  · rw [if_neg h1]
    by_cases h2 : x * e = y * d
    · rw [if_pos h2]; exact cmpQ_eq (quo_eq hd he h2)
    · rw [if_neg h2]; exact cmpQ_gt ((quo_lt_iff he hd).2 (by omega))
theorem sgn_quo (x : Int) {d : Int} (hd : 0 < d) : sgn (quo x d) = if x < 0 then -1 else if x = 0 then 0 else 1 := by
  rw [quo_rv x hd, sgn_rv]
  by_cases h0 : x = 0
  · subst h0; simp
  · rw [if_neg (by omega)]
    by_cases h1 : x < 0
    · rw [decide_eq_true h1, if_pos h1]; rfl
    · rw [decide_eq_false h1, if_neg h1, if_neg h0]; rfl
theorem quo_sz1 {x d : Int} (h1 : -1000000000 < x) (h2 : x < 1000000000) (hd : 0 < d) (h3 : d < 1000000000) : Sz (quo x d) 1 := by
  rw [quo_rv x hd]
  exact Sz.of_rv (dig_len_le (k := 1) (by have h := pw_ten 1; rw [h]; omega)) (dig_len_le (k := 1) (by have h := pw_ten 1; rw [h]; omega)) (by omega)
end Go.Proofs.YteleohgalknkiaaGreatDoor

namespace Go.Proofs.YteleohgalknkiaaGreatDoor

/-- the magnitude -/
def mag (x : Int) : Int := if x < 0 then -x else x
theorem mag_nn (x : Int) : 0 ≤ mag x := by rw [mag]; split <;> omega
theorem mag_add (x y : Int) : mag (x + y) ≤ mag x + mag y := by unfold mag; split <;> split <;> split <;> omega
theorem mag_mul (x : Int) {T : Int} (h : 0 ≤ T) : mag (x * T) = mag x * T := by
  unfold mag
  by_cases hx : x < 0
  · rw [if_pos hx]
    by_cases hT : T = 0
    · subst hT; simp
    · rw [if_pos (Int.mul_neg_of_neg_of_pos hx (by omega)), Int.neg_mul]
  · rw [if_neg hx, if_neg (by have := Int.mul_nonneg (show 0 ≤ x by omega) h; omega)]
theorem mag_neg (x : Int) : mag (-x) = mag x := by unfold mag; split <;> split <;> omega
theorem mag_sub_le {x y : Int} (hx : 0 ≤ x) (hy : 0 ≤ y) : mag (x - y) ≤ x + y := by unfold mag; split <;> omega
theorem mag_sub_eq {x y : Int} (hx : 0 ≤ x) (hy : 0 ≤ y) : mag (x - y) = x + y ↔ x = 0 ∨ y = 0 := by unfold mag; split <;> omega
/-- the difference of two shares, over the product of the totals -/
def difT (a b : List (Int × Int)) (t : Int) : Int := mag (numE a t * totE b - numE b t * totE a)
def sumD (a b : List (Int × Int)) : Nat → Int
  | 0 => 0
  | k + 1 => sumD a b k + difT a b ((k : Int) + 1)
def sumE (a : List (Int × Int)) : Nat → Int
  | 0 => 0
  | k + 1 => sumE a k + numE a ((k : Int) + 1)
theorem difT_comm (a b : List (Int × Int)) (t : Int) : difT a b t = difT b a t := by
  rw [difT, difT, ← mag_neg]; congr 1; omega
theorem sumD_comm (a b : List (Int × Int)) : ∀ k, sumD a b k = sumD b a k
  | 0 => rfl
  | k + 1 => by rw [sumD, sumD, sumD_comm a b k, difT_comm]
theorem sumD_nn (a b : List (Int × Int)) : ∀ k, 0 ≤ sumD a b k
  | 0 => Int.le_refl _
  | k + 1 => by rw [sumD]; have := sumD_nn a b k; have := mag_nn (numE a ((k : Int) + 1) * totE b - numE b ((k : Int) + 1) * totE a); rw [difT]; omega
/-- the way over a third -/
theorem difT_tri (a b c : List (Int × Int)) (ha : 0 ≤ totE a) (hb : 0 ≤ totE b) (hc : 0 ≤ totE c) (t : Int) : difT a c t * totE b ≤ difT a b t * totE c + difT b c t * totE a := by
  rw [difT, difT, difT, ← mag_mul _ hb, ← mag_mul _ hc, ← mag_mul _ ha]
  have e : (numE a t * totE c - numE c t * totE a) * totE b = (numE a t * totE b - numE b t * totE a) * totE c + (numE b t * totE c - numE c t * totE b) * totE a := by grind
  rw [e]
  exact mag_add _ _
theorem sumD_tri (a b c : List (Int × Int)) (ha : 0 ≤ totE a) (hb : 0 ≤ totE b) (hc : 0 ≤ totE c) : ∀ k, sumD a c k * totE b ≤ sumD a b k * totE c + sumD b c k * totE a
  | 0 => by simp [sumD]
  | k + 1 => by
    have h1 := sumD_tri a b c ha hb hc k
    have h2 := difT_tri a b c ha hb hc ((k : Int) + 1)
    rw [sumD, sumD, sumD, Int.add_mul, Int.add_mul, Int.add_mul]
    omega
/-- at most twice the product of the totals -/
theorem difT_le {a b : List (Int × Int)} {t : Int} (ha : 0 ≤ totE a) (hb : 0 ≤ totE b) (h1 : 0 ≤ numE a t) (h2 : 0 ≤ numE b t) : difT a b t ≤ numE a t * totE b + numE b t * totE a :=
  mag_sub_le (Int.mul_nonneg h1 hb) (Int.mul_nonneg h2 ha)
theorem sumD_le {a b : List (Int × Int)} (ha : 0 ≤ totE a) (hb : 0 ≤ totE b) (h1 : ∀ t, 0 ≤ numE a t) (h2 : ∀ t, 0 ≤ numE b t) : ∀ k, sumD a b k ≤ sumE a k * totE b + sumE b k * totE a
  | 0 => by simp [sumD, sumE]
  | k + 1 => by
    have h3 := sumD_le ha hb h1 h2 k
    have h4 := difT_le ha hb (h1 ((k : Int) + 1)) (h2 ((k : Int) + 1))
    rw [sumD, sumE, sumE, Int.add_mul, Int.add_mul]
    omega
/-- as much as that exactly where nothing is common -/
theorem sumD_eq {a b : List (Int × Int)} (ha : 1 ≤ totE a) (hb : 1 ≤ totE b) (h1 : ∀ t, 0 ≤ numE a t) (h2 : ∀ t, 0 ≤ numE b t) : ∀ k : Nat, sumD a b k = sumE a k * totE b + sumE b k * totE a ↔ ∀ i : Nat, i < k → numE a ((i : Int) + 1) = 0 ∨ numE b ((i : Int) + 1) = 0
  | 0 => by simp [sumD, sumE]
  | k + 1 => by
    have h3 := sumD_le (a := a) (b := b) (by omega) (by omega) h1 h2 k
    have h4 := difT_le (a := a) (b := b) (by omega) (by omega) (h1 ((k : Int) + 1)) (h2 ((k : Int) + 1))
    have ih := sumD_eq ha hb h1 h2 k
    have h5 : difT a b ((k : Int) + 1) = numE a ((k : Int) + 1) * totE b + numE b ((k : Int) + 1) * totE a ↔ numE a ((k : Int) + 1) = 0 ∨ numE b ((k : Int) + 1) = 0 := by
      rw [difT, mag_sub_eq (Int.mul_nonneg (h1 _) (by omega)) (Int.mul_nonneg (h2 _) (by omega)), Int.mul_eq_zero, Int.mul_eq_zero]
      constructor
      · rintro ((h | h) | (h | h))
        · exact .inl h
        · omega
        · exact .inr h
        · omega
      · rintro (h | h)
        · exact .inl (.inl h)
        · exact .inr (.inl h)
    rw [sumD, sumE, sumE, Int.add_mul, Int.add_mul]
    constructor
    · intro h i hi
      by_cases hik : i = k
      · subst hik; exact h5.1 (by omega)
      · exact ih.1 (by omega) i (by omega)
    · intro h
      have e1 := ih.2 fun i hi => h i (by omega)
      have e2 := h5.2 (h k (by omega))
      omega
/-- the same shares are not apart -/
theorem sumD_zero {a b : List (Int × Int)} {m n : Int} (h1 : ∀ t, numE b t * n = numE a t * m) (h2 : totE b * n = totE a * m) (hn : 1 ≤ n) : ∀ k, sumD a b k = 0
  | 0 => rfl
  | k + 1 => by
    have e : numE a ((k : Int) + 1) * totE b - numE b ((k : Int) + 1) * totE a = 0 := by
      have h3 := h1 ((k : Int) + 1)
      have h4 : (numE a ((k : Int) + 1) * totE b - numE b ((k : Int) + 1) * totE a) * n = 0 := by grind
      rcases Int.mul_eq_zero.1 h4 with h | h
      · exact h
      · omega
    rw [sumD, sumD_zero h1 h2 hn k, difT, e]; rfl
/-- two lists made one: as far from the one as both are from one another -/
theorem sumD_merge {a b m : List (Int × Int)} (h1 : ∀ t, 1 ≤ t → t ≤ 99 → numE m t = numE a t + numE b t) (h2 : totE m = totE a + totE b) : ∀ k : Nat, k ≤ 99 → sumD a m k = sumD a b k
  | 0, _ => rfl
  | k + 1, hk => by
    rw [sumD, sumD, sumD_merge h1 h2 k (by omega), difT, difT, h1 _ (by omega) (by omega), h2]
    congr 2
    grind
end Go.Proofs.YteleohgalknkiaaGreatDoor

namespace Go.Proofs.YteleohgalknkiaaGreatDoor

theorem shq_quo {l : List (Int × Int)} {s : Int} (hn : 0 ≤ numE l s) (hT : 0 < totE l) : shq l s = quo (numE l s) (totE l) := by
  rw [shq, quo_rv _ hT]
  congr 1
  rw [decide_eq_false (show ¬ numE l s < 0 by omega), decide_eq_false (show ¬ totE l < 0 by omega)]
  rfl
/-- the coefficient as far as type k -/
def coD (a b : List (Int × Int)) (k : Nat) : Rat := quo (200 * (totE a * totE b) - 100 * sumD a b k) (totE a * totE b)
theorem coD_start {a b : List (Int × Int)} (ha : 0 < totE a) (hb : 0 < totE b) : coD a b 0 = quo 200 1 := by
  have h := Int.mul_pos ha hb
  exact quo_eq h (by omega) (by rw [sumD]; omega)
theorem coD_step {a b : List (Int × Int)} (ha : 0 < totE a) (hb : 0 < totE b) (k : Nat) : coD a b (k + 1) = coD a b k + quo (-(difT a b ((k : Int) + 1))) (totE a * totE b) * quo 100 1 := by
  have h := Int.mul_pos ha hb
  rw [coD, coD, quo_mul _ _ h (by omega), Int.mul_one, quo_add _ _ h, sumD]
  congr 1
  omega
theorem dif_quo {a b : List (Int × Int)} {t : Int} (ha : 0 < totE a) (hb : 0 < totE b) (h1 : 0 ≤ numE a t) (h2 : 0 ≤ numE b t) : shq a t - shq b t = quo (numE a t * totE b - numE b t * totE a) (totE a * totE b) := by
  rw [shq_quo h1 ha, shq_quo h2 hb, quo_sub _ _ ha hb]
end Go.Proofs.YteleohgalknkiaaGreatDoor

namespace Go.Proofs.YteleohgalknkiaaGreatDoor

/-- the distance -/
def disD (a b : List (Int × Int)) : Rat := quo (50 * sumD a b 99) (totE a * totE b)
theorem dis_eq {a b : List (Int × Int)} (ha : 0 < totE a) (hb : 0 < totE b) : (quo 200 1 - coD a b 99) * quo 1 2 = disD a b := by
  have h := Int.mul_pos ha hb
  rw [coD, quo_sub _ _ (by omega) h, quo_mul _ _ (by omega) (by omega), disD]
  exact quo_eq (by omega) h (by grind)
theorem dis_zero {a b : List (Int × Int)} (h : sumD a b 99 = 0) : disD a b = 0 := by
  rw [disD, h, Int.mul_zero, quo, Rat.div_def, Rat.intCast_zero, Rat.zero_mul]
theorem co_full {a b : List (Int × Int)} (ha : 0 < totE a) (hb : 0 < totE b) (h : sumD a b 99 = 0) : coD a b 99 = quo 200 1 := by
  have h1 := Int.mul_pos ha hb
  rw [coD, h]
  exact quo_eq h1 (by omega) (by omega)
theorem dis_tri {a b c : List (Int × Int)} (ha : 0 < totE a) (hb : 0 < totE b) (hc : 0 < totE c) : disD a c ≤ disD a b + disD b c := by
  have h := sumD_tri a b c (by omega) (by omega) (by omega) 99
  have h1 := Int.mul_pos ha hb
  have h2 := Int.mul_pos hb hc
  have h3 := Int.mul_pos ha hc
  have h4 := Int.mul_pos h1 hc
  rw [disD, disD, disD, quo_add2 _ _ h1 h2]
  refine quo_le h3 (Int.mul_pos h1 h2) ?_
  have h5 := Int.mul_le_mul_of_nonneg_right h (show 0 ≤ totE a * totE b * totE c by omega)
  generalize sumD a c 99 = x at *
  generalize sumD a b 99 = y at *
  generalize sumD b c 99 = z at *
  generalize totE a = p at *
  generalize totE b = q at *
  generalize totE c = r at *
  have e1 : 50 * x * (p * q * (q * r)) = 50 * (x * q * (p * q * r)) := by grind
  have e2 : (50 * y * (q * r) + 50 * z * (p * q)) * (p * r) = 50 * ((y * r + z * p) * (p * q * r)) := by grind
  rw [e1, e2]
  omega
theorem dis_nn {a b : List (Int × Int)} (ha : 0 < totE a) (hb : 0 < totE b) : quo 0 1 ≤ disD a b := by
  have h := Int.mul_pos ha hb
  have h2 := sumD_nn a b 99
  rw [disD]
  refine quo_le (by omega) h ?_
  omega
theorem dis_le {a b : List (Int × Int)} (ha : 0 < totE a) (hb : 0 < totE b) (h : sumD a b 99 ≤ 2 * (totE a * totE b)) : disD a b ≤ quo 100 1 := by
  have h1 := Int.mul_pos ha hb
  rw [disD]
  refine quo_le h1 (by omega) ?_
  omega
theorem dis_full {a b : List (Int × Int)} (ha : 0 < totE a) (hb : 0 < totE b) : disD a b = quo 100 1 ↔ sumD a b 99 = 2 * (totE a * totE b) := by
  have h1 := Int.mul_pos ha hb
  rw [disD]
  constructor
  · intro h
    have := quo_inj h1 (by omega) h
    omega
  · intro h
    exact quo_eq h1 (by omega) (by omega)
theorem dis_near {a b m : List (Int × Int)} (ha : 0 < totE a) (hb : 0 < totE b) (hm : totE m = totE a + totE b) (hs : sumD a m 99 = sumD a b 99) : disD a m ≤ disD a b := by
  have hmp : 0 < totE m := by omega
  have h1 := Int.mul_pos ha hb
  have h2 := Int.mul_pos ha hmp
  have h3 := sumD_nn a b 99
  rw [disD, disD, hs]
  refine quo_le h2 h1 ?_
  refine Int.mul_le_mul_of_nonneg_left ?_ (by omega)
  exact Int.mul_le_mul_of_nonneg_left (by omega) (by omega)
theorem dis_way {a b m : List (Int × Int)} (ha : 0 < totE a) (hb : 0 < totE b) (hm : totE m = totE a + totE b) (hs : sumD a m 99 = sumD a b 99) (hs2 : sumD m b 99 = sumD a b 99) : disD a m + disD m b = disD a b := by
  have hmp : 0 < totE m := by omega
  have h1 := Int.mul_pos ha hb
  have h2 := Int.mul_pos ha hmp
  have h3 := Int.mul_pos hmp hb
  rw [disD, disD, disD, hs, hs2, quo_add2 _ _ h2 h3]
  refine quo_eq (Int.mul_pos h2 h3) h1 ?_
  rw [hm]
  grind
end Go.Proofs.YteleohgalknkiaaGreatDoor

namespace Go.Proofs.YteleohgalknkiaaGreatDoor
open Go.RowKit Go.Proofs Go

/-- ascending lists with the same members are the same -/
theorem asc_ext : ∀ {l m : List Int}, l.Pairwise (· < ·) → m.Pairwise (· < ·) → (∀ x, x ∈ l ↔ x ∈ m) → l = m
  | [], [], _, _, _ => rfl
  | [], y :: m, _, _, h => by have := (h y).2 List.mem_cons_self; cases this
  | x :: l, [], _, _, h => by have := (h x).1 List.mem_cons_self; cases this
  | x :: l, y :: m, hl, hm, h => by
    rw [List.pairwise_cons] at hl hm
    have hxy : x = y := by
      rcases List.mem_cons.1 ((h x).1 List.mem_cons_self) with e | e
      · exact e
      · rcases List.mem_cons.1 ((h y).2 List.mem_cons_self) with e2 | e2
        · exact e2.symm
        · have := hm.1 x e; have := hl.1 y e2; omega
    subst hxy
    rw [asc_ext hl.2 hm.2 fun z => ?_]
    constructor
    · intro hz
      have := hl.1 z hz
      rcases List.mem_cons.1 ((h z).1 (List.mem_cons_of_mem _ hz)) with e | e
      · omega
      · exact e
    · intro hz
      have := hm.1 z hz
      rcases List.mem_cons.1 ((h z).2 (List.mem_cons_of_mem _ hz)) with e | e
      · omega
      · exact e
theorem pw_listed {lo hi : Int} : ∀ {l : List (Int × Int)}, Listed lo hi l → (l.map (·.1)).Pairwise (· < ·)
  | [], _ => List.Pairwise.nil
  | x :: l, h => by
    rw [List.map_cons, List.pairwise_cons]
    refine ⟨fun y hy => ?_, pw_listed h.tail⟩
    obtain ⟨z, hz, rfl⟩ := List.mem_map.1 hy
    exact h.head_lt z hz
/-- has a list this type? -/
def hasE (l : List (Int × Int)) (t : Int) : Bool := (valE l t).isSome
theorem hasE_iff {l : List (Int × Int)} {t : Int} : hasE l t = true ↔ ∃ x ∈ l, x.1 = t := by
  unfold hasE
  cases h : valE l t with
  | none => exact ⟨fun h0 => by simp at h0, fun ⟨x, hx, ht⟩ => absurd ht (val_none h x hx)⟩
  | some v => obtain ⟨x, hx, h1, _⟩ := val_some h; exact ⟨fun _ => ⟨x, hx, h1⟩, fun _ => rfl⟩
theorem has_num {hi : Int} {l : List (Int × Int)} (h : Listed 1 hi l) (t : Int) : 0 < numE l t ↔ hasE l t = true := by
  rw [hasE_iff]
  constructor
  · intro h0
    rcases Classical.em (∃ x ∈ l, x.1 = t) with h1 | h1
    · exact h1
    · rw [Listed.num_zero fun x hx e => h1 ⟨x, hx, e⟩] at h0; omega
  · rintro ⟨x, hx, ht⟩
    rw [h.num hx ht]
    have := (h.mem hx).2.1
    omega
/-- the types of the first list that are in the second -/
def comP (la lb : List (Int × Int)) (j : Nat) : List Int := ((la.take j).map (·.1)).filter (hasE lb)
def comR (la lb : List (Int × Int)) : Nat → List Int
  | 0 => []
  | k + 1 => comR la lb k ++ (if 0 < numE la ((k : Int) + 1) ∧ 0 < numE lb ((k : Int) + 1) then [(k : Int) + 1] else [])
theorem comP_succ {la lb : List (Int × Int)} {j : Nat} {x : Int × Int} (hx : la[j]? = some x) : comP la lb (j + 1) = comP la lb j ++ (if hasE lb x.1 = true then [x.1] else []) := by
  rw [comP, comP, take_succ hx, List.map_append, List.filter_append]
  congr 1
  by_cases h : hasE lb x.1 = true <;> simp [h]
theorem comP_len (la lb : List (Int × Int)) (j : Nat) : (comP la lb j).length ≤ la.length :=
  Nat.le_trans (List.length_filter_le _ _) (by rw [List.length_map]; exact List.length_take_le' _ _)
theorem comR_mem {la lb : List (Int × Int)} : ∀ {k : Nat} {t : Int}, t ∈ comR la lb k ↔ (1 ≤ t ∧ t ≤ k) ∧ 0 < numE la t ∧ 0 < numE lb t
  | 0, t => by simp [comR]; omega
  | k + 1, t => by
    rw [comR, List.mem_append, comR_mem (k := k)]
    constructor
    · rintro (⟨h1, h2⟩ | h)
      · exact ⟨by omega, h2⟩
      · split at h
        · next hc => simp at h; subst h; exact ⟨by omega, hc⟩
        · simp at h
    · rintro ⟨h1, h2⟩
      by_cases ht : t ≤ k
      · exact .inl ⟨⟨h1.1, ht⟩, h2⟩
      · right
        obtain rfl : t = (k : Int) + 1 := by omega
        rw [if_pos h2]; simp
theorem comR_pw (la lb : List (Int × Int)) : ∀ k, (comR la lb k).Pairwise (· < ·)
  | 0 => List.Pairwise.nil
  | k + 1 => by
    rw [comR, List.pairwise_append]
    refine ⟨comR_pw la lb k, by split <;> simp, fun a ha b hb => ?_⟩
    have := (comR_mem.1 ha).1
    split at hb
    · simp at hb; omega
    · simp at hb
theorem comR_len (la lb : List (Int × Int)) : ∀ k, (comR la lb k).length ≤ k
  | 0 => Nat.le_refl _
  | k + 1 => by
    have := comR_len la lb k
    rw [comR, List.length_append]
    split <;> simp <;> omega
theorem com_same {la lb : List (Int × Int)} (ha : Listed 1 999 la) (hb : Listed 1 999 lb) : comP la lb la.length = comR la lb 99 := by
  refine asc_ext ?_ (comR_pw la lb 99) fun t => ?_
  · rw [comP, List.take_length]; exact (pw_listed ha).filter _
  · rw [comR_mem, comP, List.take_length, List.mem_filter, has_num ha, has_num hb, hasE_iff (l := la), List.mem_map]
    constructor
    · rintro ⟨⟨x, hx, rfl⟩, h2⟩
      exact ⟨(ha.mem hx).1, ⟨x, hx, rfl⟩, h2⟩
    · rintro ⟨_, ⟨x, hx, rfl⟩, h2⟩
      exact ⟨⟨x, hx, rfl⟩, h2⟩
/-- what Common returns -/
def ComIs (ia : Int) (la : List (Int × Int)) (fa ta ib : Int) (lb : List (Int × Int)) (fb tb : Int) (L : List Int) (err : Int) : Prop :=
  (¬ (HV ia la fa ta ∧ HV ib lb fb tb) ∧ L = [] ∧ err = 1) ∨ (HV ia la fa ta ∧ HV ib lb fb tb ∧ comR la lb 99 = L ∧ err = 0)
theorem ComIs.ex (ia : Int) (la : List (Int × Int)) (fa ta ib : Int) (lb : List (Int × Int)) (fb tb : Int) : ∃ L err, ComIs ia la fa ta ib lb fb tb L err := by
  by_cases h : HV ia la fa ta ∧ HV ib lb fb tb
  · exact ⟨_, _, .inr ⟨h.1, h.2, rfl, rfl⟩⟩
  · exact ⟨_, _, .inl ⟨h, rfl, rfl⟩⟩
theorem ComIs.len {ia : Int} {la : List (Int × Int)} {fa ta ib : Int} {lb : List (Int × Int)} {fb tb : Int} {L : List Int} {err : Int} (h : ComIs ia la fa ta ib lb fb tb L err) : L.length ≤ 99 := by
  rcases h with ⟨_, rfl, _⟩ | ⟨_, _, rfl, _⟩
  · simp
  · exact comR_len la lb 99
def RetC (w : World) (L : List Int) (err : Int) (e : Ending) (w' : World) : Prop :=
  ∃ A c, e = .returned (.tuple #[.slice A L.length c, .int .i64 err]) ∧ IEs w' A L ∧ Below w.heap.size w w'
set_option maxHeartbeats 1000000 in
set_option maxRecDepth 100000 in
theorem hcommon_bad {ia fa ta ib fb tb : Int} (A A' : Option Addr) (c c' : Nat) (la lb : List (Int × Int)) (w : World) (HA : Es w A la) (HB : Es w A' lb) (hla : la.length ≤ 9223372036854775807) (hlb : lb.length ≤ 9223372036854775807) (h : ¬ (HV ia la fa ta ∧ HV ib lb fb tb)) :
    Calls Tryz.prog 25 #[.agg #[.int .i64 ia, .slice A la.length c, .int .i64 fa, .int .i64 ta], .agg #[.int .i64 ib, .slice A' lb.length c', .int .i64 fb, .int .i64 tb]] w (RetC w [] 1) := by
  by_cases ha : HV ia la fa ta
  · have hb0 : ¬ HV ib lb fb tb := fun hb => h ⟨ha, hb⟩
    have KA := yes ha
    have KB := no hb0
    clear h ha hb0
    have HX := BL.two w #[.int .i64 ia, .slice A la.length c, .int .i64 fa, .int .i64 ta] #[.int .i64 ib, .slice A' lb.length c', .int .i64 fb, .int .i64 tb] 26 26
    go_enter Tryz.func25, Tryz.ntmps25
    go_upto_region 1 with fail
    generalize (w.alloc (.cells #[.int .i64 ia, .slice A la.length c, .int .i64 fa, .int .i64 ta] 26)).alloc (.cells #[.int .i64 ib, .slice A' lb.length c', .int .i64 fb, .int .i64 tb] 26) = W1 at *
    have hc00 := HX.cell 0 0 rfl rfl
    have hc01 := HX.cell 0 1 rfl rfl
    have hc02 := HX.cell 0 2 rfl rfl
    have hc03 := HX.cell 0 3 rfl rfl
    try simp only [List.getElem_toArray, List.getElem_cons_zero, List.getElem_cons_succ] at hc00 hc01 hc02 hc03
    go_wp2_with fail
    refine (hvalid_any (b := true) A c la _ (HA.ext HX.below) hla KA).mono ?_
    rintro e w2 ⟨rfl, hb⟩
    clear hc00 hc01 hc02 hc03
    replace HX := HX.ext hb
    clear hb
    have hc10 := HX.cell 1 0 rfl rfl
    have hc11 := HX.cell 1 1 rfl rfl
    have hc12 := HX.cell 1 2 rfl rfl
    have hc13 := HX.cell 1 3 rfl rfl
    try simp only [List.getElem_toArray, List.getElem_cons_zero, List.getElem_cons_succ] at hc10 hc11 hc12 hc13
    go_wp2_with fail
    refine (hvalid_any (b := false) A' c' lb _ (HB.ext HX.below) hlb KB).mono ?_
    rintro e w3 ⟨rfl, hb⟩
    clear hc10 hc11 hc12 hc13
    replace HX := HX.ext hb
    clear hb
    go_wp2
    go_ret2
    exact ⟨none, 0, rfl, IEs.nil _ _, HX.below⟩

  · have KA := no ha
    clear h ha
    have HX := BL.two w #[.int .i64 ia, .slice A la.length c, .int .i64 fa, .int .i64 ta] #[.int .i64 ib, .slice A' lb.length c', .int .i64 fb, .int .i64 tb] 26 26
    go_enter Tryz.func25, Tryz.ntmps25
    go_upto_region 1 with fail
    generalize (w.alloc (.cells #[.int .i64 ia, .slice A la.length c, .int .i64 fa, .int .i64 ta] 26)).alloc (.cells #[.int .i64 ib, .slice A' lb.length c', .int .i64 fb, .int .i64 tb] 26) = W1 at *
    have hc00 := HX.cell 0 0 rfl rfl
    have hc01 := HX.cell 0 1 rfl rfl
    have hc02 := HX.cell 0 2 rfl rfl
    have hc03 := HX.cell 0 3 rfl rfl
    try simp only [List.getElem_toArray, List.getElem_cons_zero, List.getElem_cons_succ] at hc00 hc01 hc02 hc03
    go_wp2_with fail
    refine (hvalid_any (b := false) A c la _ (HA.ext HX.below) hla KA).mono ?_
    rintro e w2 ⟨rfl, hb⟩
    clear hc00 hc01 hc02 hc03
    replace HX := HX.ext hb
    clear hb
    go_wp2
    go_ret2
    exact ⟨none, 0, rfl, IEs.nil _ _, HX.below⟩

set_option maxHeartbeats 2000000 in
set_option maxRecDepth 100000 in
theorem hcommon_go {ia fa ta ib fb tb : Int} {L : List Int} (A A' : Option Addr) (c c' : Nat) (la lb : List (Int × Int)) (w : World) (HA : Es w A la) (HB : Es w A' lb) (hla : la.length ≤ 9223372036854775807) (hlb : lb.length ≤ 9223372036854775807) (ha : HV ia la fa ta) (hb : HV ib lb fb tb) (hL : Hid (comR la lb 99 = L)) :
    Calls Tryz.prog 25 #[.agg #[.int .i64 ia, .slice A la.length c, .int .i64 fa, .int .i64 ta], .agg #[.int .i64 ib, .slice A' lb.length c', .int .i64 fb, .int .i64 tb]] w (RetC w L 0) := by
  have KA := yes ha
  have KB := yes hb
  have hcs := Lib.hid (com_same ha.2.2.1 hb.2.2.1)
  replace ha := Lib.hid ha
  have hb0 := Lib.hid hb
  clear hb
  have HX := BL.two w #[.int .i64 ia, .slice A la.length c, .int .i64 fa, .int .i64 ta] #[.int .i64 ib, .slice A' lb.length c', .int .i64 fb, .int .i64 tb] 26 26
  go_enter Tryz.func25, Tryz.ntmps25
  go_upto_region 1 with fail
  generalize (w.alloc (.cells #[.int .i64 ia, .slice A la.length c, .int .i64 fa, .int .i64 ta] 26)).alloc (.cells #[.int .i64 ib, .slice A' lb.length c', .int .i64 fb, .int .i64 tb] 26) = W1 at *
  have hc00 := HX.cell 0 0 rfl rfl
  have hc01 := HX.cell 0 1 rfl rfl
  have hc02 := HX.cell 0 2 rfl rfl
  have hc03 := HX.cell 0 3 rfl rfl
  try simp only [List.getElem_toArray, List.getElem_cons_zero, List.getElem_cons_succ] at hc00 hc01 hc02 hc03
  go_wp2_with fail
  refine (hvalid_any (b := true) A c la _ (HA.ext HX.below) hla KA).mono ?_
  rintro e w2 ⟨rfl, hb⟩
  clear hc00 hc01 hc02 hc03
  replace HX := HX.ext hb
  clear hb
  have hc10 := HX.cell 1 0 rfl rfl
  have hc11 := HX.cell 1 1 rfl rfl
  have hc12 := HX.cell 1 2 rfl rfl
  have hc13 := HX.cell 1 3 rfl rfl
  try simp only [List.getElem_toArray, List.getElem_cons_zero, List.getElem_cons_succ] at hc10 hc11 hc12 hc13
  go_wp2_with fail
  refine (hvalid_any (b := true) A' c' lb _ (HB.ext HX.below) hlb KB).mono ?_
  rintro e w3 ⟨rfl, hb⟩
  clear hc10 hc11 hc12 hc13
  replace HX := HX.ext hb
  clear hb
  have hltB := HX.lt 1 rfl
  simp only [] at hltB
  obtain ⟨B, hB⟩ : ∃ B, w3.heap.size = B := ⟨_, rfl⟩
  have hBw : w.heap.size ≤ B := by omega
  have HOWN := IOwn.nil w3 B
  have hc01 := HX.cell 0 1 rfl rfl
  try simp only [List.getElem_toArray, List.getElem_cons_zero, List.getElem_cons_succ] at hc01
  go_wp2
  clear hc01
  go_loopg [6, 22] la.length (fun kk u i wr => ∃ (j : Nat) (A8 : Option Addr) (c8 : Nat), j + kk = la.length ∧ i = .int .i64 (j : Int) ∧ u = .slice A8 (comP la lb j).length c8 ∧ IOwn wr B A8 c8 (comP la lb j) ∧ BL w wr [(w.heap.size, #[.int .i64 ia, .slice A la.length c, .int .i64 fa, .int .i64 ta], 26), (w.heap.size + 1, #[.int .i64 ib, .slice A' lb.length c', .int .i64 fb, .int .i64 tb], 26)] ∧ B ≤ wr.heap.size)
  case atStart => exact ⟨0, none, 0, by omega, rfl, rfl, HOWN, HX, by omega⟩
  case round =>
    clear HX HOWN
    obtain ⟨j, A8, c8, hj, rfl, rfl, HOWN, HX, hBr⟩ := hrel
    have hlen := comP_len la lb j
    have hla32 : la.length ≤ 32 := ha.out.2.1.2
    by_cases hj0 : j < la.length
    · have hx := Lib.hid (List.getElem?_eq_getElem hj0)
      have hsu := Lib.hid (comP_succ (lb := lb) hx.out)
      obtain ⟨ad, rfl, hbk, c0, c1⟩ := (HA.ext HX.below).at_ hx.out
      generalize la[j] = x at *
      obtain ⟨k, n⟩ := x
      simp only [] at c0 c1
      obtain ⟨m, hm⟩ : ∃ m, comP la lb j = m := ⟨_, rfl⟩
      rw [hm] at HOWN hlen hsu
      have HM := Lib.hid hm
      rw [hm]
      clear hm
      go_upto_region 7 with fail
      have hb8 := below_alloc wr (.cells #[.int .i64 k, .int .i64 n] 77)
      have HX8 := HX.new #[.int .i64 k, .int .i64 n] 77
      simp only [List.cons_append, List.nil_append] at HX8
      replace HOWN := HOWN.ext hb8
      have hBr : B ≤ (wr.alloc (.cells #[.int .i64 k, .int .i64 n] 77)).heap.size := Nat.le_trans hBr hb8.size
      clear c0 c1 hbk HX hb8
      generalize wr.alloc (.cells #[.int .i64 k, .int .i64 n] 77) = W8 at *
      generalize wr.heap.size = g8 at *
      have HX := HX8
      clear HX8
      have hc11 := HX.cell 1 1 rfl rfl
      try simp only [List.getElem_toArray, List.getElem_cons_zero, List.getElem_cons_succ] at hc11
      have hc20 := HX.cell 2 0 rfl rfl
      have hc21 := HX.cell 2 1 rfl rfl
      try simp only [List.getElem_toArray, List.getElem_cons_zero, List.getElem_cons_succ] at hc20 hc21
      cases hv : valE lb k with
      | none =>
        have hno : hasE lb k = false := by rw [hasE, hv]; rfl
        have hs2 : Hid (comP la lb (j + 1) = m) := Lib.hid (hsu.out.trans (by simp [hno]))
        have HV := Lib.hid hv
        clear hv hno hsu
        go_wp2_with fail
        refine (value_none A' c' lb _ (HB.ext HX.below) hlb HV).mono ?_
        rintro e w5 ⟨rfl, hb5⟩
        replace HX := HX.ext hb5
        replace HOWN := HOWN.ext hb5
        replace hBr := Nat.le_trans hBr (Nat.le_of_lt (HX.lt 2 rfl))
        go_wp2
        go_roundg (la.length - (j + 1))
        case measure => omega
        case rel => exact ⟨j + 1, A8, c8, by omega, by go_num, by rw [hs2.out], by rw [hs2.out]; exact HOWN, ⟨HX.below, fun i p hp => HX.blk i p (by match i, hp with | 0, hp => exact hp | 1, hp => exact hp | i + 2, hp => simp at hp)⟩, hBr⟩
      | some v =>
        have hyes : hasE lb k = true := by rw [hasE, hv]; rfl
        have hs2 := Lib.hid (hsu.out.trans (by rw [if_pos hyes]))
        have HV := Lib.hid hv
        clear hv hyes hsu
        go_wp2_with fail
        refine (value_some A' c' lb _ (HB.ext HX.below) hlb HV).mono ?_
        rintro e w5 ⟨rfl, hb5⟩
        clear hc11
        clear hc20 hc21
        replace HX := HX.ext hb5
        replace HOWN := HOWN.ext hb5
        replace hBr := Nat.le_trans hBr (Nat.le_of_lt (HX.lt 2 rfl))
        clear hb5
        have hc20 := HX.cell 2 0 rfl rfl
        have hc21 := HX.cell 2 1 rfl rfl
        try simp only [List.getElem_toArray, List.getElem_cons_zero, List.getElem_cons_succ] at hc20 hc21
        go_wp2_with (at_builtin; refine wp_push EI _ rfl _ _ rfl rfl rfl HOWN (by rfl) (by omega) (by omega) hBr ?_)
        intro A9 c9 w7 HOWN2 hgr7 hb7 hlt7
        replace HX : BL w w5 [(w.heap.size, #[.int .i64 ia, .slice (some ad) la.length c, .int .i64 fa, .int .i64 ta], 26), (w.heap.size + 1, #[.int .i64 ib, .slice A' lb.length c', .int .i64 fb, .int .i64 tb], 26)] := ⟨HX.below, fun i p hp => HX.blk i p (by match i, hp with | 0, hp => exact hp | 1, hp => exact hp | i + 2, hp => simp at hp)⟩
        replace HX := HX.low hBw (by intro i q hq; match i, hq with | 0, hq => (simp at hq; subst hq; simp; try omega) | 1, hq => (simp at hq; subst hq; simp; try omega) | i + 2, hq => simp at hq) hb7
        have HO2 := IOwn.snoc HOWN2 rfl
        clear hc20 hc21
        go_wp2
        go_roundg (la.length - (j + 1))
        case measure => omega
        case rel => exact ⟨j + 1, A9, c9, by omega, by go_num, by rw [hs2.out, List.length_append]; rfl, by rw [hs2.out]; exact HO2, HX, by omega⟩
    · have hz := Lib.hid (show j = la.length by omega)
      have hfin : Hid (comP la lb j = L) := Lib.hid (by rw [hz.out]; exact hcs.out.trans hL.out)
      go_wp2
      go_ret2
      exact ⟨A8, c8, by rw [← hfin.out]; rfl, by rw [← hfin.out]; exact HOWN.es, HX.below⟩
theorem hcommon_any {ia fa ta ib fb tb err : Int} {L : List Int} (A A' : Option Addr) (c c' : Nat) (la lb : List (Int × Int)) (w : World) (HA : Es w A la) (HB : Es w A' lb) (hla : la.length ≤ 9223372036854775807) (hlb : lb.length ≤ 9223372036854775807) (h : ComIs ia la fa ta ib lb fb tb L err) :
    Calls Tryz.prog 25 #[.agg #[.int .i64 ia, .slice A la.length c, .int .i64 fa, .int .i64 ta], .agg #[.int .i64 ib, .slice A' lb.length c', .int .i64 fb, .int .i64 tb]] w (RetC w L err) := by
  rcases h with ⟨h, rfl, rfl⟩ | ⟨ha, hb, hL, rfl⟩
  · exact hcommon_bad A A' c c' la lb w HA HB hla hlb h
  · exact hcommon_go A A' c c' la lb w HA HB hla hlb ha hb (Lib.hid hL)
end Go.Proofs.YteleohgalknkiaaGreatDoor

namespace Go.Proofs.YteleohgalknkiaaGreatDoor

/-- the numbers of the types up to k -/
def sumN (l : List (Int × Int)) : Nat → Int
  | 0 => 0
  | k + 1 => sumN l k + numE l ((k : Int) + 1)
theorem sumN_nil : ∀ k, sumN [] k = 0
  | 0 => rfl
  | k + 1 => by rw [sumN, sumN_nil k, numE]; rfl
theorem sumN_cons (x : Int × Int) (l : List (Int × Int)) : ∀ k : Nat, sumN (x :: l) k = (if 1 ≤ x.1 ∧ x.1 ≤ k then x.2 else 0) + sumN l k
  | 0 => by rw [sumN, sumN, if_neg (by omega)]; rfl
  | k + 1 => by
    rw [sumN, sumN, sumN_cons x l k, numE]
    by_cases h : x.1 = (k : Int) + 1
    · rw [if_pos h, if_neg (by omega), if_pos (by omega)]; omega
    · rw [if_neg h]
      by_cases h1 : 1 ≤ x.1 ∧ x.1 ≤ k
      · rw [if_pos h1, if_pos (by omega)]; omega
      · rw [if_neg h1, if_neg (by omega)]; omega
theorem sumN_tot : ∀ {l : List (Int × Int)}, (∀ x ∈ l, 1 ≤ x.1 ∧ x.1 ≤ 99) → sumN l 99 = totE l
  | [], _ => sumN_nil 99
  | x :: l, h => by
    have := h x List.mem_cons_self
    rw [sumN_cons, if_pos ⟨this.1, this.2⟩, sumN_tot fun y hy => h y (List.mem_cons_of_mem _ hy), totE]
theorem HV.nn {id : Int} {l : List (Int × Int)} {f t : Int} (h : HV id l f t) (s : Int) : 0 ≤ numE l s ∧ numE l s ≤ 32000 := by
  have := h.num l.length s
  rwa [List.take_length] at this
theorem HV.tt {id : Int} {l : List (Int × Int)} {f t : Int} (h : HV id l f t) : 0 ≤ totE l ∧ totE l ≤ 32000 := by
  have := h.tot l.length
  rwa [List.take_length] at this
theorem HV.sum {id : Int} {l : List (Int × Int)} {f t : Int} (h : HV id l f t) : sumN l 99 = totE l := sumN_tot fun _ hx => (h.2.2.1.mem hx).1
theorem HV.sums {id : Int} {l : List (Int × Int)} {f t : Int} (h : HV id l f t) : ∀ {k m : Nat}, k ≤ m → 0 ≤ sumN l k ∧ sumN l k ≤ sumN l m := by
  have h0 : ∀ k, 0 ≤ sumN l k := fun k => by
    induction k with
    | zero => exact Int.le_refl _
    | succ k ih => rw [sumN]; have := (h.nn ((k : Int) + 1)).1; omega
  intro k m hkm
  refine ⟨h0 k, ?_⟩
  induction m with
  | zero => obtain rfl : k = 0 := by omega
            exact Int.le_refl _
  | succ m ih =>
    by_cases hk : k = m + 1
    · subst hk; exact Int.le_refl _
    · have := ih (by omega)
      have := (h.nn ((m : Int) + 1)).1
      rw [sumN]; omega
theorem HV.first {id : Int} {l : List (Int × Int)} {f t : Int} (h : HV id l f t) : ∃ x, x ∈ l ∧ 1 ≤ numE l x.1 ∧ 1 ≤ x.1 ∧ x.1 ≤ 99 := by
  have h1 := h.2.1.1
  have hm : l[0]'(by omega) ∈ l := List.getElem_mem _
  have h2 := h.2.2.1.mem hm
  exact ⟨_, hm, by rw [h.2.2.1.num hm rfl]; omega, h2.1.1, h2.1.2⟩
theorem HV.pos {id : Int} {l : List (Int × Int)} {f t : Int} (h : HV id l f t) : 1 ≤ totE l := by
  obtain ⟨x, _, h1, h2, h3⟩ := h.first
  have h4 := (h.sums (k := x.1.toNat - 1) (m := x.1.toNat) (by omega)).1
  have h5 := (h.sums (k := x.1.toNat) (m := 99) (by omega)).2
  have h6 : sumN l x.1.toNat = sumN l (x.1.toNat - 1) + numE l x.1 := by
    obtain ⟨n, hn⟩ : ∃ n : Nat, x.1.toNat = n + 1 := ⟨x.1.toNat - 1, by omega⟩
    rw [hn, sumN, Nat.add_sub_cancel, show ((n : Int) + 1) = x.1 by omega]
  rw [← h.sum]; omega
theorem mergeP_num {a b : List (Int × Int)} (h : ∀ t, 0 ≤ numE a t + numE b t) (t : Int) : ∀ k : Nat, numE (mergeP a b k) t = if 1 ≤ t ∧ t ≤ k then numE a t + numE b t else 0
  | 0 => by rw [mergeP, numE, if_neg (by omega)]
  | k + 1 => by
    have ih := mergeP_num h t k
    have hk := h ((k : Int) + 1)
    by_cases h0 : 0 < numE a ((k : Int) + 1) + numE b ((k : Int) + 1)
    · rw [mergeP_yes h0, numE_append, ih]
      by_cases ht : (k : Int) + 1 = t
      · subst ht; rw [if_neg (by omega), if_pos (by omega), numE, numE, if_pos rfl]; omega
      · rw [numE, numE, if_neg ht]
        by_cases h1 : 1 ≤ t ∧ t ≤ k
        · rw [if_pos h1, if_pos (by omega)]; omega
        · rw [if_neg h1, if_neg (by omega)]; rfl
    · rw [mergeP_no h0, ih]
      by_cases ht : (k : Int) + 1 = t
      · subst ht; rw [if_neg (by omega), if_pos (by omega)]; omega
      · by_cases h1 : 1 ≤ t ∧ t ≤ k
        · rw [if_pos h1, if_pos (by omega)]
        · rw [if_neg h1, if_neg (by omega)]
theorem mergeP_tot {a b : List (Int × Int)} (h : ∀ t, 0 ≤ numE a t + numE b t) : ∀ k : Nat, totE (mergeP a b k) = sumN a k + sumN b k
  | 0 => rfl
  | k + 1 => by
    have ih := mergeP_tot h k
    have hk := h ((k : Int) + 1)
    rw [sumN, sumN]
    by_cases h0 : 0 < numE a ((k : Int) + 1) + numE b ((k : Int) + 1)
    · rw [mergeP_yes h0, totE_append, ih, totE, totE]; omega
    · rw [mergeP_no h0, ih]; omega
theorem mergeP_mem {a b : List (Int × Int)} {x : Int × Int} : ∀ {k : Nat}, x ∈ mergeP a b k → 1 ≤ x.1 ∧ x.1 ≤ k ∧ 0 < x.2 ∧ x.2 = numE a x.1 + numE b x.1
  | 0, h => by cases h
  | k + 1, h => by
    rw [mergeP, List.mem_append] at h
    rcases h with h | h
    · have := mergeP_mem h; omega
    · split at h
      · next h0 => rw [List.mem_singleton] at h; subst h; exact ⟨by simp only []; omega, by simp only []; omega, h0, rfl⟩
      · cases h
theorem Listed.snoc {lo hi : Int} {l : List (Int × Int)} {x : Int × Int} (h : Listed lo hi l) (h1 : 1 ≤ x.1 ∧ x.1 ≤ 99) (h2 : lo ≤ x.2 ∧ x.2 ≤ hi) (h3 : ∀ y ∈ l, y.1 < x.1) : Listed lo hi (l ++ [x]) := fun i y hy => by
  by_cases hi : i < l.length
  · rw [List.getElem?_append_left hi] at hy
    obtain ⟨a, b, c⟩ := h i y hy
    exact ⟨a, b, fun j z hj hz => c j z hj (by rwa [List.getElem?_append_left (by omega)] at hz)⟩
  · have hlen := (List.getElem?_eq_some_iff.1 hy).1
    rw [List.length_append, List.length_singleton] at hlen
    obtain rfl : i = l.length := by omega
    rw [List.getElem?_append_right (Nat.le_refl _), Nat.sub_self] at hy
    obtain rfl : x = y := Option.some.inj hy
    refine ⟨h1, h2, fun j z hj hz => ?_⟩
    rw [List.getElem?_append_left (by omega)] at hz
    exact h3 z (List.mem_of_getElem? hz)
theorem mergeP_listed {a b : List (Int × Int)} : ∀ {k : Nat}, k ≤ 99 → greatP a b k = false → Listed 1 999 (mergeP a b k)
  | 0, _, _ => fun i y hy => by rw [mergeP, List.getElem?_nil] at hy; cases hy
  | k + 1, hk, hg => by
    by_cases h0 : 0 < numE a ((k : Int) + 1) + numE b ((k : Int) + 1)
    · rw [greatP_yes h0, Bool.or_eq_false_iff, decide_eq_false_iff_not] at hg
      rw [mergeP_yes h0]
      refine (mergeP_listed (by omega) hg.1).snoc ⟨by simp only []; omega, by simp only []; omega⟩ ⟨by simp only []; omega, by simp only []; omega⟩ fun y hy => ?_
      have := mergeP_mem hy
      simp only []; omega
    · rw [greatP_no h0] at hg
      rw [mergeP_no h0]
      exact mergeP_listed (by omega) hg
theorem mergeP_congr {a b c d : List (Int × Int)} : ∀ {k : Nat}, (∀ i : Nat, i < k → numE a ((i : Int) + 1) + numE b ((i : Int) + 1) = numE c ((i : Int) + 1) + numE d ((i : Int) + 1)) → mergeP a b k = mergeP c d k
  | 0, _ => rfl
  | k + 1, h => by rw [mergeP, mergeP, mergeP_congr fun i hi => h i (by omega), h k (by omega)]
theorem mergeP_comm (a b : List (Int × Int)) (k : Nat) : mergeP a b k = mergeP b a k := mergeP_congr fun _ _ => Int.add_comm _ _
theorem greatP_comm (a b : List (Int × Int)) (k : Nat) : greatP a b k = greatP b a k := by rw [greatP, greatP, mergeP_comm]
theorem Com.comm {fa ta fb tb F T F' T' : Int} (h : Com fa ta fb tb F T) (h' : Com fb tb fa ta F' T') : F = F' ∧ T = T' := by
  obtain ⟨h1, h2⟩ := h
  obtain ⟨h3, h4⟩ := h'
  split at h1 <;> split at h2 <;> split at h3 <;> split at h4 <;> omega
theorem HV.merge {ia fa ta ib fb tb F T : Int} {la lb : List (Int × Int)} (ha : HV ia la fa ta) (hb : HV ib lb fb tb) (hc : Com fa ta fb tb F T) (hFT : F ≤ T) (hlen : (mergeP la lb 99).length ≤ 32) (hg : greatP la lb 99 = false) :
    HV ia (mergeP la lb 99) F T ∧ totE (mergeP la lb 99) = totE la + totE lb := by
  have hnn : ∀ t, 0 ≤ numE la t + numE lb t := fun t => by have := (ha.nn t).1; have := (hb.nn t).1; omega
  refine ⟨⟨ha.1, ⟨?_, hlen⟩, mergeP_listed (by omega) hg, (hc.yv ha.2.2.2 hb.2.2.2).2 hFT⟩, by rw [mergeP_tot hnn, ha.sum, hb.sum]⟩
  obtain ⟨x, _, h1, h2, h3⟩ := ha.first
  have h4 := mergeP_num hnn x.1 99
  rw [if_pos ⟨h2, h3⟩] at h4
  have h5 := (hb.nn x.1).1
  rcases Nat.eq_zero_or_pos (mergeP la lb 99).length with h6 | h6
  · rw [List.length_eq_zero_iff.1 h6, numE] at h4; omega
  · exact h6
theorem MergeIs.ok {ia fa ta ib fb tb id f t : Int} {la lb L : List (Int × Int)} (h : MergeIs ia la fa ta ib lb fb tb id L f t 0) :
    HV ia la fa ta ∧ HV ib lb fb tb ∧ Com fa ta fb tb f t ∧ f ≤ t ∧ (mergeP la lb 99).length ≤ 32 ∧ greatP la lb 99 = false ∧ ia = id ∧ mergeP la lb 99 = L := by
  rcases h with ⟨_, _, _, _, _, h⟩ | ⟨ha, hb, F, T, hc, ⟨_, _, _, _, _, h⟩ | ⟨_, _, _, _, _, _, h⟩ | ⟨_, _, _, _, _, _, _, h⟩ | ⟨h1, h2, h3, h4, h5, rfl, rfl, _⟩⟩
  · omega
  · omega
  · omega
  · omega
  · exact ⟨ha, hb, hc, h1, h2, h3, h4, h5⟩
theorem MergeIs.bad {ia fa ta ib fb tb id f t err : Int} {la lb L : List (Int × Int)} (h : MergeIs ia la fa ta ib lb fb tb id L f t err) (he : err ≠ 0) : id = 0 ∧ L = [] := by
  rcases h with ⟨_, h1, h2, _⟩ | ⟨_, _, F, T, _, ⟨_, h1, h2, _⟩ | ⟨_, _, h1, h2, _⟩ | ⟨_, _, _, h1, h2, _⟩ | ⟨_, _, _, _, _, _, _, h⟩⟩
  · exact ⟨h1, h2⟩
  · exact ⟨h1, h2⟩
  · exact ⟨h1, h2⟩
  · exact ⟨h1, h2⟩
  · omega
theorem MergeIs.same {ia fa ta ib fb tb ix fx tx e iy fy ty f : Int} {la lb lx ly : List (Int × Int)} (hx : MergeIs ia la fa ta ib lb fb tb ix lx fx tx e) (hy : MergeIs ib lb fb tb ia la fa ta iy ly fy ty f) : e = f := by
  rcases hx with ⟨hn, _, _, _, _, h1⟩ | ⟨ha, hb, F, T, hc, hx⟩
  · rcases hy with ⟨_, _, _, _, _, h2⟩ | ⟨ha, hb, _⟩
    · omega
    · exact absurd ⟨hb, ha⟩ hn
  · rcases hy with ⟨hn, _⟩ | ⟨_, _, F', T', hc', hy⟩
    · exact absurd ⟨hb, ha⟩ hn
    · obtain ⟨rfl, rfl⟩ := hc.comm hc'
      rw [mergeP_comm lb la, greatP_comm lb la] at hy
      rcases hx with ⟨x1, _, _, _, _, x5⟩ | ⟨x1, x2, _, _, _, _, x5⟩ | ⟨x1, x2, x3, _, _, _, _, x5⟩ | ⟨x1, x2, x3, _, _, _, _, x5⟩ <;>
        rcases hy with ⟨y1, _, _, _, _, y5⟩ | ⟨y1, y2, _, _, _, _, y5⟩ | ⟨y1, y2, y3, _, _, _, _, y5⟩ | ⟨y1, y2, y3, _, _, _, _, y5⟩ <;>
        first | omega | (rw [x3] at y3; cases y3)
/-- a merge both ways -/
theorem MergeIs.both {ia fa ta ib fb tb ix fx tx iy fy ty : Int} {la lb lx ly : List (Int × Int)} (hx : MergeIs ia la fa ta ib lb fb tb ix lx fx tx 0) (hy : MergeIs ib lb fb tb ia la fa ta iy ly fy ty 0) :
    ix = ia ∧ iy = ib ∧ ly = lx ∧ fy = fx ∧ ty = tx ∧ HV ia la fa ta ∧ HV ib lb fb tb ∧ HV ia lx fx tx ∧ totE lx = totE la + totE lb := by
  obtain ⟨ha, hb, hc, h1, h2, h3, h4, h5⟩ := hx.ok
  obtain ⟨_, _, hc', _, _, _, h6, h7⟩ := hy.ok
  obtain ⟨h8, h9⟩ := hc.comm hc'
  have := ha.merge hb hc h1 h2 h3
  rw [h5] at this
  exact ⟨h4.symm, h6.symm, by rw [← h7, ← h5, mergeP_comm], h8.symm, h9.symm, ha, hb, this.1, this.2⟩
/-- three hoards, merged either way -/
theorem MergeIs.three {ia fa ta ib fb tb ic fc tc ix fx tx il fl tl ip fp tp ir fr tr : Int} {la lb lc lx ll lp lr : List (Int × Int)} (hx : MergeIs ia la fa ta ib lb fb tb ix lx fx tx 0)
    (hl : MergeIs ix lx fx tx ic lc fc tc il ll fl tl 0) (hp : MergeIs ib lb fb tb ic lc fc tc ip lp fp tp 0) (hr : MergeIs ia la fa ta ip lp fp tp ir lr fr tr 0) : SameH il ll fl tl ir lr fr tr := by
  obtain ⟨ha, hb, hc, _, _, _, x1, x2⟩ := hx.ok
  obtain ⟨_, hv, hc2, _, _, _, l1, l2⟩ := hl.ok
  obtain ⟨_, _, hc3, _, _, _, p1, p2⟩ := hp.ok
  obtain ⟨_, _, hc4, _, _, _, r1, r2⟩ := hr.ok
  refine ⟨by omega, ?_, ?_⟩
  · obtain ⟨a1, a2⟩ := hc
    obtain ⟨b1, b2⟩ := hc2
    obtain ⟨c1, c2⟩ := hc3
    obtain ⟨d1, d2⟩ := hc4
    constructor
    · split at a1 <;> split at b1 <;> split at c1 <;> split at d1 <;> omega
    · split at a2 <;> split at b2 <;> split at c2 <;> split at d2 <;> omega
  · rw [← l2, ← r2]
    have n1 : ∀ t, 0 ≤ numE la t + numE lb t := fun t => by have := (ha.nn t).1; have := (hb.nn t).1; omega
    have n2 : ∀ t, 0 ≤ numE lb t + numE lc t := fun t => by have := (hb.nn t).1; have := (hv.nn t).1; omega
    refine mergeP_congr fun i hi => ?_
    rw [← x2, ← p2, mergeP_num n1, mergeP_num n2, if_pos (by omega), if_pos (by omega)]
    omega
/-- the latest of a list of types -/
def Top (ts l : List (Int × Int)) (r y : Int) : Prop := valE ts r = some y ∧ (∃ x ∈ l, x.1 = r) ∧ ∀ x ∈ l, ∃ v, valE ts x.1 = some v ∧ (v < y ∨ v = y ∧ x.1 ≤ r)
theorem late_top {ts : List (Int × Int)} {r y : Int} : ∀ {l : List (Int × Int)} {s : Int × Int}, (∀ x ∈ l, 1 ≤ x.1 ∧ s.1 < x.1) → l.Pairwise (fun x y => x.1 < y.1) → 0 ≤ s.1 → lateS ts l s = some (r, y) →
    (((r, y) = s ∧ (l = [] ∨ s.1 ≠ 0)) ∨ (valE ts r = some y ∧ ∃ x ∈ l, x.1 = r)) ∧ (∀ x ∈ l, ∃ v, valE ts x.1 = some v ∧ (v < y ∨ v = y ∧ x.1 ≤ r)) ∧ (s.1 ≠ 0 → s.2 < y ∨ s.2 = y ∧ s.1 ≤ r)
  | [], s, _, _, _, h => by
    obtain rfl : s = (r, y) := Option.some.inj h
    exact ⟨.inl ⟨rfl, .inl rfl⟩, fun x hx => (by cases hx), fun _ => .inr ⟨rfl, Int.le_refl _⟩⟩
  | x :: l, s, hk, hp, h0, h => by
    rw [List.pairwise_cons] at hp
    have hx := hk x List.mem_cons_self
    rw [lateS] at h
    cases hv : valE ts x.1 with
    | none => rw [hv] at h; cases h
    | some v =>
      rw [hv] at h
      simp only [] at h
      by_cases hs : s.1 = 0 ∨ s.2 ≤ v
      · rw [stepS, if_pos hs] at h
        obtain ⟨h1, h2, h3⟩ := late_top (s := (x.1, v)) (fun z hz => ⟨(hk z (List.mem_cons_of_mem _ hz)).1, hp.1 z hz⟩) hp.2 (by simp only []; omega) h
        have h4 := h3 (by simp only []; omega)
        simp only [] at h4
        refine ⟨.inr ?_, fun z hz => ?_, fun hn => ?_⟩
        · rcases h1 with ⟨h1, _⟩ | ⟨h1, z, hz, h5⟩
          · injection h1 with e1 e2
            subst e1 e2
            exact ⟨hv, x, List.mem_cons_self, rfl⟩
          · exact ⟨h1, z, List.mem_cons_of_mem _ hz, h5⟩
        · rcases List.mem_cons.1 hz with rfl | hz
          · exact ⟨v, hv, h4⟩
          · exact h2 z hz
        · rcases hs with hs | hs
          · exact absurd hs hn
          · rcases h4 with h4 | h4
            · left; omega
            · by_cases e : s.2 = v
              · right; omega
              · left; omega
      · rw [stepS, if_neg hs] at h
        have hs0 : s.1 ≠ 0 := fun e => hs (.inl e)
        have hsv : v < s.2 := by
          rcases Int.lt_or_le v s.2 with h | h
          · exact h
          · exact absurd (.inr h) hs
        obtain ⟨h1, h2, h3⟩ := late_top (s := s) (fun z hz => hk z (List.mem_cons_of_mem _ hz)) hp.2 h0 h
        have h4 := h3 hs0
        refine ⟨?_, fun z hz => ?_, fun _ => h4⟩
        · rcases h1 with ⟨h1, _⟩ | ⟨h1, z, hz, h5⟩
          · exact .inl ⟨h1, .inr hs0⟩
          · exact .inr ⟨h1, z, List.mem_cons_of_mem _ hz, h5⟩
        · rcases List.mem_cons.1 hz with rfl | hz
          · exact ⟨v, hv, .inl (by omega)⟩
          · exact h2 z hz
theorem pw_keys {lo hi : Int} {l : List (Int × Int)} (h : Listed lo hi l) : l.Pairwise (fun x y => x.1 < y.1) := List.pairwise_map.1 (pw_listed h)
theorem HV.top {id f t r y : Int} {l ts : List (Int × Int)} (h : HV id l f t) (hl : lateS ts l (0, 0) = some (r, y)) : Top ts l r y := by
  obtain ⟨h1, h2, _⟩ := late_top (s := (0, 0)) (fun x hx => by have := (h.2.2.1.mem hx).1; exact ⟨this.1, by simp only []; omega⟩) (pw_keys h.2.2.1) (Int.le_refl _) hl
  rcases h1 with ⟨_, h1 | h1⟩ | ⟨h1, h3⟩
  · have := h.2.1.1; rw [h1] at this; simp at this
  · exact absurd rfl h1
  · exact ⟨h1, h3, h2⟩
theorem late_some {ts : List (Int × Int)} : ∀ {l : List (Int × Int)} {s : Int × Int}, (∀ x ∈ l, ∃ v, valE ts x.1 = some v) → ∃ r y, lateS ts l s = some (r, y)
  | [], s, _ => ⟨s.1, s.2, rfl⟩
  | x :: l, s, h => by
    obtain ⟨v, hv⟩ := h x List.mem_cons_self
    obtain ⟨r, y, hr⟩ := late_some (s := stepS s x.1 v) fun z hz => h z (List.mem_cons_of_mem _ hz)
    exact ⟨r, y, by rw [lateS, hv]; exact hr⟩
theorem LateIs.ok {id f t r : Int} {l ts : List (Int × Int)} (h : LateIs id l f t ts r 0) : HV id l f t ∧ Listed (-9999) 9999 ts ∧ ∃ y, Top ts l r y := by
  rcases h with ⟨_, _, h⟩ | ⟨h1, h2, ⟨_, _, h⟩ | ⟨y, h3, _⟩⟩
  · omega
  · omega
  · exact ⟨h1, h2, y, h1.top h3⟩
theorem LateIs.num {id f t r : Int} {l ts : List (Int × Int)} (h : LateIs id l f t ts r 0) : 1 ≤ numE l r ∧ numE l r ≤ 32000 := by
  obtain ⟨h1, _, y, _, ⟨x, hx, rfl⟩, _⟩ := h.ok
  refine ⟨?_, (h1.nn _).2⟩
  rw [h1.2.2.1.num hx rfl]
  exact (h1.2.2.1.mem hx).2.1
theorem num_mem {lo hi : Int} {l : List (Int × Int)} {s : Int} (h : 0 < numE l s) (_ : Listed lo hi l) : ∃ x ∈ l, x.1 = s := by
  rcases Classical.em (∃ x ∈ l, x.1 = s) with h1 | h1
  · exact h1
  · rw [Listed.num_zero fun x hx e => h1 ⟨x, hx, e⟩] at h; omega
/-- the latest of a merged hoard -/
theorem late_merge {ia fa ta ib fb tb im fm tm rx ry rz err : Int} {la lb lm ts : List (Int × Int)} (hx : LateIs ia la fa ta ts rx 0) (hy : LateIs ib lb fb tb ts ry 0) (hm : MergeIs ia la fa ta ib lb fb tb im lm fm tm 0) (hz : LateIs im lm fm tm ts rz err) :
    err = 0 ∧ (rz = rx ∨ rz = ry) := by
  obtain ⟨ha, hts, yx, tx1, ⟨x, hx1, hx2⟩, tx3⟩ := hx.ok
  obtain ⟨hb, _, yy, ty1, ⟨y, hy1, hy2⟩, ty3⟩ := hy.ok
  obtain ⟨_, _, hc, h1, h2, h3, h4, h5⟩ := hm.ok
  have hv := (ha.merge hb hc h1 h2 h3).1
  rw [h5, h4] at hv
  have hnn : ∀ t, 0 ≤ numE la t + numE lb t := fun t => by have := (ha.nn t).1; have := (hb.nn t).1; omega
  have hmn : ∀ t, 1 ≤ t ∧ t ≤ 99 → numE lm t = numE la t + numE lb t := fun t ht => by rw [← h5, mergeP_num hnn, if_pos (by omega)]
  have hpa : ∀ x ∈ la, ∃ z ∈ lm, z.1 = x.1 := fun x hx => by
    have h6 := ha.2.2.1.mem hx
    refine num_mem ?_ hv.2.2.1
    rw [hmn _ h6.1, ha.2.2.1.num hx rfl]
    have := (hb.nn x.1).1; omega
  have hpb : ∀ x ∈ lb, ∃ z ∈ lm, z.1 = x.1 := fun x hx => by
    have h6 := hb.2.2.1.mem hx
    refine num_mem ?_ hv.2.2.1
    rw [hmn _ h6.1, hb.2.2.1.num hx rfl]
    have := (ha.nn x.1).1; omega
  have hab : ∀ z ∈ lm, (∃ x ∈ la, x.1 = z.1) ∨ (∃ x ∈ lb, x.1 = z.1) := fun z hz => by
    have h6 := hv.2.2.1.mem hz
    have h7 := hv.2.2.1.num hz rfl
    rw [hmn _ h6.1] at h7
    by_cases h8 : 0 < numE la z.1
    · exact .inl (num_mem h8 ha.2.2.1)
    · exact .inr (num_mem (by omega) hb.2.2.1)
  have hall : ∀ z ∈ lm, ∃ v, valE ts z.1 = some v := fun z hz => by
    rcases hab z hz with ⟨x, hx, h⟩ | ⟨x, hx, h⟩
    · obtain ⟨v, h6, _⟩ := tx3 x hx; exact ⟨v, by rw [← h]; exact h6⟩
    · obtain ⟨v, h6, _⟩ := ty3 x hx; exact ⟨v, by rw [← h]; exact h6⟩
  have he : err = 0 := by
    rcases hz with ⟨hn, _⟩ | ⟨_, _, ⟨h6, _⟩ | ⟨_, _, h⟩⟩
    · exact absurd ⟨hv, hts⟩ hn
    · obtain ⟨r, y, h7⟩ := late_some (s := (0, 0)) hall
      rw [h7] at h6; cases h6
    · exact h
  subst he
  refine ⟨rfl, ?_⟩
  obtain ⟨_, _, yz, tz1, ⟨z, hz1, hz2⟩, tz3⟩ := hz.ok
  rcases hab z hz1 with ⟨p, hp, h⟩ | ⟨p, hp, h⟩
  · left
    obtain ⟨v, h6, h7⟩ := tx3 p hp
    rw [h, hz2] at h6 h7
    obtain rfl : yz = v := Option.some.inj (tz1.symm.trans h6)
    obtain ⟨q, hq, h8⟩ := hpa x hx1
    obtain ⟨v, h9, h10⟩ := tz3 q hq
    rw [h8, hx2] at h9 h10
    obtain rfl : yx = v := Option.some.inj (tx1.symm.trans h9)
    omega
  · right
    obtain ⟨v, h6, h7⟩ := ty3 p hp
    rw [h, hz2] at h6 h7
    obtain rfl : yz = v := Option.some.inj (tz1.symm.trans h6)
    obtain ⟨q, hq, h8⟩ := hpb y hy1
    obtain ⟨v, h9, h10⟩ := tz3 q hq
    rw [h8, hy2] at h9 h10
    obtain rfl : yy = v := Option.some.inj (ty1.symm.trans h9)
    omega
end Go.Proofs.YteleohgalknkiaaGreatDoor
