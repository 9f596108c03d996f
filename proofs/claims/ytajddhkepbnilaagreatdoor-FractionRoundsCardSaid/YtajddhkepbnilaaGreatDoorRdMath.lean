/- Plain: a number in decimal notation is read as the nearest one with so many digits. -/
import Derived.Test.YtajddhkepbnilaaGreatDoorPoMath
namespace Go.Proofs.YtajddhkepbnilaaGreatDoor
open Go.RowKit Go.Proofs Go

/-- the digits of a notation, without its point -/
def sdig (h k : Nat) : List UInt8 := zeros (k + 1 - Lib.nDigits h) ++ Lib.decDigits h
theorem sdig_len (h k : Nat) : (sdig h k).length = max (k + 1) (Lib.nDigits h) := by
  rw [sdig, List.length_append, zeros_len, Lib.decDigits_length]; omega
theorem zeros_all (k : Nat) : (zeros k).all isDig = true := by
  rw [List.all_eq_true]; intro x hx; rw [zeros, List.mem_replicate] at hx; rw [hx.2]; decide
theorem sdig_all (h k : Nat) : (sdig h k).all isDig = true := by rw [sdig, List.all_append, zeros_all, dec_all]; rfl
theorem dval_zeros (k : Nat) (l : List UInt8) : dval 0 (zeros k ++ l) = dval 0 l := by
  induction k with
  | zero => rfl
  | succ k ih => rw [← zeros_cons, List.cons_append, dval_cons]; exact ih
theorem sdig_val (h k : Nat) : dval 0 (sdig h k) = h := by rw [sdig, dval_zeros, dval_dec]
theorem no46 {l : List UInt8} (h : l.all isDig = true) : (46 : UInt8) ∉ l := fun m => by
  have := List.all_eq_true.1 h 46 m
  revert this; decide
theorem no45 {l : List UInt8} (h : l.all isDig = true) : l.head? ≠ some 45 := fun m => by
  have h2 : (45 : UInt8) ∈ l := List.mem_of_mem_head? (by simpa using m)
  have := List.all_eq_true.1 h 45 h2
  revert this; decide
/-- the part without a sign -/
def tdig (h k : Nat) : List UInt8 := if k = 0 then sdig h k else (sdig h k).take ((sdig h k).length - k) ++ 46 :: (sdig h k).drop ((sdig h k).length - k)
theorem decText_eq (s : Bool) (h k : Nat) : decText s h k = if s && decide (0 < h) then 45 :: tdig h k else tdig h k := rfl
theorem rd_take {l : List UInt8} (h : l.all isDig = true) (a : Nat) : (l.take a).all isDig = true := by
  rw [List.all_eq_true] at *; exact fun x hx => h x (List.mem_of_mem_take hx)
theorem rd_drop {l : List UInt8} (h : l.all isDig = true) (a : Nat) : (l.drop a).all isDig = true := by
  rw [List.all_eq_true] at *; exact fun x hx => h x (List.mem_of_mem_drop hx)
theorem tdig_head (h k : Nat) : (tdig h k).head? ≠ some 45 := by
  have hl := sdig_len h k
  rw [tdig]
  split
  · exact no45 (sdig_all h k)
  · have h1 : (sdig h k).take ((sdig h k).length - k) ≠ [] := by
      intro e
      have := congrArg List.length e
      simp at this
      omega
    obtain ⟨b, l, e⟩ := List.exists_cons_of_ne_nil h1
    have h2 := no45 (rd_take (sdig_all h k) ((sdig h k).length - k))
    rw [e] at h2 ⊢
    simpa using h2
theorem decText_neg (s : Bool) (h k : Nat) : fneg (decText s h k) = (s && decide (0 < h)) ∧ frest (decText s h k) = tdig h k := by
  rw [decText_eq]
  cases s && decide (0 < h)
  · have h1 : fneg (tdig h k) = false := by rw [fneg, beq_eq_false_iff_ne]; exact tdig_head h k
    refine ⟨by simpa using h1, ?_⟩
    simp only [Bool.false_eq_true, if_false]
    rw [frest, h1]; rfl
  · refine ⟨rfl, ?_⟩
    simp only [if_true]
    rw [frest]; rfl
theorem decText_cut (s : Bool) (h k : Nat) : cutAt 46 (frest (decText s h k)) = ((sdig h k).take ((sdig h k).length - k), (sdig h k).drop ((sdig h k).length - k), decide (0 < k)) := by
  rw [(decText_neg s h k).2, tdig]
  by_cases hk : k = 0
  · subst hk
    rw [if_pos rfl, cutAt_none (no46 (sdig_all h 0))]
    simp
  · rw [if_neg hk, cutAt_some (no46 (rd_take (sdig_all h k) _)), decide_eq_true (by omega)]
theorem lead_no (h k : Nat) : lead ((sdig h k).take ((sdig h k).length - k)) = false := by
  have hl := sdig_len h k
  have hp := Lib.nDigits_pos h
  rw [lead]
  by_cases h1 : Lib.nDigits h ≤ k + 1
  · rw [decide_eq_false (by rw [List.length_take]; omega)]; rfl
  · have h2 : h ≠ 0 := by rintro rfl; rw [Lib.nDigits_small (by omega)] at h1; omega
    obtain ⟨c, l, e, hc⟩ := dec_head (n := h) (by omega)
    have h3 : sdig h k = c :: l := by rw [sdig, show k + 1 - Lib.nDigits h = 0 by omega, e]; rfl
    obtain ⟨m, hm⟩ : ∃ m, (sdig h k).length - k = m + 1 := ⟨(sdig h k).length - k - 1, by omega⟩
    rw [hm, h3, List.take_succ_cons, List.head?_cons]
    have : (some c == some (48 : UInt8)) = false := by rw [beq_eq_false_iff_ne]; simpa using hc
    rw [this, Bool.and_false]
theorem decText_ok (s : Bool) (h k : Nat) : dok (decText s h k) = true ∧ dq (decText s h k) = rv s h (10 ^ k) := by
  have hl := sdig_len h k
  have hc := decText_cut s h k
  have e1 : dwh (decText s h k) = (sdig h k).take ((sdig h k).length - k) := by rw [dwh, hc]
  have e2 : dpt (decText s h k) = (sdig h k).drop ((sdig h k).length - k) := by rw [dpt, hc]
  have e3 : dfo (decText s h k) = decide (0 < k) := by rw [dfo, hc]
  constructor
  · have d1 : digs ((sdig h k).take ((sdig h k).length - k)) = true := by
      rw [digs, rd_take (sdig_all h k), Bool.true_and]
      have : ((sdig h k).take ((sdig h k).length - k)).length ≠ 0 := by rw [List.length_take]; omega
      cases hx : (sdig h k).take ((sdig h k).length - k) with
      | nil => rw [hx] at this; exact absurd rfl this
      | cons => rfl
    have d2 : (decide (0 < k) && !digs ((sdig h k).drop ((sdig h k).length - k))) = false := by
      by_cases hk : 0 < k
      · have : digs ((sdig h k).drop ((sdig h k).length - k)) = true := by
          rw [digs, rd_drop (sdig_all h k), Bool.true_and]
          have : ((sdig h k).drop ((sdig h k).length - k)).length ≠ 0 := by rw [List.length_drop]; omega
          cases hx : (sdig h k).drop ((sdig h k).length - k) with
          | nil => rw [hx] at this; exact absurd rfl this
          | cons => rfl
        rw [this]; simp
      · rw [decide_eq_false hk]; rfl
    rw [dok, e1, e2, e3, d1, d2, lead_no]; rfl
  · rw [dq, e1, e2, List.take_append_drop, sdig_val, (decText_neg s h k).1, List.length_drop, show (sdig h k).length - ((sdig h k).length - k) = k by omega]
    by_cases h0 : 0 < h
    · rw [decide_eq_true h0, Bool.and_true]
    · obtain rfl : h = 0 := by omega
      rw [rv_num0, rv_num0]
theorem half_bd (n k : Nat) {d : Nat} (hd : 0 < d) : 2 * (half n d k * d) ≤ 2 * (n * 10 ^ k) + d ∧ 2 * (n * 10 ^ k) + d < 2 * (half n d k * d) + 2 * d := by
  have h1 := Nat.div_add_mod (2 * (n * 10 ^ k) + d) (2 * d)
  have h2 := Nat.mod_lt (2 * (n * 10 ^ k) + d) (show 0 < 2 * d by omega)
  rw [← half] at h1
  rw [Nat.mul_comm (2 * d), ← Nat.mul_assoc, Nat.mul_comm (half n d k) 2, Nat.mul_assoc] at h1
  omega
/-- read back, the number has the same notation -/
theorem half_back (s : Bool) (h k : Nat) : decText (sg (rv s h (10 ^ k))) (half (nu (rv s h (10 ^ k))) (rv s h (10 ^ k)).den k) k = decText s h k := by
  have hP : 0 < 10 ^ k := Nat.pow_pos (by omega)
  generalize hy : rv s h (10 ^ k) = y
  have hd := y.den_pos
  have e : nu y * 10 ^ k = h * y.den := by
    rw [← hy, nu_rv s hP, den_rv s hP]
    have g1 := Nat.gcd_dvd_left h (10 ^ k)
    have g2 := Nat.gcd_dvd_right h (10 ^ k)
    rw [Nat.div_mul_right_comm g1, Nat.mul_div_assoc _ g2]
  have hh : half (nu y) y.den k = h := by
    rw [half, e]
    have : 2 * (h * y.den) + y.den = y.den + h * (2 * y.den) := by rw [Nat.mul_left_comm]; omega
    rw [this, Nat.add_mul_div_right _ _ (by omega), Nat.div_eq_of_lt (by omega), Nat.zero_add]
  rw [hh, decText_eq, decText_eq]
  by_cases h0 : 0 < h
  · rw [← hy, sg_rv s h0 hP]
  · rw [decide_eq_false h0, Bool.and_false, Bool.and_false]
theorem twice_rv (s : Bool) (D M : Nat) : rv s D M + rv s D M = rv s (2 * D) M := by
  have h : rv s D M + rv s D M = rv s D M * rv false 2 1 := by
    rw [rv_one]; simp only [Bool.false_eq_true, if_false]; grind
  rw [h, rv_mul, Nat.mul_one, Nat.mul_comm]
  cases s <;> rfl
theorem unit_cmp (D d P : Nat) (hd : 0 < d) (hP : 0 < P) : cmpQ (rv false (2 * D) (P * d)) (rv false 1 P) = cmpI (2 * D) d := by
  rw [cmpQ_same false (Nat.mul_pos hP hd) hP]
  simp only [Bool.false_eq_true, if_false, Int.one_mul, Nat.one_mul]
  rw [Nat.mul_comm P d]
  rcases Nat.lt_trichotomy (2 * D) d with h | h | h
  · rw [cmpI_lt h, cmpI_lt (Nat.mul_lt_mul_of_pos_right h hP)]
  · rw [cmpI_eq h, cmpI_eq (by rw [h])]
  · rw [cmpI_gt h, cmpI_gt (Nat.mul_lt_mul_of_pos_right h hP)]
/-- the number that Of makes of a sign -/
def ofs (x : Int) : Rat := rv (!(decide (x < 0) == decide ((1 : Int) < 0))) x.natAbs (1 : Int).natAbs
theorem size_rv (s : Bool) (D M : Nat) (hM : 0 < M) : (rv s D M + rv s D M) * ofs (sgn (rv s D M)) = rv false (2 * D) M := by
  rw [twice_rv, sgn_rv]
  by_cases h0 : D = 0
  · subst h0; simp only [Nat.mul_zero, rv_num0]; grind
  · rw [if_neg (by omega)]
    cases s
    · show rv false (2 * D) M * rv false 1 1 = _
      rw [rv_mul, Nat.mul_one, Nat.mul_one]; rfl
    · show rv true (2 * D) M * rv true 1 1 = _
      rw [rv_mul, Nat.mul_one, Nat.mul_one]; rfl
/-- the nearest number with so many digits, halves away from zero -/
theorem round_cmp {q y u v t z : Rat} {k : Nat} {c a b : Int} (hy : rv (sg q) (half (nu q) q.den k) (10 ^ k) = y) (hu : y - q = u) (hv : u + u = v) (ha : sgn u = a) (ht : ofs a = t) (hz : v * t = z) (hc : cmpQ z (rv false 1 (10 ^ k)) = c) (hb : sgn q = b) :
    (decide (c < 0) || (c == 0 && a == b)) = true := by
  have hP : 0 < 10 ^ k := Nat.pow_pos (by omega)
  have hd := q.den_pos
  obtain ⟨h1, h2⟩ := half_bd (nu q) k hd
  have hq := rv_self q
  have hbb : b = sgn (rv (sg q) (nu q) q.den) := by rw [hq, hb]
  have hn0 : nu q = 0 → half (nu q) q.den k = 0 := fun h => by rw [h, half, Nat.zero_mul, Nat.mul_zero, Nat.zero_add]; exact Nat.div_eq_of_lt (by omega)
  subst hv ht hz hc ha
  generalize sg q = s at *
  generalize nu q = n at *
  generalize q.den = d at *
  generalize half n d k = h at *
  generalize 10 ^ k = P at *
  subst hy
  rw [← hq] at hu
  by_cases hle : n * P ≤ h * d
  · have e : u = rv s (h * d - n * P) (P * d) := by rw [← hu, Rat.sub_eq_add_neg, neg_rv, rv_add_le s h P n d hP hd hle]
    rw [e, size_rv s _ _ (Nat.mul_pos hP hd), unit_cmp _ _ _ hd hP, sgn_rv, hbb, sgn_rv]
    rcases Nat.lt_or_eq_of_le (show 2 * (h * d - n * P) ≤ d by omega) with hl | hl
    · rw [cmpI_lt hl]; rfl
    · have hn : n ≠ 0 := fun e0 => by
        have := hn0 e0
        rw [this] at hl; omega
      have hM := Nat.mul_pos hP hd
      have c1 : ¬ (h * d - n * P = 0 ∨ P * d = 0) := by
        rintro (h0 | h0)
        · rw [h0] at hl; omega
        · exact absurd h0 (Nat.ne_of_gt hM)
      have c2 : ¬ (n = 0 ∨ d = 0) := by
        rintro (h0 | h0)
        · exact hn h0
        · exact absurd h0 (Nat.ne_of_gt hd)
      rw [cmpI_eq hl, if_neg c1, if_neg c2]
      simp
  · have e : u = rv (!s) (n * P - h * d) (P * d) := by
      have e2 := rv_add_le s n d h P hd hP (by omega)
      rw [← hu, Nat.mul_comm P d, ← neg_rv, ← e2, ← neg_rv]; grind
    rw [e, size_rv _ _ _ (Nat.mul_pos hP hd), unit_cmp _ _ _ hd hP, cmpI_lt (by omega)]; rfl
/-- one tenth, so many times -/
def unitq (j : Nat) : Rat := rv false 1 (10 ^ j)
theorem unitq_zero : rv (!(decide ((1 : Int) < 0) == decide ((1 : Int) < 0))) (1 : Int).natAbs (1 : Int).natAbs = unitq 0 := rfl
theorem unitq_succ (j : Nat) : unitq j * rv false 1 10 = unitq (j + 1) := by rw [unitq, rv_mul, unitq, Nat.pow_succ]; rfl
theorem unitq_sz {j : Nat} (h : j ≤ 20) : Sz (unitq j) 3 := by
  have h1 : 10 ^ j ≤ 10 ^ 20 := Nat.pow_le_pow_right (by omega) h
  exact Sz.of_rv (Nat.le_trans (dig_len_le (k := 1) (by decide)) (by omega)) (dig_len_le (Nat.lt_of_le_of_lt h1 (by decide))) (by omega)
end Go.Proofs.YtajddhkepbnilaaGreatDoor
