/- Plain arithmetic: the rational number of a sign and two naturals, its lowest terms, and the sizes of these. No program. -/
import Derived.Test.YtolkijelldlmeaaGreatDoorMath
namespace Go.Proofs.YtolkijelldlmeaaGreatDoor

/-- the number of a sign and two naturals; 0 where one of them is 0 -/
def rv (s : Bool) (a b : Nat) : Rat := mkRat (if s then -(a : Int) else (a : Int)) b
/-- the numerator without its sign; the sign -/
def nu (q : Rat) : Nat := q.num.natAbs
def sg (q : Rat) : Bool := decide (q.num < 0)

theorem rv_den0 (s : Bool) (a : Nat) : rv s a 0 = 0 := Rat.mkRat_zero _
theorem rv_num0 (s : Bool) (b : Nat) : rv s 0 b = 0 := by simp [rv]
theorem natAbs_sign (s : Bool) (a : Nat) : (if s then -(a : Int) else (a : Int)).natAbs = a := by cases s <;> simp
theorem num_rv (s : Bool) {a b : Nat} (hb : 0 < b) : (rv s a b).num = if s then -((a / Nat.gcd a b : Nat) : Int) else ((a / Nat.gcd a b : Nat) : Int) := by
  rw [rv, Rat.num_mkRat, if_neg (by omega), natAbs_sign, Nat.gcd_comm]
  cases s
  · simp
  · simp only [if_true]
    rw [Int.neg_ediv_of_dvd (Int.natCast_dvd_natCast.2 (Nat.gcd_dvd_left a b))]
    simp
theorem nu_rv (s : Bool) {a b : Nat} (hb : 0 < b) : nu (rv s a b) = a / Nat.gcd a b := by rw [nu, num_rv s hb, natAbs_sign]
theorem den_rv (s : Bool) {a b : Nat} (hb : 0 < b) : (rv s a b).den = b / Nat.gcd a b := by
  rw [rv, Rat.den_mkRat, if_neg (by omega), natAbs_sign, Nat.gcd_comm]
theorem div_gcd_pos {a b : Nat} (ha : 0 < a) : 0 < a / Nat.gcd a b := Nat.div_pos (Nat.le_of_dvd ha (Nat.gcd_dvd_left a b)) (Nat.gcd_pos_of_pos_left b ha)
theorem sg_rv (s : Bool) {a b : Nat} (ha : 0 < a) (hb : 0 < b) : sg (rv s a b) = s := by
  have h := div_gcd_pos (b := b) ha
  rw [sg, num_rv s hb]
  cases s
  · simp only [Bool.false_eq_true, if_false]; exact decide_eq_false (by omega)
  · simp only [if_true]; exact decide_eq_true (by omega)
theorem sg_zero : sg 0 = false := rfl
theorem nu_zero : nu 0 = 0 := rfl
theorem den_pos (q : Rat) : 0 < q.den := q.den_pos
theorem nu_eq_zero {q : Rat} : nu q = 0 ↔ q = 0 := by rw [nu, Int.natAbs_eq_zero, Rat.num_eq_zero]
theorem nu_pos {q : Rat} (h : q ≠ 0) : 0 < nu q := Nat.pos_of_ne_zero fun e => h (nu_eq_zero.1 e)
theorem sg_num (q : Rat) : (if sg q then -(nu q : Int) else (nu q : Int)) = q.num := by
  unfold sg nu
  by_cases h : q.num < 0
  · simp only [decide_eq_true h, if_true]; omega
  · simp only [decide_eq_false h, Bool.false_eq_true, if_false]; omega
/-- a number is what its lowest terms say -/
theorem rv_self (q : Rat) : rv (sg q) (nu q) q.den = q := by rw [rv, sg_num]; exact Rat.mkRat_self q
theorem rv_eq_zero {s : Bool} {a b : Nat} : rv s a b = 0 ↔ a = 0 ∨ b = 0 := by
  by_cases hb : b = 0
  · subst hb; simp [rv_den0]
  · rw [rv, Rat.mkRat_eq_zero hb]; cases s <;> simp <;> omega
theorem neg_rv (s : Bool) (a b : Nat) : -(rv s a b) = rv (!s) a b := by
  rw [rv, Rat.neg_mkRat, rv]; cases s <;> simp
theorem rv_mul (s t : Bool) (a b c d : Nat) : rv s a b * rv t c d = rv (s != t) (a * c) (b * d) := by
  rw [rv, rv, Rat.mkRat_mul_mkRat, rv]
  congr 1
  cases s <;> cases t <;> simp [Int.neg_mul, Int.mul_neg]
theorem rv_add_same (s : Bool) (a b c d : Nat) (hb : 0 < b) (hd : 0 < d) : rv s a b + rv s c d = rv s (a * d + c * b) (b * d) := by
  rw [rv, rv, Rat.mkRat_add_mkRat _ _ (by omega) (by omega), rv]
  congr 1
  cases s
  · simp
  · simp only [if_true]; rw [Int.natCast_add, Int.natCast_mul, Int.natCast_mul, Int.neg_mul, Int.neg_mul]; omega
theorem rv_add_le (s : Bool) (a b c d : Nat) (hb : 0 < b) (hd : 0 < d) (h : c * b ≤ a * d) : rv s a b + rv (!s) c d = rv s (a * d - c * b) (b * d) := by
  rw [rv, rv, Rat.mkRat_add_mkRat _ _ (by omega) (by omega), rv]
  congr 1
  have e : ((a * d - c * b : Nat) : Int) = (a : Int) * d - (c : Int) * b := by rw [Int.natCast_sub h, Int.natCast_mul, Int.natCast_mul]
  rw [e]
  cases s
  · simp only [Bool.not_false, Bool.false_eq_true, if_false, if_true]; rw [Int.neg_mul]; omega
  · simp only [Bool.not_true, Bool.false_eq_true, if_false, if_true]; rw [Int.neg_mul]; omega
theorem rv_inv (s : Bool) (a b : Nat) : (rv s a b)⁻¹ = rv s b a := by
  rw [rv, ← Rat.divInt_ofNat, Rat.inv_divInt, rv, ← Rat.divInt_ofNat]
  cases s
  · rfl
  · simp only [if_true]; rw [Rat.divInt_neg']
theorem rv_one (s : Bool) (a : Nat) : rv s a 1 = if s then -(a : Rat) else (a : Rat) := by
  rw [rv, Rat.mkRat_eq_div]; cases s <;> simp [Rat.intCast_natCast] <;> grind
theorem nu_nat (n : Nat) : nu (n : Rat) = n := by simp [nu]
theorem den_nat (n : Nat) : (n : Rat).den = 1 := rfl
theorem sg_nat (n : Nat) : sg (n : Rat) = false := decide_eq_false (by rw [Rat.num_natCast]; omega)
/-- equal numbers have the same lowest terms, and the other way round -/
theorem terms_eq {p q : Rat} : p = q ↔ sg p = sg q ∧ nu p = nu q ∧ p.den = q.den := by
  constructor
  · intro h; subst h; exact ⟨rfl, rfl, rfl⟩
  · rintro ⟨h1, h2, h3⟩; rw [← rv_self p, h1, h2, h3, rv_self]

/-- -1, 0, 1 -/
def sgn (q : Rat) : Int := if q < 0 then -1 else if q = 0 then 0 else 1
theorem sg_iff {q : Rat} : sg q = true ↔ q < 0 := by
  have : q.num < 0 ↔ q < 0 := by
    have := @Rat.num_nonneg q
    constructor
    · intro h; exact Rat.not_le.1 fun h' => by have := this.2 h'; omega
    · intro h; rcases Int.lt_or_le q.num 0 with h' | h'
      · exact h'
      · exact absurd (this.1 h') (Rat.not_le.2 h)
  rw [sg, decide_eq_true_iff, this]
theorem sgn_rv (s : Bool) (a b : Nat) : sgn (rv s a b) = if a = 0 ∨ b = 0 then 0 else if s then -1 else 1 := by
  by_cases h : a = 0 ∨ b = 0
  · rw [if_pos h, rv_eq_zero.2 h]; rfl
  · rw [if_neg h]
    have h0 : rv s a b ≠ 0 := fun e => h (rv_eq_zero.1 e)
    have hs := sg_rv s (a := a) (b := b) (by omega) (by omega)
    unfold sgn
    cases s
    · have : ¬ rv false a b < 0 := fun h' => by rw [← sg_iff, hs] at h'; cases h'
      simp [this, h0]
    · have : rv true a b < 0 := by rw [← sg_iff, hs]
      simp [this]
theorem sgn_neg (q : Rat) : sgn (-q) = - sgn q := by
  unfold sgn
  rcases Rat.le_total (a := q) (b := 0) with h | h <;> grind
/-- -1, 0, 1: how two numbers compare -/
def cmpQ (p q : Rat) : Int := if p < q then -1 else if p = q then 0 else 1
theorem cmpQ_sub (p q : Rat) : cmpQ p q = sgn (p - q) := by
  unfold cmpQ sgn
  grind

/-- both terms have at most k limbs -/
def Sz (q : Rat) (k : Nat) : Prop := (dig (nu q)).length ≤ k ∧ (dig q.den).length ≤ k
theorem Sz.mono {q : Rat} {k m : Nat} (h : Sz q k) (hm : k ≤ m) : Sz q m := ⟨Nat.le_trans h.1 hm, Nat.le_trans h.2 hm⟩
theorem len_add {a b k : Nat} (ha : (dig a).length ≤ k) (hb : (dig b).length ≤ k) : (dig (a + b)).length ≤ k + 1 := by
  have h1 := Nat.lt_of_lt_of_le (dig_lt a) (pw_le ha)
  have h2 := Nat.lt_of_lt_of_le (dig_lt b) (pw_le hb)
  refine dig_len_le ?_
  rw [pw_succ]
  omega
theorem len_mul {a b k m : Nat} (ha : (dig a).length ≤ k) (hb : (dig b).length ≤ m) : (dig (a * b)).length ≤ k + m := by
  have h1 := Nat.lt_of_lt_of_le (dig_lt a) (pw_le ha)
  have h2 := Nat.lt_of_lt_of_le (dig_lt b) (pw_le hb)
  refine dig_len_le ?_
  rw [pw_add]
  exact Nat.mul_lt_mul'' h1 h2
theorem Sz.of_rv {s : Bool} {a b k : Nat} (ha : (dig a).length ≤ k) (hb : (dig b).length ≤ k) (hk : 1 ≤ k) : Sz (rv s a b) k := by
  by_cases h : b = 0
  · subst h; rw [rv_den0]; exact ⟨by rw [nu_zero]; exact Nat.zero_le _, by rw [show (0 : Rat).den = 1 from rfl]; exact hk⟩
  · refine ⟨?_, ?_⟩
    · rw [nu_rv s (by omega)]; exact Nat.le_trans (dig_mono (Nat.div_le_self _ _)) ha
    · rw [den_rv s (by omega)]; exact Nat.le_trans (dig_mono (Nat.div_le_self _ _)) hb
theorem Sz.mul {p q : Rat} {k m : Nat} (hp : Sz p k) (hq : Sz q m) (hk : 1 ≤ k + m) : Sz (p * q) (k + m) := by
  rw [← rv_self p, ← rv_self q, rv_mul]
  exact Sz.of_rv (len_mul hp.1 hq.1) (len_mul hp.2 hq.2) hk
theorem Sz.add {p q : Rat} {k m : Nat} (hp : Sz p k) (hq : Sz q m) : Sz (p + q) (k + m + 1) := by
  have key : ∀ (s t : Bool) (a b c d : Nat), 0 < b → 0 < d → (dig a).length ≤ k → (dig b).length ≤ k → (dig c).length ≤ m → (dig d).length ≤ m → Sz (rv s a b + rv t c d) (k + m + 1) := by
    intro s t a b c d hb hd h1 h2 h3 h4
    have e1 : (dig (a * d)).length ≤ k + m := len_mul h1 h4
    have e2 : (dig (c * b)).length ≤ k + m := by rw [Nat.add_comm k m]; exact len_mul h3 h2
    have e3 : (dig (b * d)).length ≤ k + m + 1 := by have := len_mul h2 h4; omega
    by_cases hs : s = t
    · subst hs; rw [rv_add_same s a b c d hb hd]; exact Sz.of_rv (len_add e1 e2) e3 (by omega)
    · obtain rfl : t = !s := by cases s <;> cases t <;> simp at hs ⊢
      by_cases hle : c * b ≤ a * d
      · rw [rv_add_le s a b c d hb hd hle]; exact Sz.of_rv (by have := dig_mono (Nat.sub_le (a * d) (c * b)); omega) e3 (by omega)
      · have e := rv_add_le (!s) c d a b hd hb (by omega)
        rw [Bool.not_not] at e
        rw [Rat.add_comm, e]
        exact Sz.of_rv (by have := dig_mono (Nat.sub_le (c * b) (a * d)); omega) (by rw [Nat.mul_comm]; exact e3) (by omega)
  have h := key (sg p) (sg q) (nu p) p.den (nu q) q.den p.den_pos q.den_pos hp.1 hp.2 hq.1 hq.2
  rwa [rv_self, rv_self] at h
theorem Sz.neg {q : Rat} {k : Nat} (h : Sz q k) : Sz (-q) k := by
  refine ⟨?_, ?_⟩
  · rw [show nu (-q) = nu q from by simp [nu]]; exact h.1
  · rw [Rat.neg_den]; exact h.2
/-- whole part -/
theorem floor_rv (q : Rat) : (q.floor : Rat) = rv (sg q) (if sg q && decide (0 < nu q % q.den) then nu q / q.den + 1 else nu q / q.den) 1 := by
  have hd := q.den_pos
  have hf : q.floor = q.num / q.den := Rat.floor_def q
  have h := sg_num q
  rw [rv_one, hf, ← h]
  generalize nu q = n at *
  generalize q.den = d at *
  generalize sg q = s at *
  cases s
  · simp only [Bool.false_and, Bool.false_eq_true, if_false]
    rw [← Int.natCast_ediv]; rfl
  · simp only [Bool.true_and, if_true]
    by_cases hz : 0 < n % d
    · rw [decide_eq_true hz, if_pos rfl]
      have e : -(n : Int) / (d : Int) = -((n / d + 1 : Nat) : Int) := by
        have h1 := Nat.div_add_mod n d
        have h2 := Nat.mod_lt n hd
        have e3 : -(n : Int) = (d : Int) * -((n / d + 1 : Nat) : Int) + ((d - n % d : Nat) : Int) := by
          have h3 : (n : Int) = (d : Int) * ((n / d : Nat) : Int) + ((n % d : Nat) : Int) := by rw [← Int.natCast_mul, ← Int.natCast_add, h1]
          rw [Int.natCast_sub (by omega), Int.natCast_add, Int.mul_neg, Int.mul_add]
          omega
        rw [e3, Int.mul_add_ediv_left _ _ (by omega)]
        have : ((d - n % d : Nat) : Int) / (d : Int) = 0 := Int.ediv_eq_zero_of_lt (by omega) (by omega)
        omega
      rw [e, Rat.intCast_neg]; rfl
    · rw [decide_eq_false hz, if_neg (by simp)]
      have h0 : n % d = 0 := by omega
      have e : -(n : Int) / (d : Int) = -((n / d : Nat) : Int) := by
        rw [Int.neg_ediv_of_dvd (Int.natCast_dvd_natCast.2 (Nat.dvd_of_mod_eq_zero h0)), Int.natCast_ediv]
      rw [e, Rat.intCast_neg]; rfl
end Go.Proofs.YtolkijelldlmeaaGreatDoor
