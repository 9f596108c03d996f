/- Plain arithmetic: decimal numerals, their digits in rows of a fixed length, and the notation with a point. No program. -/
import Derived.Test.YtolkijelldlmeaaGreatDoorFMath
import Derived.Lib.ItoaNum
import Derived.Lib.Repeat
namespace Go.Proofs.YtolkijelldlmeaaGreatDoor
open Go

/-- k decimal digits of x, the first ahead -/
def pad : Nat → Nat → List UInt8
  | 0, _ => []
  | k + 1, x => pad k (x / 10) ++ [UInt8.ofNat (48 + x % 10)]
def zeros (k : Nat) : List UInt8 := List.replicate k 48
theorem zeros_len (k : Nat) : (zeros k).length = k := List.length_replicate
theorem zeros_succ (k : Nat) : zeros (k + 1) = zeros k ++ [48] := List.replicate_succ'
theorem zeros_cons (k : Nat) : 48 :: zeros k = zeros (k + 1) := rfl
theorem repeatL_zero (k : Nat) : Lib.repeatL [48] k = zeros k := by
  induction k with
  | zero => rfl
  | succ k ih => rw [Lib.repeatL, ih]; rfl
theorem pad_len (k x : Nat) : (pad k x).length = k := by
  induction k generalizing x with
  | zero => rfl
  | succ k ih => rw [pad, List.length_append, ih]; rfl
theorem pad_zero (k : Nat) : pad k 0 = zeros k := by
  induction k with
  | zero => rfl
  | succ k ih => rw [pad, Nat.zero_div, ih, zeros_succ]; rfl
theorem nDigits_le {x : Nat} : ∀ {k : Nat}, 1 ≤ k → x < 10 ^ k → Lib.nDigits x ≤ k := by
  induction x using Nat.strongRecOn with
  | _ x ih =>
    intro k hk h
    by_cases hx : x < 10
    · rw [Lib.nDigits_small hx]; exact hk
    · rw [Lib.nDigits_big hx]
      obtain ⟨m, rfl⟩ : ∃ m, k = m + 1 := ⟨k - 1, by omega⟩
      rw [Nat.pow_succ] at h
      have hm : 1 ≤ m := by
        cases m with
        | zero => rw [Nat.pow_zero] at h; omega
        | succ m => omega
      have := ih (x / 10) (by omega) hm (by omega)
      omega
theorem pad_dec {x : Nat} : ∀ {k : Nat}, 1 ≤ k → x < 10 ^ k → pad k x = zeros (k - Lib.nDigits x) ++ Lib.decDigits x := by
  induction x using Nat.strongRecOn with
  | _ x ih =>
    intro k hk h
    obtain ⟨m, rfl⟩ : ∃ m, k = m + 1 := ⟨k - 1, by omega⟩
    rw [pad]
    by_cases hx : x < 10
    · rw [Lib.nDigits_small hx, Lib.decDigits_one hx, Nat.div_eq_of_lt hx, pad_zero, Nat.mod_eq_of_lt hx]
      rfl
    · have hd : Lib.decDigits x = Lib.decDigits (x / 10) ++ [UInt8.ofNat (48 + x % 10)] := by rw [Lib.decDigits, dif_neg hx]
      rw [Lib.nDigits_big hx, hd]
      rw [Nat.pow_succ] at h
      have hm : 1 ≤ m := by
        cases m with
        | zero => rw [Nat.pow_zero] at h; omega
        | succ m => omega
      rw [ih (x / 10) (by omega) hm (by omega), List.append_assoc, show m + 1 - (Lib.nDigits (x / 10) + 1) = m - Lib.nDigits (x / 10) by omega]
theorem dec_pad {m : Nat} (hm : 0 < m) (k : Nat) : ∀ {x : Nat}, x < 10 ^ k → Lib.decDigits (m * 10 ^ k + x) = Lib.decDigits m ++ pad k x := by
  induction k with
  | zero => intro x hx; rw [Nat.pow_zero] at hx; obtain rfl : x = 0 := by omega
            simp [pad]
  | succ k ih =>
    intro x hx
    rw [Nat.pow_succ] at hx
    have hp : 1 ≤ 10 ^ k := Nat.one_le_pow _ _ (by decide)
    have hb : 10 ^ k ≤ m * 10 ^ k := Nat.le_mul_of_pos_left _ hm
    have e : m * 10 ^ (k + 1) + x = (m * 10 ^ k + x / 10) * 10 + x % 10 := by rw [Nat.pow_succ, ← Nat.mul_assoc]; omega
    have h10 : ¬ m * 10 ^ (k + 1) + x < 10 := by rw [e]; omega
    rw [Lib.decDigits, dif_neg h10, pad, ← List.append_assoc, ← ih (x := x / 10) (by omega), e]
    congr 2
    · omega
    · congr 1; omega
theorem pad_add (a b x : Nat) : pad (a + b) x = pad a (x / 10 ^ b) ++ pad b x := by
  induction b generalizing x with
  | zero => simp [pad]
  | succ b ih =>
    rw [show a + (b + 1) = (a + b) + 1 from rfl, pad, ih, pad, ← List.append_assoc, Nat.pow_succ, Nat.mul_comm, Nat.div_div_eq_div_mul]
theorem pad_front (k x : Nat) : pad (k + 1) x = UInt8.ofNat (48 + x / 10 ^ k % 10) :: pad k x := by
  rw [Nat.add_comm k 1, pad_add]; rfl
theorem pw_ten (k : Nat) : pw k = 10 ^ (9 * k) := by rw [pw, Nat.pow_mul]
theorem limb_digit (n i : Nat) {j : Nat} (hj : j < 9) : at_ (dig n) i / 10 ^ j % 10 = n / 10 ^ (9 * i + j) % 10 := by
  rw [dig_at, pw_ten, Nat.pow_add, ← Nat.div_div_eq_div_mul]
  generalize n / 10 ^ (9 * i) = m
  have h : (1000000000 : Nat) = 10 ^ j * 10 ^ (9 - j) := by rw [← Nat.pow_add, show j + (9 - j) = 9 by omega]
  have hd : (10 : Nat) ∣ 10 ^ (9 - j) := ⟨10 ^ (9 - j - 1), by rw [Nat.mul_comm, ← Nat.pow_succ]; congr 1; omega⟩
  rw [h, Nat.mod_mul_right_div_self, Nat.mod_mod_of_dvd _ hd]
theorem digit_ne {d : Nat} (h0 : 0 < d) (h : d < 10) : UInt8.ofNat (48 + d) ≠ 48 := by
  have : ∀ d : Fin 10, 0 < d.val → UInt8.ofNat (48 + d.val) ≠ 48 := by decide
  exact this ⟨d, h⟩ h0
theorem dec_head {n : Nat} (hn : 0 < n) : ∃ c l, Lib.decDigits n = c :: l ∧ c ≠ 48 := by
  induction n using Nat.strongRecOn with
  | _ n ih =>
    by_cases h : n < 10
    · exact ⟨_, [], Lib.decDigits_one h, digit_ne hn h⟩
    · obtain ⟨c, l, e, hc⟩ := ih (n / 10) (by omega) (by omega)
      rw [Lib.decDigits, dif_neg h, e]
      exact ⟨c, _, rfl, hc⟩
/-- without zeros ahead -/
def strip (l : List UInt8) : List UInt8 := l.dropWhile (· == 48)
theorem strip_zero (l : List UInt8) : strip (48 :: l) = strip l := by simp [strip]
theorem strip_zeros (k : Nat) (l : List UInt8) : strip (zeros k ++ l) = strip l := by
  induction k with
  | zero => rfl
  | succ k ih => rw [← zeros_cons, List.cons_append, strip_zero, ih]
theorem strip_ne {c : UInt8} {l : List UInt8} (h : c ≠ 48) : strip (c :: l) = c :: l := by simp [strip, h]
theorem strip_nil : strip [] = [] := rfl
theorem strip_pad {k n : Nat} (h : n < 10 ^ k) : strip (pad k n) = if n = 0 then [] else Lib.decDigits n := by
  by_cases hn : n = 0
  · subst hn; rw [if_pos rfl, pad_zero, ← List.append_nil (zeros k), strip_zeros]; rfl
  · rw [if_neg hn]
    have hk : 1 ≤ k := by
      cases k with
      | zero => rw [Nat.pow_zero] at h; omega
      | succ k => omega
    rw [pad_dec hk h, strip_zeros]
    obtain ⟨c, l, e, hc⟩ := dec_head (n := n) (by omega)
    rw [e, strip_ne hc]
theorem dec_zero : Lib.decDigits 0 = [48] := Lib.decDigits_one (by omega)
theorem dec_len_pos (n : Nat) : 0 < (Lib.decDigits n).length := by rw [Lib.decDigits_length]; exact Lib.nDigits_pos n
/-- one limb more -/
theorem dec_limb {n k : Nat} (h : 0 < n / pw (k + 1)) : Lib.decDigits (n / pw k) = Lib.decDigits (n / pw (k + 1)) ++ (zeros (9 - Lib.nDigits (at_ (dig n) k)) ++ Lib.decDigits (at_ (dig n) k)) := by
  rw [div_pw_succ, Nat.mul_comm, show (1000000000 : Nat) = 10 ^ 9 from rfl, dec_pad h 9 (dig_Dig n k), pad_dec (by omega) (dig_Dig n k)]

theorem nDigits_dig {n k : Nat} (h : (dig n).length ≤ k) : Lib.nDigits n ≤ 9 * k + 1 := by
  have h1 := Nat.lt_of_lt_of_le (dig_lt n) (pw_le h)
  rw [pw_ten] at h1
  refine nDigits_le (by omega) (Nat.lt_of_lt_of_le h1 (Nat.pow_le_pow_right (by omega) (by omega)))

/-- a number q / 10^k with k digits behind the point -/
def decText (neg : Bool) (q k : Nat) : List UInt8 :=
  let s := zeros (k + 1 - Lib.nDigits q) ++ Lib.decDigits q
  let t := if k = 0 then s else s.take (s.length - k) ++ 46 :: s.drop (s.length - k)
  if neg && decide (0 < q) then 45 :: t else t
/-- halves are rounded away from 0 -/
def half (n d k : Nat) : Nat := (2 * (n * 10 ^ k) + d) / (2 * d)
theorem floor_nat (a : Nat) {b : Nat} (hb : 0 < b) : (rv false a b).floor = ((a / b : Nat) : Int) := by
  rw [Rat.floor_def, num_rv false hb, den_rv false hb]
  simp only [Bool.false_eq_true, if_false]
  rw [← Int.natCast_ediv]
  congr 1
  have hg : 0 < Nat.gcd a b := Nat.gcd_pos_of_pos_right a hb
  have h1 := Nat.mul_div_cancel' (Nat.gcd_dvd_left a b)
  have h2 := Nat.mul_div_cancel' (Nat.gcd_dvd_right a b)
  generalize Nat.gcd a b = g at *
  conv => rhs; rw [← h1, ← h2]
  rw [Nat.mul_div_mul_left _ _ hg]
theorem half_floor (n k : Nat) {d : Nat} (hd : 0 < d) : (rv false n d * rv false (10 ^ k) 1 + rv false 1 2).floor = (half n d k : Int) := by
  rw [rv_mul, show (false != false) = false from rfl, rv_add_same _ _ _ _ _ (by simp; exact hd) (by omega), floor_nat _ (by simp; omega), half]
  congr 2 <;> omega
end Go.Proofs.YtolkijelldlmeaaGreatDoor
