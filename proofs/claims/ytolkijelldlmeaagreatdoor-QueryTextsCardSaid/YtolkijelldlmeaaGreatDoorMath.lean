/- Plain arithmetic: lists of limbs to the base 10^9, least first, and the naturals that they stand for. No program. -/
import Derived.WalkKit
import Derived.Lib.Hide
namespace Go.Proofs.YtolkijelldlmeaaGreatDoor
open Go.RowKit

/-- l[j], 0 behind the end: a name that simp does not open. -/
def at_ (l : List Nat) (j : Nat) : Nat := l.getD j 0
/-- the value of a list of limbs -/
def val : List Nat → Nat
  | [] => 0
  | x :: l => x + 1000000000 * val l
/-- every limb below the base -/
def Dig (l : List Nat) : Prop := ∀ j, at_ l j < 1000000000
/-- without zeros at the end -/
def trimL : List Nat → List Nat
  | [] => []
  | x :: l => match trimL l with
    | [] => if x = 0 then [] else [x]
    | y :: r => x :: y :: r
def digF : Nat → Nat → List Nat
  | 0, _ => []
  | f + 1, n => if n = 0 then [] else n % 1000000000 :: digF f (n / 1000000000)
/-- the canonical limbs of a natural -/
def dig (n : Nat) : List Nat := digF n n
/-- 10^(9k) -/
def pw (k : Nat) : Nat := 1000000000 ^ k

theorem at_nil (j : Nat) : at_ [] j = 0 := by simp [at_]
theorem at_zero (x : Nat) (l : List Nat) : at_ (x :: l) 0 = x := by simp [at_]
theorem at_succ (x : Nat) (l : List Nat) (j : Nat) : at_ (x :: l) (j + 1) = at_ l j := by simp [at_]
theorem at_ge {l : List Nat} {j : Nat} (h : l.length ≤ j) : at_ l j = 0 := by simp [at_, List.getElem?_eq_none h]
theorem at_get {l : List Nat} {j : Nat} (h : j < l.length) : at_ l j = l[j] := by simp [at_, List.getElem?_eq_getElem h]
theorem at_get? {l : List Nat} {j : Nat} (h : j < l.length) : l[j]? = some (at_ l j) := by rw [at_get h, List.getElem?_eq_getElem h]
theorem at_mem {l : List Nat} {x : Nat} (h : x ∈ l) : ∃ j, j < l.length ∧ at_ l j = x := by
  obtain ⟨j, hj, e⟩ := List.getElem_of_mem h
  exact ⟨j, hj, by rw [at_get hj, e]⟩
theorem at_append_l {l m : List Nat} {j : Nat} (h : j < l.length) : at_ (l ++ m) j = at_ l j := by simp [at_, List.getElem?_append_left h]
theorem at_append_r {l m : List Nat} {j : Nat} (h : l.length ≤ j) : at_ (l ++ m) j = at_ m (j - l.length) := by simp [at_, List.getElem?_append_right h]
theorem at_take {l : List Nat} {j k : Nat} (h : j < k) : at_ (l.take k) j = at_ l j := by simp [at_, h]
theorem at_take_ge {l : List Nat} {j k : Nat} (h : k ≤ j) : at_ (l.take k) j = 0 := at_ge (by simp; omega)
theorem at_drop (l : List Nat) (j k : Nat) : at_ (l.drop k) j = at_ l (k + j) := by simp [at_, List.getElem?_drop]
theorem at_set_same {l : List Nat} {j : Nat} (h : j < l.length) (x : Nat) : at_ (l.set j x) j = x := by simp [at_, h]
theorem at_set_ne {l : List Nat} {i j : Nat} (h : i ≠ j) (x : Nat) : at_ (l.set i x) j = at_ l j := by simp [at_, List.getElem?_set_ne h]
theorem at_replicate (n j : Nat) : at_ (List.replicate n 0) j = 0 := by
  by_cases h : j < n
  · simp [at_, h]
  · exact at_ge (by simp; omega)
theorem take_snoc {l : List Nat} {k : Nat} (h : k < l.length) : l.take (k + 1) = l.take k ++ [at_ l k] := by
  rw [List.take_succ_eq_append_getElem h, at_get h]
theorem ext_at {l m : List Nat} (hl : l.length = m.length) (h : ∀ j, j < l.length → at_ l j = at_ m j) : l = m := by
  apply List.ext_getElem hl
  intro j h1 h2
  have := h j h1
  rw [at_get h1, at_get h2] at this
  exact this

theorem pw_zero : pw 0 = 1 := rfl
theorem pw_succ (k : Nat) : pw (k + 1) = 1000000000 * pw k := by rw [pw, pw, Nat.pow_succ, Nat.mul_comm]
theorem pw_pos (k : Nat) : 0 < pw k := Nat.pow_pos (by omega)
theorem pw_add (a b : Nat) : pw (a + b) = pw a * pw b := Nat.pow_add ..
theorem pw_le {a b : Nat} (h : a ≤ b) : pw a ≤ pw b := Nat.pow_le_pow_right (by omega) h

theorem val_nil : val [] = 0 := rfl
theorem val_cons (x : Nat) (l : List Nat) : val (x :: l) = x + 1000000000 * val l := rfl
theorem val_one (x : Nat) : val [x] = x := by simp [val]
theorem val_append (l m : List Nat) : val (l ++ m) = val l + pw l.length * val m := by
  induction l with
  | nil => simp [val_nil, pw_zero]
  | cons x l ih => rw [List.cons_append, val_cons, val_cons, ih, List.length_cons, pw_succ]; grind
theorem val_snoc (l : List Nat) (x : Nat) : val (l ++ [x]) = val l + pw l.length * x := by rw [val_append, val_one]
theorem val_take_succ {l : List Nat} {k : Nat} (h : k < l.length) : val (l.take (k + 1)) = val (l.take k) + pw k * at_ l k := by
  rw [take_snoc h, val_snoc, List.length_take, Nat.min_eq_left (by omega)]
theorem val_split (l : List Nat) (k : Nat) (h : k ≤ l.length) : val l = val (l.take k) + pw k * val (l.drop k) := by
  have := val_append (l.take k) (l.drop k)
  rw [List.take_append_drop, List.length_take, Nat.min_eq_left h] at this
  exact this
theorem val_drop_cons {l : List Nat} {k : Nat} (h : k < l.length) : val (l.drop k) = at_ l k + 1000000000 * val (l.drop (k + 1)) := by
  rw [List.drop_eq_getElem_cons h, val_cons, at_get h]
theorem val_replicate (n : Nat) : val (List.replicate n 0) = 0 := by
  induction n with
  | zero => rfl
  | succ n ih => rw [List.replicate_succ, val_cons, ih]
theorem val_set {l : List Nat} {i : Nat} (h : i < l.length) (x : Nat) : val (l.set i x) + pw i * at_ l i = val l + pw i * x := by
  induction l generalizing i with
  | nil => simp at h
  | cons y l ih =>
    cases i with
    | zero => simp only [List.set_cons_zero, val_cons, at_zero, pw_zero]; omega
    | succ i =>
      have := ih (i := i) (by simpa using h)
      rw [List.set_cons_succ, val_cons, val_cons, at_succ, pw_succ]
      grind

theorem Dig.nil : Dig [] := fun j => by rw [at_nil]; omega
theorem Dig.snoc {l : List Nat} (h : Dig l) {x : Nat} (hx : x < 1000000000) : Dig (l ++ [x]) := fun j => by
  by_cases hj : j < l.length
  · rw [at_append_l hj]; exact h j
  · rw [at_append_r (by omega)]
    cases e : j - l.length with
    | zero => rw [at_zero]; exact hx
    | succ k => rw [at_succ, at_nil]; omega
theorem Dig.tail {x : Nat} {l : List Nat} (h : Dig (x :: l)) : Dig l := fun j => by have := h (j + 1); rwa [at_succ] at this
theorem Dig.head {x : Nat} {l : List Nat} (h : Dig (x :: l)) : x < 1000000000 := by have := h 0; rwa [at_zero] at this
theorem Dig.cons {x : Nat} {l : List Nat} (hx : x < 1000000000) (h : Dig l) : Dig (x :: l) := fun j => by
  cases j with
  | zero => rw [at_zero]; exact hx
  | succ j => rw [at_succ]; exact h j
theorem Dig.take {l : List Nat} (h : Dig l) (k : Nat) : Dig (l.take k) := fun j => by
  by_cases hj : j < k
  · rw [at_take hj]; exact h j
  · rw [at_take_ge (by omega)]; omega
theorem Dig.drop {l : List Nat} (h : Dig l) (k : Nat) : Dig (l.drop k) := fun j => by rw [at_drop]; exact h _
theorem Dig.append {l m : List Nat} (h : Dig l) (k : Dig m) : Dig (l ++ m) := fun j => by
  by_cases hj : j < l.length
  · rw [at_append_l hj]; exact h j
  · rw [at_append_r (by omega)]; exact k _
theorem Dig.set {l : List Nat} (h : Dig l) (i : Nat) {x : Nat} (hx : x < 1000000000) : Dig (l.set i x) := fun j => by
  by_cases hi : i < l.length
  · by_cases e : i = j
    · subst e; rw [at_set_same hi]; exact hx
    · rw [at_set_ne e]; exact h j
  · rw [List.set_eq_of_length_le (by omega)]; exact h j
theorem Dig.replicate (n : Nat) : Dig (List.replicate n 0) := fun j => by rw [at_replicate]; omega
theorem val_lt {l : List Nat} (h : Dig l) : val l < pw l.length := by
  induction l with
  | nil => rw [val_nil, List.length_nil, pw_zero]; omega
  | cons x l ih =>
    have := ih h.tail
    have := h.head
    rw [val_cons, List.length_cons, pw_succ]
    omega

theorem trimL_nil : trimL [] = [] := rfl
theorem trimL_cons_nil {x : Nat} {l : List Nat} (h : trimL l = []) : trimL (x :: l) = if x = 0 then [] else [x] := by rw [trimL, h]
theorem trimL_cons_ne {x : Nat} {l : List Nat} (h : trimL l ≠ []) : trimL (x :: l) = x :: trimL l := by
  rw [trimL]
  split
  · rename_i e; exact absurd e h
  · rename_i e; rw [e]
theorem val_trimL (l : List Nat) : val (trimL l) = val l := by
  induction l with
  | nil => rfl
  | cons x l ih =>
    by_cases h : trimL l = []
    · rw [trimL_cons_nil h]
      rw [h, val_nil] at ih
      by_cases hx : x = 0
      · rw [if_pos hx, val_cons, ← ih, hx]; rfl
      · rw [if_neg hx, val_cons, val_cons, ← ih]; rfl
    · rw [trimL_cons_ne h, val_cons, val_cons, ih]
theorem trimL_len (l : List Nat) : (trimL l).length ≤ l.length := by
  induction l with
  | nil => exact Nat.le_refl _
  | cons x l ih =>
    by_cases h : trimL l = []
    · rw [trimL_cons_nil h]
      by_cases hx : x = 0
      · rw [if_pos hx]; simp
      · rw [if_neg hx]; simp
    · rw [trimL_cons_ne h]; simp only [List.length_cons]; omega
theorem trimL_at (l : List Nat) (j : Nat) : at_ (trimL l) j = at_ l j := by
  induction l generalizing j with
  | nil => rfl
  | cons x l ih =>
    by_cases h : trimL l = []
    · rw [trimL_cons_nil h]
      have hz : ∀ j, at_ l j = 0 := fun j => by rw [← ih, h, at_nil]
      by_cases hx : x = 0
      · rw [if_pos hx, at_nil]
        cases j with
        | zero => rw [at_zero, hx]
        | succ j => rw [at_succ, hz]
      · rw [if_neg hx]
        cases j with
        | zero => rw [at_zero, at_zero]
        | succ j => rw [at_succ, at_succ, hz, at_nil]
    · rw [trimL_cons_ne h]
      cases j with
      | zero => rw [at_zero, at_zero]
      | succ j => rw [at_succ, at_succ, ih]
theorem trimL_last (l : List Nat) : trimL l = [] ∨ at_ l ((trimL l).length - 1) ≠ 0 := by
  induction l with
  | nil => exact .inl rfl
  | cons x l ih =>
    by_cases h : trimL l = []
    · rw [trimL_cons_nil h]
      by_cases hx : x = 0
      · rw [if_pos hx]; exact .inl rfl
      · rw [if_neg hx]; right; simpa [at_zero] using hx
    · right
      rw [trimL_cons_ne h]
      have h' := ih.resolve_left h
      have : 0 < (trimL l).length := List.length_pos_iff.2 h
      rw [List.length_cons, Nat.add_sub_cancel, show (trimL l).length = ((trimL l).length - 1) + 1 by omega, at_succ]
      exact h'
/-- Any k that cuts off zeros alone and ends at a limb that is not 0 is the trimmed length. -/
theorem trimL_take {l : List Nat} {k : Nat} (hk : k ≤ l.length) (hz : ∀ j, k ≤ j → at_ l j = 0) (hl : k = 0 ∨ at_ l (k - 1) ≠ 0) : trimL l = l.take k := by
  have e : (trimL l).length = k := by
    rcases Nat.lt_trichotomy (trimL l).length k with h | h | h
    · rcases hl with hl | hl
      · omega
      · exfalso; apply hl; rw [← trimL_at, at_ge (by omega)]
    · exact h
    · rcases trimL_last l with h' | h'
      · rw [h'] at h; simp at h
      · exfalso; exact h' (hz _ (by omega))
  apply ext_at (by rw [e, List.length_take, Nat.min_eq_left hk])
  intro j hj
  rw [trimL_at, at_take (by omega)]
theorem trimL_length {l : List Nat} {k : Nat} (hk : k ≤ l.length) (hz : ∀ j, k ≤ j → at_ l j = 0) (hl : k = 0 ∨ at_ l (k - 1) ≠ 0) : (trimL l).length = k := by
  rw [trimL_take hk hz hl, List.length_take, Nat.min_eq_left hk]
theorem Dig.trimL {l : List Nat} (h : Dig l) : Dig (trimL l) := fun j => by rw [trimL_at]; exact h j

theorem digF_zero (f : Nat) : digF f 0 = [] := by cases f <;> simp [digF]
theorem digF_fuel (f : Nat) : ∀ g n, n ≤ f → n ≤ g → digF f n = digF g n := by
  induction f with
  | zero => intro g n h _; obtain rfl : n = 0 := by omega
            rw [digF_zero, digF_zero]
  | succ f ih =>
    intro g n hf hg
    by_cases h0 : n = 0
    · subst h0; rw [digF_zero, digF_zero]
    · cases g with
      | zero => omega
      | succ g =>
        rw [digF, digF, if_neg h0, if_neg h0, ih g (n / 1000000000) (by omega) (by omega)]
theorem dig_zero : dig 0 = [] := rfl
theorem dig_pos {n : Nat} (h : 0 < n) : dig n = n % 1000000000 :: dig (n / 1000000000) := by
  unfold dig
  cases n with
  | zero => omega
  | succ m => rw [digF, if_neg (by omega), digF_fuel m ((m + 1) / 1000000000) _ (by omega) (Nat.le_refl _)]
theorem dig_ind {P : Nat → Prop} (h0 : P 0) (hs : ∀ n, 0 < n → P (n / 1000000000) → P n) (n : Nat) : P n := by
  induction n using Nat.strongRecOn with
  | _ n ih =>
    by_cases h : n = 0
    · subst h; exact h0
    · exact hs n (by omega) (ih _ (by omega))
theorem val_dig (n : Nat) : val (dig n) = n := by
  induction n using dig_ind with
  | h0 => rfl
  | hs n h ih => rw [dig_pos h, val_cons, ih]; omega
theorem dig_Dig (n : Nat) : Dig (dig n) := by
  induction n using dig_ind with
  | h0 => exact Dig.nil
  | hs n h ih => rw [dig_pos h]; exact Dig.cons (by omega) ih
theorem dig_ne {n : Nat} (h : 0 < n) : dig n ≠ [] := by rw [dig_pos h]; simp
theorem dig_eq_nil {n : Nat} : dig n = [] ↔ n = 0 :=
  ⟨fun h => Nat.eq_zero_of_not_pos fun h' => dig_ne h' h, fun h => by rw [h]; rfl⟩
theorem dig_len_pos {n : Nat} : 0 < (dig n).length ↔ 0 < n := by
  constructor
  · intro h; exact Nat.pos_of_ne_zero fun e => by rw [e, dig_zero] at h; simp at h
  · intro h; exact List.length_pos_iff.2 (dig_ne h)
theorem dig_len_zero {n : Nat} : (dig n).length = 0 ↔ n = 0 := by
  have := @dig_len_pos n; omega
theorem trimL_dig (n : Nat) : trimL (dig n) = dig n := by
  induction n using dig_ind with
  | h0 => rfl
  | hs n h ih =>
    rw [dig_pos h]
    by_cases h' : n / 1000000000 = 0
    · rw [h', dig_zero, trimL_cons_nil rfl, if_neg (by omega)]
    · rw [trimL_cons_ne (by rw [ih]; exact dig_ne (by omega)), ih]
theorem trimL_val {l : List Nat} (h : Dig l) : trimL l = dig (val l) := by
  induction l with
  | nil => rfl
  | cons x l ih =>
    have ih := ih h.tail
    have hx := h.head
    by_cases hv : val l = 0
    · have e : trimL l = [] := by rw [ih, hv]; rfl
      rw [trimL_cons_nil e, val_cons, hv]
      by_cases h0 : x = 0
      · rw [if_pos h0, h0]; rfl
      · rw [if_neg h0, dig_pos (by omega), show (x + 1000000000 * 0) / 1000000000 = 0 by omega, dig_zero]
        congr 1; omega
    · have e : trimL l ≠ [] := by rw [ih]; exact dig_ne (by omega)
      rw [trimL_cons_ne e, val_cons, dig_pos (by omega), ih]
      congr 1
      · omega
      · congr 1; omega
theorem dig_val {l : List Nat} (h : Dig l) (ht : trimL l = l) : dig (val l) = l := by rw [← trimL_val h, ht]
theorem dig_inj {a b : Nat} (h : dig a = dig b) : a = b := by rw [← val_dig a, h, val_dig]
theorem dig_eq_iff {a b : Nat} : dig a = dig b ↔ a = b := ⟨dig_inj, fun h => by rw [h]⟩
theorem dig_at (n j : Nat) : at_ (dig n) j = n / pw j % 1000000000 := by
  induction j generalizing n with
  | zero =>
    by_cases h : n = 0
    · subst h; rfl
    · rw [dig_pos (by omega), at_zero, pw_zero, Nat.div_one]
  | succ j ih =>
    by_cases h : n = 0
    · subst h; rw [dig_zero, at_nil, Nat.zero_div]
    · rw [dig_pos (by omega), at_succ, ih, pw_succ, Nat.div_div_eq_div_mul]
theorem dig_lt (n : Nat) : n < pw (dig n).length := by
  have := val_lt (dig_Dig n); rwa [val_dig] at this
theorem dig_len_le {n k : Nat} (h : n < pw k) : (dig n).length ≤ k := by
  induction k generalizing n with
  | zero => rw [pw_zero] at h; obtain rfl : n = 0 := by omega
            simp [dig_zero]
  | succ k ih =>
    by_cases h0 : n = 0
    · subst h0; simp [dig_zero]
    · rw [dig_pos (by omega), List.length_cons]
      have := ih (n := n / 1000000000) (by rw [pw_succ] at h; omega)
      omega
theorem dig_ge {n : Nat} (h : 0 < n) : pw ((dig n).length - 1) ≤ n := by
  rcases Nat.lt_or_ge n (pw ((dig n).length - 1)) with h' | h'
  · have := dig_len_le h'
    have := dig_len_pos.2 h
    omega
  · exact h'
theorem dig_mono {a b : Nat} (h : a ≤ b) : (dig a).length ≤ (dig b).length := dig_len_le (Nat.lt_of_le_of_lt h (dig_lt b))
theorem dig_len_val {l : List Nat} (h : Dig l) : (dig (val l)).length ≤ l.length := dig_len_le (val_lt h)
theorem dig_top {n : Nat} (h : 0 < n) : 0 < at_ (dig n) ((dig n).length - 1) := by
  rcases trimL_last (dig n) with h' | h'
  · rw [trimL_dig] at h'; exact absurd h' (dig_ne h)
  · rw [trimL_dig] at h'; omega
theorem dig_one {x : Nat} (h0 : 0 < x) (h : x < 1000000000) : dig x = [x] := by
  rw [dig_pos h0, show x / 1000000000 = 0 by omega, dig_zero, Nat.mod_eq_of_lt h]
/-- the low k limbs, the limbs from k on -/
theorem val_take_dig (n k : Nat) : val ((dig n).take k) = n % pw k := by
  induction k generalizing n with
  | zero => rw [List.take_zero, pw_zero, Nat.mod_one]; rfl
  | succ k ih =>
    by_cases h0 : n = 0
    · subst h0; simp [dig_zero, val_nil]
    · rw [dig_pos (by omega), List.take_succ_cons, val_cons, ih, pw_succ, Nat.mod_mul]
theorem drop_dig (n k : Nat) : (dig n).drop k = dig (n / pw k) := by
  induction k generalizing n with
  | zero => rw [List.drop_zero, pw_zero, Nat.div_one]
  | succ k ih =>
    by_cases h0 : n = 0
    · subst h0; rw [dig_zero, Nat.zero_div, dig_zero]; rfl
    · rw [dig_pos (by omega), List.drop_succ_cons, ih, pw_succ, Nat.div_div_eq_div_mul]
theorem div_pw_succ (n k : Nat) : n / pw k = 1000000000 * (n / pw (k + 1)) + at_ (dig n) k := by
  rw [dig_at, pw_succ, Nat.mul_comm 1000000000 (pw k), ← Nat.div_div_eq_div_mul]
  omega
end Go.Proofs.YtolkijelldlmeaaGreatDoor
