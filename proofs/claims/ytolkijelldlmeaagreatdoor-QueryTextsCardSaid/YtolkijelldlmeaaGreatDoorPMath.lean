/- Plain arithmetic: rows of digits read as numbers. No program. -/
import Derived.Test.YtolkijelldlmeaaGreatDoorDMath
import Derived.Lib.ParseIntB
import Derived.Lib.SlTrimSet
namespace Go.Proofs.YtolkijelldlmeaaGreatDoor
open Go

/-- a byte that is a digit -/
def isDig (b : UInt8) : Bool := decide (48 ≤ b.toNat) && decide (b.toNat ≤ 57)
theorem isDig_iff {b : UInt8} : isDig b = true ↔ 48 ≤ b.toNat ∧ b.toNat ≤ 57 := by simp [isDig]
/-- the value of a row of digits, behind the value a of what stands ahead -/
def dval (a : Nat) (l : List UInt8) : Nat := l.foldl (fun a b => 10 * a + (b.toNat - 48)) a
theorem dval_nil (a : Nat) : dval a [] = a := rfl
theorem dval_cons (a : Nat) (b : UInt8) (l : List UInt8) : dval a (b :: l) = dval (10 * a + (b.toNat - 48)) l := by simp only [dval, List.foldl_cons]
theorem dval_append (a : Nat) (l m : List UInt8) : dval a (l ++ m) = dval (dval a l) m := by unfold dval; rw [List.foldl_append]
theorem dval_snoc (a : Nat) (l : List UInt8) (b : UInt8) : dval a (l ++ [b]) = 10 * dval a l + (b.toNat - 48) := by rw [dval_append, dval_cons, dval_nil]
theorem dval_acc (a : Nat) : ∀ l : List UInt8, dval a l = a * 10 ^ l.length + dval 0 l
  | [] => by simp [dval]
  | b :: l => by
    rw [dval_cons, dval_cons, dval_acc _ l, dval_acc (10 * 0 + (b.toNat - 48)) l, List.length_cons, Nat.pow_succ]
    generalize 10 ^ l.length = p
    generalize dval 0 l = v
    generalize b.toNat - 48 = d
    grind
theorem dval_split (l m : List UInt8) : dval 0 (l ++ m) = dval 0 l * 10 ^ m.length + dval 0 m := by rw [dval_append, dval_acc]
theorem dval_lt : ∀ {l : List UInt8}, l.all isDig = true → dval 0 l < 10 ^ l.length
  | [], _ => by simp [dval]
  | b :: l, h => by
    rw [List.all_cons, Bool.and_eq_true] at h
    obtain ⟨h1, h2⟩ := h
    have h3 := dval_lt h2
    rw [isDig_iff] at h1
    rw [dval_cons, dval_acc, List.length_cons, Nat.pow_succ]
    generalize 10 ^ l.length = p at *
    generalize dval 0 l = v at *
    obtain ⟨d, hd⟩ : ∃ d, b.toNat - 48 = d := ⟨_, rfl⟩
    rw [hd, Nat.mul_zero, Nat.zero_add]
    have : d * p ≤ 9 * p := Nat.mul_le_mul_right p (by omega)
    omega
/-- a row of digits is its value, with zeros ahead -/
theorem dval_pad : ∀ (k : Nat) (l : List UInt8), l.length = k → l.all isDig = true → l = pad k (dval 0 l)
  | 0, l, hk, _ => by
    obtain rfl := List.length_eq_zero_iff.1 hk
    rfl
  | k + 1, l, hk, h => by
    obtain ⟨m, b, rfl⟩ : ∃ m b, l = m ++ [b] := by
      rcases List.eq_nil_or_concat l with e | ⟨m, b, e⟩
      · rw [e] at hk; simp at hk
      · exact ⟨m, b, by rw [e, List.concat_eq_append]⟩
    rw [List.all_append, Bool.and_eq_true] at h
    obtain ⟨h1, h2⟩ := h
    have hb : isDig b = true := by simpa using h2
    rw [isDig_iff] at hb
    have hm : m.length = k := by simp at hk; exact hk
    have ih := dval_pad k m hm h1
    rw [dval_snoc, pad]
    have e1 : (10 * dval 0 m + (b.toNat - 48)) / 10 = dval 0 m := by omega
    have e2 : (10 * dval 0 m + (b.toNat - 48)) % 10 = b.toNat - 48 := by omega
    rw [e1, e2, ← ih, show 48 + (b.toNat - 48) = b.toNat by omega, UInt8.ofNat_toNat]
theorem digit_toNat {d : Nat} (h : d < 10) : (UInt8.ofNat (48 + d)).toNat = 48 + d := by
  rw [UInt8.toNat_ofNat']; omega
theorem dec_all (n : Nat) : (Lib.decDigits n).all isDig = true := by
  induction n using Nat.strongRecOn with
  | _ n ih =>
    by_cases h : n < 10
    · rw [Lib.decDigits_one h]
      simp only [List.all_cons, List.all_nil, Bool.and_true]
      rw [isDig_iff, digit_toNat h]; omega
    · have hd : Lib.decDigits n = Lib.decDigits (n / 10) ++ [UInt8.ofNat (48 + n % 10)] := by rw [Lib.decDigits, dif_neg h]
      rw [hd, List.all_append, ih _ (by omega)]
      simp only [List.all_cons, List.all_nil, Bool.and_true, Bool.true_and]
      rw [isDig_iff, digit_toNat (by omega)]; omega
theorem dval_dec (n : Nat) : dval 0 (Lib.decDigits n) = n := by
  induction n using Nat.strongRecOn with
  | _ n ih =>
    by_cases h : n < 10
    · rw [Lib.decDigits_one h, dval_cons, dval_nil, digit_toNat h]; omega
    · have hd : Lib.decDigits n = Lib.decDigits (n / 10) ++ [UInt8.ofNat (48 + n % 10)] := by rw [Lib.decDigits, dif_neg h]
      rw [hd, dval_snoc, ih _ (by omega), digit_toNat (by omega)]; omega
/-- the decimal form of a number -/
def numeral (l : List UInt8) : Bool := l == Lib.decDigits (dval 0 l)
theorem numeral_iff {l : List UInt8} : numeral l = true ↔ l = Lib.decDigits (dval 0 l) := by simp [numeral]
theorem numeral_dec (n : Nat) : numeral (Lib.decDigits n) = true := by rw [numeral_iff, dval_dec]
theorem numeral_all {l : List UInt8} (h : numeral l = true) : l.all isDig = true := by rw [numeral_iff.1 h]; exact dec_all _
theorem numeral_ne {l : List UInt8} (h : numeral l = true) : l ≠ [] := by
  intro e
  have := dec_len_pos (dval 0 l)
  rw [← numeral_iff.1 h, e] at this
  simp at this
/-- digits, one or more, no zero ahead of another one: a numeral -/
theorem numeral_of {l : List UInt8} (hn : l ≠ []) (ha : l.all isDig = true) (hz : l = [48] ∨ l.head? ≠ some 48) : numeral l = true := by
  rcases hz with rfl | hz
  · decide +kernel
  · rw [numeral_iff]
    have hp := dval_pad l.length l rfl ha
    have hl := dval_lt ha
    have h1 : 1 ≤ l.length := by
      cases l with
      | nil => exact absurd rfl hn
      | cons _ _ => simp
    rw [pad_dec h1 hl] at hp
    cases hk : l.length - Lib.nDigits (dval 0 l) with
    | zero => rw [hk] at hp; simpa [zeros] using hp
    | succ k =>
      rw [hk, ← zeros_cons] at hp
      exfalso
      apply hz
      rw [hp]; rfl
theorem numeral_head {l : List UInt8} (h : numeral l = true) : l = [48] ∨ l.head? ≠ some 48 := by
  have e := numeral_iff.1 h
  rcases Nat.eq_zero_or_pos (dval 0 l) with h0 | h0
  · left; rw [e, h0, dec_zero]
  · right
    obtain ⟨c, m, e2, hc⟩ := dec_head h0
    rw [e, e2]
    simpa using hc
/-- what the package looks at -/
theorem numeral_test (l : List UInt8) : numeral l = (l.all isDig && !(l == [] || (l.head? == some 48 && !(l == [48])))) := by
  rw [Bool.eq_iff_iff]
  constructor
  · intro h
    have h1 := numeral_all h
    have h2 := numeral_ne h
    have h3 := numeral_head h
    rw [h1]
    rcases h3 with h3 | h3
    · rw [h3]; decide
    · simp [h2, h3]
  · intro h
    simp only [Bool.and_eq_true, Bool.not_eq_true', Bool.or_eq_false_iff, Bool.and_eq_false_iff, beq_eq_false_iff_ne, Bool.not_eq_false', beq_iff_eq] at h
    obtain ⟨h1, h2, h3⟩ := h
    exact numeral_of h2 h1 h3.symm

/-- the limbs of a row of digits, nine by nine from the end -/
structure Chunks (l : List UInt8) (k : Nat) (o : List Nat) : Prop where
  len : o.length = k
  dig : Dig o
  eq : dval 0 l = dval 0 (l.take (l.length - 9 * k)) * pw k + val o
theorem Chunks.zero (l : List UInt8) : Chunks l 0 [] := ⟨rfl, Dig.nil, by rw [Nat.mul_zero, Nat.sub_zero, List.take_length, pw_zero, Nat.mul_one, val_nil, Nat.add_zero]⟩
def chunk (l : List UInt8) (k : Nat) : List UInt8 := (l.take (l.length - 9 * k)).drop (l.length - 9 * (k + 1))
theorem chunk_len (l : List UInt8) (k : Nat) : (chunk l k).length ≤ 9 := by simp [chunk]; omega
theorem all_drop_take {l : List UInt8} (h : l.all isDig = true) (a b : Nat) : ((l.take a).drop b).all isDig = true := by
  rw [List.all_eq_true] at *
  exact fun x hx => h x (List.mem_of_mem_take (List.mem_of_mem_drop hx))
theorem chunk_all {l : List UInt8} (h : l.all isDig = true) (k : Nat) : (chunk l k).all isDig = true := all_drop_take h _ _
theorem chunk_lt {l : List UInt8} (h : l.all isDig = true) (k : Nat) : dval 0 (chunk l k) < 1000000000 := by
  have h1 := dval_lt (chunk_all h k)
  have h2 : 10 ^ (chunk l k).length ≤ 10 ^ 9 := Nat.pow_le_pow_right (by omega) (chunk_len l k)
  exact Nat.lt_of_lt_of_le h1 (Nat.le_trans h2 (by decide))
theorem Chunks.next {l : List UInt8} {k : Nat} {o : List Nat} (h : Chunks l k o) (ha : l.all isDig = true) (hk : 9 * k < l.length) : Chunks l (k + 1) (o ++ [dval 0 (chunk l k)]) := by
  refine ⟨by rw [List.length_append, h.len]; rfl, h.dig.snoc (chunk_lt ha k), ?_⟩
  rw [val_snoc, h.len, h.eq]
  have hs : l.take (l.length - 9 * k) = l.take (l.length - 9 * (k + 1)) ++ chunk l k := by
    rw [chunk]
    conv => lhs; rw [← List.take_append_drop (l.length - 9 * (k + 1)) (l.take (l.length - 9 * k))]
    rw [List.take_take, Nat.min_eq_left (by omega)]
  rw [hs, dval_split]
  by_cases h9 : l.length ≤ 9 * (k + 1)
  · rw [show l.length - 9 * (k + 1) = 0 by omega, List.take_zero, dval_nil, Nat.zero_mul, Nat.zero_mul, Nat.zero_add, Nat.zero_add, Nat.mul_comm]
    omega
  · have hl : (chunk l k).length = 9 := by simp [chunk]; omega
    rw [hl, pw_succ, show (10 : Nat) ^ 9 = 1000000000 from rfl]
    generalize dval 0 (l.take (l.length - 9 * (k + 1))) = x
    generalize dval 0 (chunk l k) = y
    generalize pw k = p
    grind
theorem Chunks.val {l : List UInt8} {k : Nat} {o : List Nat} (h : Chunks l k o) (hk : l.length ≤ 9 * k) : Go.Proofs.YtolkijelldlmeaaGreatDoor.val o = dval 0 l := by
  rw [h.eq, show l.length - 9 * k = 0 by omega, List.take_zero, dval_nil]; simp
theorem chunk_ne {l : List UInt8} {k : Nat} (hk : 9 * k < l.length) : chunk l k ≠ [] := by
  intro e
  have := congrArg List.length e
  simp [chunk] at this
  omega

/-- the library's reading of a row of digits -/
theorem parseM_dig {M : Nat} (hM : M < 1844674407370955162) : ∀ (l : List UInt8) (a : Nat), l.all isDig = true → dval a l ≤ M → Lib.parseUintM M a l = .ok (dval a l)
  | [], a, _, _ => rfl
  | c :: r, a, h, hv => by
    rw [List.all_cons, Bool.and_eq_true] at h
    obtain ⟨h1, h2⟩ := h
    rw [isDig_iff] at h1
    rw [dval_cons] at hv ⊢
    have hge : 10 * a + (c.toNat - 48) ≤ dval (10 * a + (c.toNat - 48)) r := by
      rw [dval_acc]
      have : 1 ≤ 10 ^ r.length := Nat.one_le_pow _ _ (by decide)
      have := Nat.le_mul_of_pos_right (10 * a + (c.toNat - 48)) (show 0 < 10 ^ r.length by omega)
      omega
    rw [Lib.parseUintM, if_pos h1, if_neg (by omega), if_neg (by omega), Nat.mul_comm a 10]
    exact parseM_dig hM r _ h2 hv
theorem parseB32_chunk {l : List UInt8} (h : l.all isDig = true) {k : Nat} (hk : 9 * k < l.length) : Lib.parseUintB 32 (chunk l k) = .ok (dval 0 (chunk l k)) := by
  rw [Lib.parseUintB, if_neg (chunk_ne hk)]
  have := chunk_lt h k
  exact parseM_dig (by decide) _ _ (chunk_all h k) (by omega)

/-- trimming the digits away -/
def ten : List UInt8 := [48, 49, 50, 51, 52, 53, 54, 55, 56, 57]
theorem ten_iff (b : UInt8) : ten.contains b = isDig b := by
  have h : ∀ x : Fin 256, ten.contains (UInt8.ofNat x.val) = isDig (UInt8.ofNat x.val) := by decide +kernel
  have := h ⟨b.toNat, b.toNat_lt⟩
  simpa using this
theorem mem_dropWhile {p : UInt8 → Bool} {x : UInt8} (hx : p x = false) : ∀ {l : List UInt8}, x ∈ l → x ∈ l.dropWhile p
  | c :: l, h => by
    rw [List.dropWhile_cons]
    split
    · rename_i hc
      rcases List.mem_cons.1 h with rfl | h
      · rw [hx] at hc; cases hc
      · exact mem_dropWhile hx h
    · exact h
theorem dropWhile_all {p : UInt8 → Bool} : ∀ {l : List UInt8}, (∀ x ∈ l, p x = true) → l.dropWhile p = []
  | [], _ => rfl
  | c :: l, h => by
    rw [List.dropWhile_cons, if_pos (h c List.mem_cons_self)]
    exact dropWhile_all (fun x hx => h x (List.mem_cons_of_mem _ hx))
theorem trim_nil (l : List UInt8) : Lib.trimS l ten = [] ↔ l.all isDig = true := by
  constructor
  · intro h
    rw [List.all_eq_true]
    intro x hx
    cases hd : isDig x with
    | true => rfl
    | false =>
      exfalso
      have hc : ten.contains x = false := by rw [ten_iff, hd]
      have h1 : x ∈ Lib.trimRightS l ten := by
        rw [Lib.trimRightS, List.mem_reverse]
        exact mem_dropWhile hc (List.mem_reverse.2 hx)
      have h2 : x ∈ Lib.trimS l ten := mem_dropWhile hc h1
      rw [h] at h2
      cases h2
  · intro h
    have h1 : Lib.trimRightS l ten = [] := by
      rw [Lib.trimRightS, List.reverse_eq_nil_iff]
      refine dropWhile_all fun x hx => ?_
      rw [ten_iff]
      exact List.all_eq_true.1 h x (List.mem_reverse.1 hx)
    rw [Lib.trimS, h1]; rfl
end Go.Proofs.YtolkijelldlmeaaGreatDoor
