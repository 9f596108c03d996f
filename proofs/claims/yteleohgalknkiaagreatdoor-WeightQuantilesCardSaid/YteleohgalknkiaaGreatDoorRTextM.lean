/- The reference of layer 1: Text. -/
import Derived.Test.YteleohgalknkiaaGreatDoorDMath
import Derived.Lib.ParseIntB
import Derived.Lib.SlTrimSet
import Derived.Lib.Split
import Derived.Lib.AtoiAll
import Derived.Lib.Replace
import Derived.Test.YteleohgalknkiaaGreatDoorBL
import Derived.Test.YteleohgalknkiaaGreatDoorText2
import Derived.Test.YteleohgalknkiaaGreatDoorShelf
import Derived.Lib.ItoaMem
import Derived.Test.YteleohgalknkiaaGreatDoorHb
import Derived.Shelf.Vars
import Derived.Lib.AtoiTie
import Derived.Test.YteleohgalknkiaaGreatDoorText3
import Derived.Test.YteleohgalknkiaaGreatDoorRef2
import Derived.Test.YteleohgalknkiaaGreatDoorHoist
namespace Go.Proofs.YteleohgalknkiaaGreatDoor
open Go

/-- a byte that is a digit -/
def isDig (b : UInt8) : Bool := decide (48 ≤ b.toNat) && decide (b.toNat ≤ 57)
theorem isDig_iff {b : UInt8} : isDig b = true ↔ 48 ≤ b.toNat ∧ b.toNat ≤ 57 := by simp [isDig]
/-- the value of a row of digits, behind the value a of what stands ahead -/
def dval (a : Nat) (l : List UInt8) : Nat := l.foldl (fun a b => 10 * a + (b.toNat - 48)) a
theorem dval_nil (a : Nat) : dval a [] = a := rfl
theorem dval_cons (a : Nat) (b : UInt8) (l : List UInt8) : dval a (b :: l) = dval (10 * a + (b.toNat - 48)) l := by simp only [dval, List.foldl_cons]
theorem dval_append (a : Nat) (l m : List UInt8) : dval a (l ++ m) = dval (dval a l) m := by unfold dval; rw [List.foldl_append]
theorem dval_snoc (a : Nat) (l : List UInt8) (b : UInt8) : dval a (l ++ [b]) = 10 * dval a l + (b.toNat - 48) := by rw [dval_append, dval_cons, dval_nil]
theorem dval_acc (a : Nat) : ∀ l : List UInt8, dval a l = a * 10 ^ l.length + dval 0 l
  | [] => by simp [dval]
  | b :: l => by
    rw [dval_cons, dval_cons, dval_acc _ l, dval_acc (10 * 0 + (b.toNat - 48)) l, List.length_cons, Nat.pow_succ]
    generalize 10 ^ l.length = p
    generalize dval 0 l = v
    generalize b.toNat - 48 = d
    grind
theorem dval_split (l m : List UInt8) : dval 0 (l ++ m) = dval 0 l * 10 ^ m.length + dval 0 m := by rw [dval_append, dval_acc]
theorem dval_lt : ∀ {l : List UInt8}, l.all isDig = true → dval 0 l < 10 ^ l.length
  | [], _ => by simp [dval]
  | b :: l, h => by
    rw [List.all_cons, Bool.and_eq_true] at h
    obtain ⟨h1, h2⟩ := h
    have h3 := dval_lt h2
    rw [isDig_iff] at h1
    rw [dval_cons, dval_acc, List.length_cons, Nat.pow_succ]
    generalize 10 ^ l.length = p at *
    generalize dval 0 l = v at *
    obtain ⟨d, hd⟩ : ∃ d, b.toNat - 48 = d := ⟨_, rfl⟩
    rw [hd, Nat.mul_zero, Nat.zero_add]
    have : d * p ≤ 9 * p := Nat.mul_le_mul_right p (by omega)
    omega
/-- a row of digits is its value, with zeros ahead -/
theorem dval_pad : ∀ (k : Nat) (l : List UInt8), l.length = k → l.all isDig = true → l = pad k (dval 0 l)
  | 0, l, hk, _ => by
    obtain rfl := List.length_eq_zero_iff.1 hk
    rfl
  | k + 1, l, hk, h => by
    obtain ⟨m, b, rfl⟩ : ∃ m b, l = m ++ [b] := by
      rcases List.eq_nil_or_concat l with e | ⟨m, b, e⟩
      · rw [e] at hk; simp at hk
      · exact ⟨m, b, by rw [e, List.concat_eq_append]⟩
    rw [List.all_append, Bool.and_eq_true] at h
    obtain ⟨h1, h2⟩ := h
    have hb : isDig b = true := by simpa using h2
    rw [isDig_iff] at hb
    have hm : m.length = k := by simp at hk; exact hk
    have ih := dval_pad k m hm h1
    rw [dval_snoc, pad]
    have e1 : (10 * dval 0 m + (b.toNat - 48)) / 10 = dval 0 m := by omega
    have e2 : (10 * dval 0 m + (b.toNat - 48)) % 10 = b.toNat - 48 := by omega
    rw [e1, e2, ← ih, show 48 + (b.toNat - 48) = b.toNat by omega, UInt8.ofNat_toNat]
theorem digit_toNat {d : Nat} (h : d < 10) : (UInt8.ofNat (48 + d)).toNat = 48 + d := by
  rw [UInt8.toNat_ofNat']; omega
theorem dec_all (n : Nat) : (Lib.decDigits n).all isDig = true := by
  induction n using Nat.strongRecOn with
  | _ n ih =>
    by_cases h : n < 10
    · rw [Lib.decDigits_one h]
      simp only [List.all_cons, List.all_nil, Bool.and_true]
      rw [isDig_iff, digit_toNat h]; omega
    · have hd : Lib.decDigits n = Lib.decDigits (n / 10) ++ [UInt8.ofNat (48 + n % 10)] := by rw [Lib.decDigits, dif_neg h]
      rw [hd, List.all_append, ih _ (by omega)]
      simp only [List.all_cons, List.all_nil, Bool.and_true, Bool.true_and]
      rw [isDig_iff, digit_toNat (by omega)]; omega
theorem dval_dec (n : Nat) : dval 0 (Lib.decDigits n) = n := by
  induction n using Nat.strongRecOn with
  | _ n ih =>
    by_cases h : n < 10
    · rw [Lib.decDigits_one h, dval_cons, dval_nil, digit_toNat h]; omega
    · have hd : Lib.decDigits n = Lib.decDigits (n / 10) ++ [UInt8.ofNat (48 + n % 10)] := by rw [Lib.decDigits, dif_neg h]
      rw [hd, dval_snoc, ih _ (by omega), digit_toNat (by omega)]; omega
/-- the decimal form of a number -/
def numeral (l : List UInt8) : Bool := l == Lib.decDigits (dval 0 l)
theorem numeral_iff {l : List UInt8} : numeral l = true ↔ l = Lib.decDigits (dval 0 l) := by simp [numeral]
theorem numeral_dec (n : Nat) : numeral (Lib.decDigits n) = true := by rw [numeral_iff, dval_dec]
theorem numeral_all {l : List UInt8} (h : numeral l = true) : l.all isDig = true := by rw [numeral_iff.1 h]; exact dec_all _
theorem numeral_ne {l : List UInt8} (h : numeral l = true) : l ≠ [] := by
  intro e
  have := dec_len_pos (dval 0 l)
  rw [← numeral_iff.1 h, e] at this
  simp at this
/-- digits, one or more, no zero ahead of another one: a numeral -/
theorem numeral_of {l : List UInt8} (hn : l ≠ []) (ha : l.all isDig = true) (hz : l = [48] ∨ l.head? ≠ some 48) : numeral l = true := by
  rcases hz with rfl | hz
  · decide +kernel
  · rw [numeral_iff]
    have hp := dval_pad l.length l rfl ha
    have hl := dval_lt ha
    have h1 : 1 ≤ l.length := by
      cases l with
      | nil => exact absurd rfl hn
      | cons _ _ => simp
    rw [pad_dec h1 hl] at hp
    cases hk : l.length - Lib.nDigits (dval 0 l) with
    | zero => rw [hk] at hp; simpa [zeros] using hp
    | succ k =>
      rw [hk, ← zeros_cons] at hp
      exfalso
      apply hz
      rw [hp]; rfl
theorem numeral_head {l : List UInt8} (h : numeral l = true) : l = [48] ∨ l.head? ≠ some 48 := by
  have e := numeral_iff.1 h
  rcases Nat.eq_zero_or_pos (dval 0 l) with h0 | h0
  · left; rw [e, h0, dec_zero]
  · right
    obtain ⟨c, m, e2, hc⟩ := dec_head h0
    rw [e, e2]
    simpa using hc
/-- what the package looks at -/
theorem numeral_test (l : List UInt8) : numeral l = (l.all isDig && !(l == [] || (l.head? == some 48 && !(l == [48])))) := by
  rw [Bool.eq_iff_iff]
  constructor
  · intro h
    have h1 := numeral_all h
    have h2 := numeral_ne h
    have h3 := numeral_head h
    rw [h1]
    rcases h3 with h3 | h3
    · rw [h3]; decide
    · simp [h2, h3]
  · intro h
    simp only [Bool.and_eq_true, Bool.not_eq_true', Bool.or_eq_false_iff, Bool.and_eq_false_iff, beq_eq_false_iff_ne, Bool.not_eq_false', beq_iff_eq] at h
    obtain ⟨h1, h2, h3⟩ := h
    exact numeral_of h2 h1 h3.symm

/-- the limbs of a row of digits, nine by nine from the end -/
structure Chunks (l : List UInt8) (k : Nat) (o : List Nat) : Prop where
  len : o.length = k
  dig : Dig o
  eq : dval 0 l = dval 0 (l.take (l.length - 9 * k)) * pw k + val o
theorem Chunks.zero (l : List UInt8) : Chunks l 0 [] := ⟨rfl, Dig.nil, by rw [Nat.mul_zero, Nat.sub_zero, List.take_length, pw_zero, Nat.mul_one, val_nil, Nat.add_zero]⟩
def chunk (l : List UInt8) (k : Nat) : List UInt8 := (l.take (l.length - 9 * k)).drop (l.length - 9 * (k + 1))
theorem chunk_len (l : List UInt8) (k : Nat) : (chunk l k).length ≤ 9 := by simp [chunk]; omega
theorem all_drop_take {l : List UInt8} (h : l.all isDig = true) (a b : Nat) : ((l.take a).drop b).all isDig = true := by
  rw [List.all_eq_true] at *
  exact fun x hx => h x (List.mem_of_mem_take (List.mem_of_mem_drop hx))
theorem chunk_all {l : List UInt8} (h : l.all isDig = true) (k : Nat) : (chunk l k).all isDig = true := all_drop_take h _ _
theorem chunk_lt {l : List UInt8} (h : l.all isDig = true) (k : Nat) : dval 0 (chunk l k) < 1000000000 := by
  have h1 := dval_lt (chunk_all h k)
  have h2 : 10 ^ (chunk l k).length ≤ 10 ^ 9 := Nat.pow_le_pow_right (by omega) (chunk_len l k)
  exact Nat.lt_of_lt_of_le h1 (Nat.le_trans h2 (by decide))
theorem Chunks.next {l : List UInt8} {k : Nat} {o : List Nat} (h : Chunks l k o) (ha : l.all isDig = true) (hk : 9 * k < l.length) : Chunks l (k + 1) (o ++ [dval 0 (chunk l k)]) := by
  refine ⟨by rw [List.length_append, h.len]; rfl, h.dig.snoc (chunk_lt ha k), ?_⟩
  rw [val_snoc, h.len, h.eq]
  have hs : l.take (l.length - 9 * k) = l.take (l.length - 9 * (k + 1)) ++ chunk l k := by
    rw [chunk]
    conv => lhs; rw [← List.take_append_drop (l.length - 9 * (k + 1)) (l.take (l.length - 9 * k))]
    rw [List.take_take, Nat.min_eq_left (by omega)]
  rw [hs, dval_split]
  by_cases h9 : l.length ≤ 9 * (k + 1)
  · rw [show l.length - 9 * (k + 1) = 0 by omega, List.take_zero, dval_nil, Nat.zero_mul, Nat.zero_mul, Nat.zero_add, Nat.zero_add, Nat.mul_comm]
    omega
  · have hl : (chunk l k).length = 9 := by simp [chunk]; omega
    rw [hl, pw_succ, show (10 : Nat) ^ 9 = 1000000000 from rfl]
    generalize dval 0 (l.take (l.length - 9 * (k + 1))) = x
    generalize dval 0 (chunk l k) = y
    generalize pw k = p
    grind
theorem Chunks.val {l : List UInt8} {k : Nat} {o : List Nat} (h : Chunks l k o) (hk : l.length ≤ 9 * k) : Go.Proofs.YteleohgalknkiaaGreatDoor.val o = dval 0 l := by
  rw [h.eq, show l.length - 9 * k = 0 by omega, List.take_zero, dval_nil]; simp
theorem chunk_ne {l : List UInt8} {k : Nat} (hk : 9 * k < l.length) : chunk l k ≠ [] := by
  intro e
  have := congrArg List.length e
  simp [chunk] at this
  omega

/-- the library's reading of a row of digits -/
theorem parseM_dig {M : Nat} (hM : M < 1844674407370955162) : ∀ (l : List UInt8) (a : Nat), l.all isDig = true → dval a l ≤ M → Lib.parseUintM M a l = .ok (dval a l)
  | [], a, _, _ => rfl
  | c :: r, a, h, hv => by
    rw [List.all_cons, Bool.and_eq_true] at h
    obtain ⟨h1, h2⟩ := h
    rw [isDig_iff] at h1
    rw [dval_cons] at hv ⊢
    have hge : 10 * a + (c.toNat - 48) ≤ dval (10 * a + (c.toNat - 48)) r := by
      rw [dval_acc]
      have : 1 ≤ 10 ^ r.length := Nat.one_le_pow _ _ (by decide)
      have := Nat.le_mul_of_pos_right (10 * a + (c.toNat - 48)) (show 0 < 10 ^ r.length by omega)
      omega
    rw [Lib.parseUintM, if_pos h1, if_neg (by omega), if_neg (by omega), Nat.mul_comm a 10]
    exact parseM_dig hM r _ h2 hv
theorem parseB32_chunk {l : List UInt8} (h : l.all isDig = true) {k : Nat} (hk : 9 * k < l.length) : Lib.parseUintB 32 (chunk l k) = .ok (dval 0 (chunk l k)) := by
  rw [Lib.parseUintB, if_neg (chunk_ne hk)]
  have := chunk_lt h k
  exact parseM_dig (by decide) _ _ (chunk_all h k) (by omega)

/-- trimming the digits away -/
def ten : List UInt8 := [48, 49, 50, 51, 52, 53, 54, 55, 56, 57]
theorem ten_iff (b : UInt8) : ten.contains b = isDig b := by
  have h : ∀ x : Fin 256, ten.contains (UInt8.ofNat x.val) = isDig (UInt8.ofNat x.val) := by decide +kernel
  have := h ⟨b.toNat, b.toNat_lt⟩
  simpa using this
theorem mem_dropWhile {p : UInt8 → Bool} {x : UInt8} (hx : p x = false) : ∀ {l : List UInt8}, x ∈ l → x ∈ l.dropWhile p
  | c :: l, h => by
    rw [List.dropWhile_cons]
    split
    · rename_i hc
      rcases List.mem_cons.1 h with rfl | h
      · rw [hx] at hc; cases hc
      · exact mem_dropWhile hx h
    · exact h
theorem dropWhile_all {p : UInt8 → Bool} : ∀ {l : List UInt8}, (∀ x ∈ l, p x = true) → l.dropWhile p = []
  | [], _ => rfl
  | c :: l, h => by
    rw [List.dropWhile_cons, if_pos (h c List.mem_cons_self)]
    exact dropWhile_all (fun x hx => h x (List.mem_cons_of_mem _ hx))
theorem trim_nil (l : List UInt8) : Lib.trimS l ten = [] ↔ l.all isDig = true := by
  constructor
  · intro h
    rw [List.all_eq_true]
    intro x hx
    cases hd : isDig x with
    | true => rfl
    | false =>
      exfalso
      have hc : ten.contains x = false := by rw [ten_iff, hd]
      have h1 : x ∈ Lib.trimRightS l ten := by
        rw [Lib.trimRightS, List.mem_reverse]
        exact mem_dropWhile hc (List.mem_reverse.2 hx)
      have h2 : x ∈ Lib.trimS l ten := mem_dropWhile hc h1
      rw [h] at h2
      cases h2
  · intro h
    have h1 : Lib.trimRightS l ten = [] := by
      rw [Lib.trimRightS, List.reverse_eq_nil_iff]
      refine dropWhile_all fun x hx => ?_
      rw [ten_iff]
      exact List.all_eq_true.1 h x (List.mem_reverse.1 hx)
    rw [Lib.trimS, h1]; rfl
end Go.Proofs.YteleohgalknkiaaGreatDoor

namespace Go.Proofs.YteleohgalknkiaaGreatDoor
open Go


/-- the digits of a number that is not negative -/
def dz (n : Int) : List UInt8 := Lib.decDigits n.toNat
theorem dz_len {n : Int} {k : Nat} (h : n < 10 ^ k) (hk : 1 ≤ k) (h0 : 0 ≤ n) : (dz n).length ≤ k := by
  rw [dz, Lib.decDigits_length]
  refine nDigits_le hk ?_
  have : ((n.toNat : Nat) : Int) < ((10 ^ k : Nat) : Int) := by rw [Int.toNat_of_nonneg h0]; exact_mod_cast h
  exact_mod_cast this
theorem index_at (c : UInt8) (p b : List UInt8) : ∀ a : List UInt8, c ∉ a → Lib.index (a ++ (c :: p ++ b)) (c :: p) = a.length
  | [], _ => by
    unfold Lib.index
    have h : (c :: p).isPrefixOf ([] ++ (c :: p ++ b)) = true := by rw [List.nil_append, List.isPrefixOf_iff_prefix]; exact List.prefix_append _ _
    rw [List.nil_append] at h ⊢
    rw [List.cons_append] at h ⊢
    simp only [h, if_true]; rfl
  | x :: a, h => by
    have hx : (c :: p).isPrefixOf (x :: (a ++ (c :: p ++ b))) = false := by
      have hne : c ≠ x := fun e => h (by rw [e]; exact List.mem_cons_self)
      rw [List.isPrefixOf, beq_eq_false_iff_ne.2 hne]; rfl
    have ih := index_at c p b a (fun e => h (List.mem_cons_of_mem _ e))
    rw [List.cons_append]
    unfold Lib.index
    rw [hx, ih]
    have : ((a.length : Int) == -1) = false := by rw [beq_eq_false_iff_ne]; omega
    simp [this]
theorem cut_at (c : UInt8) (p a b : List UInt8) (h : c ∉ a) : Lib.cut (a ++ (c :: p ++ b)) (c :: p) = (a, b, true) := by
  rw [Lib.cut, index_at c p b a h, if_pos (by omega)]
  have h1 : ((a.length : Int)).toNat = a.length := by omega
  rw [h1, List.take_left, List.drop_append]
  simp
theorem index_miss (c : UInt8) (p : List UInt8) : ∀ a : List UInt8, c ∉ a → Lib.index a (c :: p) = -1
  | [], _ => rfl
  | x :: a, h => by
    have hx : (c :: p).isPrefixOf (x :: a) = false := by
      have hne : c ≠ x := fun e => h (by rw [e]; exact List.mem_cons_self)
      rw [List.isPrefixOf, beq_eq_false_iff_ne.2 hne]; rfl
    have ih := index_miss c p a (fun e => h (List.mem_cons_of_mem _ e))
    unfold Lib.index
    rw [hx, ih]; rfl
theorem cut_none (c : UInt8) (p a : List UInt8) (h : c ∉ a) : Lib.cut a (c :: p) = (a, [], false) := by
  rw [Lib.cut, index_miss c p a h, if_neg (by omega)]
theorem dz_not {c : UInt8} (h : isDig c = false) (n : Int) : c ∉ dz n := fun m => by
  have h1 := List.all_eq_true.1 (dec_all n.toNat) c m
  rw [h] at h1; cases h1
/-- the number at the beginning of a text, of at most k digits, and the rest (the reference's reader) -/
def numK : Nat → List UInt8 → Nat → Nat × List UInt8
  | 0, l, n => (n, l)
  | _ + 1, [], n => (n, [])
  | k + 1, b :: l, n => if isDig b then numK k l (10 * n + (b.toNat - 48)) else (n, b :: l)
theorem numK_app : ∀ (l r : List UInt8) (k n : Nat), l.all isDig = true → l.length ≤ k → (∀ b r', r = b :: r' → isDig b = false) → numK k (l ++ r) n = (dval n l, r)
  | [], r, k, n, _, _, hr => by
    cases k with
    | zero => rfl
    | succ k =>
      cases r with
      | nil => rfl
      | cons b r' => rw [List.nil_append, numK, hr b r' rfl]; rfl
  | b :: l, r, k, n, hl, hk, hr => by
    obtain ⟨k, rfl⟩ : ∃ j, k = j + 1 := ⟨k - 1, by simp at hk; omega⟩
    rw [List.all_cons, Bool.and_eq_true] at hl
    rw [List.cons_append, numK, if_pos hl.1, numK_app l r k _ hl.2 (by simp at hk; omega) hr]
    rfl
theorem numK_dz {n : Int} {k : Nat} (h0 : 0 ≤ n) (h : n < 10 ^ k) (hk : 1 ≤ k) {r : List UInt8} (hr : ∀ b r', r = b :: r' → isDig b = false) : numK k (dz n ++ r) 0 = (n.toNat, r) := by
  rw [numK_app (dz n) r k 0 (dec_all _) (dz_len h hk h0) hr, dz, dval_dec]
theorem numK_lt : ∀ (k : Nat) (l : List UInt8) (n : Nat), (numK k l n).1 < (n + 1) * 10 ^ k
  | 0, l, n => by rw [numK]; simp
  | k + 1, [], n => by
    rw [numK]
    have : 0 < 10 ^ (k + 1) := Nat.pow_pos (by omega)
    calc n < n + 1 := by omega
      _ ≤ (n + 1) * 10 ^ (k + 1) := Nat.le_mul_of_pos_right _ this
  | k + 1, b :: l, n => by
    rw [numK]
    split
    · next hb =>
      have h1 := isDig_iff.1 hb
      have h2 := numK_lt k l (10 * n + (b.toNat - 48))
      refine Nat.lt_of_lt_of_le h2 ?_
      rw [Nat.pow_succ, Nat.mul_comm (10 ^ k) 10, ← Nat.mul_assoc]
      exact Nat.mul_le_mul_right _ (by omega)
    · have : 0 < 10 ^ (k + 1) := Nat.pow_pos (by omega)
      calc n < n + 1 := by omega
        _ ≤ (n + 1) * 10 ^ (k + 1) := Nat.le_mul_of_pos_right _ this
/-- words, each behind a separator -/
def sepd (s : List UInt8) (ws : List (List UInt8)) : List UInt8 := ws.flatMap fun w => s ++ w
theorem sepd_cons (s w : List UInt8) (ws : List (List UInt8)) : sepd s (w :: ws) = s ++ (w ++ sepd s ws) := by simp [sepd]
theorem split_sepd (c : UInt8) (p : List UInt8) : ∀ (ws : List (List UInt8)) (w : List UInt8) (k : Nat), c ∉ w → (∀ x ∈ ws, c ∉ x) → ws.length ≤ k → Lib.splitK (c :: p) 0 k (w ++ sepd (c :: p) ws) = w :: ws
  | [], w, k, h, _, _ => by
    have h1 : w ++ sepd (c :: p) [] = w := by simp [sepd]
    rw [h1]
    cases k with
    | zero => rfl
    | succ k => rw [Lib.splitK, index_miss c p w h]; rfl
  | x :: ws, w, k, h, hx, hk => by
    obtain ⟨k, rfl⟩ : ∃ j, k = j + 1 := ⟨k - 1, by simp at hk; omega⟩
    rw [sepd_cons, Lib.splitK, index_at c p _ w h]
    have h2 : ((w.length : Int) == -1) = false := by rw [beq_eq_false_iff_ne]; omega
    have h3 : ((w.length : Int)).toNat = w.length := by omega
    have hd : (w ++ (c :: p ++ (x ++ sepd (c :: p) ws))).drop (w.length + (c :: p).length) = x ++ sepd (c :: p) ws := by
      rw [← List.append_assoc, show w.length + (c :: p).length = (w ++ c :: p).length by simp, List.drop_left]
    rw [h2, h3, Nat.add_zero, List.take_left, hd]
    have ih := split_sepd c p ws x k (hx x List.mem_cons_self) (fun y hy => hx y (List.mem_cons_of_mem _ hy)) (by simp at hk; omega)
    rw [ih]; rfl
theorem count_sepd (c : UInt8) (p : List UInt8) : ∀ (ws : List (List UInt8)) (w : List UInt8) (f : Nat), c ∉ w → (∀ x ∈ ws, c ∉ x) → ws.length + 1 ≤ f → Lib.countFrom (c :: p) f (w ++ sepd (c :: p) ws) = ws.length
  | [], w, f, h, _, hf => by
    obtain ⟨f, rfl⟩ : ∃ j, f = j + 1 := ⟨f - 1, by simp at hf; omega⟩
    have h1 : w ++ sepd (c :: p) [] = w := by simp [sepd]
    rw [h1, Lib.countFrom, index_miss c p w h]; rfl
  | x :: ws, w, f, h, hx, hf => by
    obtain ⟨f, rfl⟩ : ∃ j, f = j + 1 := ⟨f - 1, by simp at hf; omega⟩
    rw [sepd_cons, Lib.countFrom, index_at c p _ w h]
    have h2 : ((w.length : Int) == -1) = false := by rw [beq_eq_false_iff_ne]; omega
    have h3 : ((w.length : Int)).toNat = w.length := by omega
    have hd : (w ++ (c :: p ++ (x ++ sepd (c :: p) ws))).drop (w.length + (c :: p).length) = x ++ sepd (c :: p) ws := by
      rw [← List.append_assoc, show w.length + (c :: p).length = (w ++ c :: p).length by simp, List.drop_left]
    rw [h2, h3, hd]
    have ih := count_sepd c p ws x f (hx x List.mem_cons_self) (fun y hy => hx y (List.mem_cons_of_mem _ hy)) (by simp at hf; omega)
    rw [ih]; simp; omega
theorem sepd_len (c : UInt8) (p : List UInt8) (ws : List (List UInt8)) : ws.length ≤ (sepd (c :: p) ws).length := by
  induction ws with
  | nil => simp
  | cons w ws ih => rw [sepd_cons]; simp; omega
theorem split_at (c : UInt8) (p : List UInt8) (w : List UInt8) (ws : List (List UInt8)) (h : c ∉ w) (hx : ∀ x ∈ ws, c ∉ x) : Lib.split (w ++ sepd (c :: p) ws) (c :: p) = w :: ws := by
  rw [Lib.split, Lib.count, count_sepd _ _ _ _ _ h hx (by have := sepd_len c p ws; rw [List.length_append]; omega), split_sepd _ _ _ _ _ h hx (Nat.le_refl _)]
/-- the library reads a row of digits as its value -/
theorem parseUint_dig : ∀ (l : List UInt8) (a : Nat), l.all isDig = true → dval a l < 1844674407370955162 → Lib.parseUint10 a l = .ok (dval a l)
  | [], a, _, _ => rfl
  | c :: r, a, h, hv => by
    rw [List.all_cons, Bool.and_eq_true] at h
    obtain ⟨h1, h2⟩ := h
    rw [isDig_iff] at h1
    rw [dval_cons] at hv ⊢
    have hge : 10 * a + (c.toNat - 48) ≤ dval (10 * a + (c.toNat - 48)) r := by
      rw [dval_acc]
      have : 1 ≤ 10 ^ r.length := Nat.one_le_pow _ _ (by decide)
      have := Nat.le_mul_of_pos_right (10 * a + (c.toNat - 48)) (show 0 < 10 ^ r.length by omega)
      omega
    rw [Lib.parseUint10, if_pos h1, if_neg (by omega), if_neg (by omega), Nat.mul_comm a 10]
    exact parseUint_dig r _ h2 hv
theorem atoi_dig {l : List UInt8} (hn : l ≠ []) (ha : l.all isDig = true) (hv : dval 0 l < 1844674407370955162) : Lib.atoiAll l = .ok (dval 0 l : Nat) := by
  cases l with
  | nil => exact absurd rfl hn
  | cons c r =>
    have hc := ha
    rw [List.all_cons, Bool.and_eq_true, isDig_iff] at hc
    rw [Lib.atoiAll]
    have h1 : ¬ (c.toNat = 43 ∨ c.toNat = 45) := by omega
    have h2 : ¬ c.toNat = 45 := by omega
    rw [if_neg h1, Lib.parseMag, if_neg (by simp), parseUint_dig _ 0 ha hv]
    simp [h2]
    omega
theorem atoi_dz {n : Int} (h0 : 0 ≤ n) (h1 : n < 1000000000000000000) : Lib.atoiAll (dz n) = .ok n := by
  have hd : dval 0 (dz n) = n.toNat := dval_dec _
  have hp := dec_len_pos n.toNat
  rw [atoi_dig (l := dz n) (fun e => by rw [dz] at e; rw [e] at hp; simp at hp) (dec_all _) (by rw [hd]; omega), hd, Int.toNat_of_nonneg h0]
theorem dz_ne (n : Int) : dz n ≠ [] := fun e => by
  have hp := dec_len_pos n.toNat
  rw [dz] at e; rw [e] at hp; simp at hp
theorem dz_all (n : Int) : (dz n).all isDig = true := dec_all _
theorem dz_inj {n m : Int} (h0 : 0 ≤ n) (h1 : 0 ≤ m) (h : dz n = dz m) : n = m := by
  have h2 : dval 0 (dz n) = dval 0 (dz m) := by rw [h]
  rw [show dval 0 (dz n) = n.toNat from dval_dec _, show dval 0 (dz m) = m.toNat from dval_dec _] at h2
  omega
end Go.Proofs.YteleohgalknkiaaGreatDoor

namespace Go.Proofs.YteleohgalknkiaaGreatDoor
open Go

/-- a weight in grams -/
def gram (n : Int) : List UInt8 := if 1 ≤ n ∧ n ≤ 200000 then dz (n / 1000) ++ 46 :: pad 3 (n % 1000).toNat else []
theorem gram_ok {n : Int} (h : 1 ≤ n ∧ n ≤ 200000) : gram n = dz (n / 1000) ++ 46 :: pad 3 (n % 1000).toNat := by rw [gram, if_pos h]
theorem gram_no {n : Int} (h : ¬ (1 ≤ n ∧ n ≤ 200000)) : gram n = [] := by rw [gram, if_neg h]
theorem gram_len (n : Int) : (gram n).length ≤ 7 := by
  unfold gram
  split
  · have h := dz_len (n := n / 1000) (k := 3) (by omega) (by omega) (by omega)
    rw [List.length_append, List.length_cons, pad_len]; omega
  · simp
theorem gram_ne {n : Int} (h : 1 ≤ n ∧ n ≤ 200000) : gram n ≠ [] := by
  rw [gram_ok h]; simp
theorem rest_eq {n : Int} (h0 : 0 ≤ n) : dz (1000 + n % 1000) = 49 :: pad 3 (n % 1000).toNat := by
  have h1 : (1000 + n % 1000).toNat = 1 * 10 ^ 3 + (n % 1000).toNat := by omega
  rw [dz, h1, dec_pad (by omega) 3 (by omega), Lib.decDigits_one (by omega)]; rfl
theorem pad_all : ∀ (k x : Nat), (pad k x).all isDig = true
  | 0, _ => rfl
  | k + 1, x => by
    have h : isDig (UInt8.ofNat (48 + x % 10)) = true := by rw [isDig_iff, digit_toNat (Nat.mod_lt _ (by omega))]; omega
    rw [pad, List.all_append, pad_all k (x / 10), List.all_cons, h]; rfl
theorem dval_of_pad : ∀ (k : Nat) {x : Nat}, x < 10 ^ k → dval 0 (pad k x) = x
  | 0, x, h => by
    obtain rfl : x = 0 := by simpa using h
    rfl
  | k + 1, x, h => by
    rw [pad, dval_snoc, dval_of_pad k (by rw [Nat.pow_succ] at h; omega), digit_toNat (Nat.mod_lt _ (by omega))]; omega
/-- the digits of a weight -/
theorem gram_dval {n : Int} (h : 1 ≤ n ∧ n ≤ 200000) : dval 0 (dz (n / 1000) ++ pad 3 (n % 1000).toNat) = n.toNat := by
  rw [dval_split, pad_len, dval_of_pad 3 (by omega), show dval 0 (dz (n / 1000)) = (n / 1000).toNat from dval_dec _]; omega
theorem gram_no46 (n : Int) : (46 : UInt8) ∉ dz n := dz_not rfl n
/-- the reference's padded digits -/
theorem sd_eq {m : Nat} : zeros (4 - (Lib.decDigits m).length) ++ Lib.decDigits m = Lib.decDigits (m / 1000) ++ pad 3 (m % 1000) := by
  by_cases h : m / 1000 = 0
  · have h1 : m < 10 ^ 3 := by omega
    have h2 := pad_dec (k := 3) (by omega) h1
    have h3 := nDigits_le (k := 3) (by omega) h1
    have h4 := Lib.nDigits_pos m
    rw [h, dec_zero, show m % 1000 = m by omega, h2, Lib.decDigits_length, show 4 - Lib.nDigits m = (3 - Lib.nDigits m) + 1 by omega, ← zeros_cons]; rfl
  · have h1 := dec_pad (m := m / 1000) (by omega) 3 (x := m % 1000) (by omega)
    rw [show m / 1000 * 10 ^ 3 + m % 1000 = m by omega] at h1
    have h2 := dec_len_pos (m / 1000)
    rw [h1, show 4 - (Lib.decDigits (m / 1000) ++ pad 3 (m % 1000)).length = 0 by rw [List.length_append, pad_len]; omega]; rfl
theorem sd_take (m : Nat) : (Lib.decDigits (m / 1000) ++ pad 3 (m % 1000)).take ((Lib.decDigits (m / 1000) ++ pad 3 (m % 1000)).length - 3) = Lib.decDigits (m / 1000) := by
  rw [List.length_append, pad_len, Nat.add_sub_cancel, List.take_left]
theorem sd_drop (m : Nat) : (Lib.decDigits (m / 1000) ++ pad 3 (m % 1000)).drop ((Lib.decDigits (m / 1000) ++ pad 3 (m % 1000)).length - 3) = pad 3 (m % 1000) := by
  rw [List.length_append, pad_len, Nat.add_sub_cancel, List.drop_left]
theorem gram_nat {m : Nat} (h : 1 ≤ m ∧ m ≤ 200000) : gram (m : Int) = Lib.decDigits (m / 1000) ++ 46 :: pad 3 (m % 1000) := by
  rw [gram_ok (by omega), dz, show ((m : Int) / 1000).toNat = m / 1000 by omega, show ((m : Int) % 1000).toNat = m % 1000 by omega]
/-- what is left of a weight without its point -/
theorem gram_replace {n : Int} (h : 1 ≤ n ∧ n ≤ 200000) : Lib.replace (gram n) [46] [] 1 = dz (n / 1000) ++ pad 3 (n % 1000).toNat := by
  have hi : Lib.index (gram n) [46] = (dz (n / 1000)).length := by
    rw [gram_ok h]; exact index_at 46 [] (pad 3 (n % 1000).toNat) (dz (n / 1000)) (gram_no46 _)
  have hc : 0 < Lib.count (gram n) [46] := by
    rcases Nat.eq_zero_or_pos (Lib.count (gram n) [46]) with h0 | h0
    · unfold Lib.count at h0
      have hl : 0 < (gram n).length := List.length_pos_iff.2 (gram_ne h)
      obtain ⟨k, hk⟩ : ∃ k, (gram n).length = k + 1 := ⟨(gram n).length - 1, by omega⟩
      rw [hk, Lib.countFrom, hi] at h0
      have : ((((dz (n / 1000)).length : Nat) : Int) == -1) = false := by rw [beq_eq_false_iff_ne]; omega
      rw [this] at h0
      simp at h0
    · exact h0
  have hn : Lib.replaceNum (gram n) [46] 1 = 1 := by
    rw [Lib.replaceNum, if_neg (by omega)]; rfl
  rw [Lib.replace, if_neg (by decide), hn, Lib.replaceK_hit _ _ _ _ _ hi, gram_ok h, List.take_left, List.append_nil]
  have hd : (dz (n / 1000) ++ 46 :: pad 3 (n % 1000).toNat).drop ((dz (n / 1000)).length + [(46 : UInt8)].length) = pad 3 (n % 1000).toNat := by
    rw [List.drop_append]; simp
  rw [hd]
  rfl
theorem gram_atoi {n : Int} (h : 1 ≤ n ∧ n ≤ 200000) : Lib.atoiAll (dz (n / 1000) ++ pad 3 (n % 1000).toNat) = .ok n := by
  have hv := gram_dval h
  rw [atoi_dig (by simp [dz_ne]) (by rw [List.all_append, dz_all, pad_all]; rfl) (by rw [hv]; omega), hv, Int.toNat_of_nonneg (by omega)]
theorem gram_inj {n m : Int} (h : 1 ≤ n ∧ n ≤ 200000) (k : 1 ≤ m ∧ m ≤ 200000) (e : gram n = gram m) : n = m := by
  have h1 := gram_atoi h
  rw [← gram_replace h, e, gram_replace k, gram_atoi k] at h1
  injection h1 with h1
  exact h1.symm
/-- what the readers of weights return -/
def PGm (L : List UInt8) (n E : Int) : Prop := (E = 0 ∧ (1 ≤ n ∧ n ≤ 200000) ∧ gram n = L) ∨ (E = 3 ∧ n = 0 ∧ ∀ m, 1 ≤ m ∧ m ≤ 200000 → gram m ≠ L)
theorem PGm.ex (L : List UInt8) : ∃ n E, PGm L n E := by
  by_cases h : ∃ n, (1 ≤ n ∧ n ≤ 200000) ∧ gram n = L
  · obtain ⟨n, h1, h2⟩ := h
    exact ⟨n, 0, .inl ⟨rfl, h1, h2⟩⟩
  · exact ⟨0, 3, .inr ⟨rfl, rfl, fun m h1 h2 => h ⟨m, h1, h2⟩⟩⟩
theorem PGm.of {n E : Int} {m : Int} (hm : 1 ≤ m ∧ m ≤ 200000) (h : PGm (gram m) n E) : n = m ∧ E = 0 := by
  rcases h with ⟨h1, h2, h3⟩ | ⟨_, _, h3⟩
  · exact ⟨gram_inj h2 hm h3, h1⟩
  · exact absurd rfl (h3 m hm)
theorem PGm.nil {n E : Int} (h : PGm [] n E) : n = 0 ∧ E = 3 := by
  rcases h with ⟨_, h2, h3⟩ | ⟨h1, h2, _⟩
  · exact absurd h3 (gram_ne h2)
  · exact ⟨h2, h1⟩
/-- the reference's reader: all digits -/
def accD (n : Nat) (l : List UInt8) : Nat := l.foldl (fun a b => if isDig b then 10 * a + (b.toNat - 48) else a) n
theorem accD_snoc (n : Nat) (l : List UInt8) (b : UInt8) : accD n (l ++ [b]) = if isDig b then 10 * accD n l + (b.toNat - 48) else accD n l := by
  rw [accD, List.foldl_append]; rfl
theorem accD_app (n : Nat) (l m : List UInt8) : accD n (l ++ m) = accD (accD n l) m := by rw [accD, List.foldl_append]; rfl
theorem accD_dig : ∀ (l : List UInt8) (n : Nat), l.all isDig = true → accD n l = dval n l
  | [], _, _ => rfl
  | b :: l, n, h => by
    rw [List.all_cons, Bool.and_eq_true] at h
    have : accD n (b :: l) = accD (if isDig b then 10 * n + (b.toNat - 48) else n) l := rfl
    rw [this, if_pos h.1, accD_dig l _ h.2]; rfl
theorem accD_lt : ∀ (l : List UInt8), accD 0 l < 10 ^ l.length := fun l => by
  have key : ∀ (l : List UInt8) (n : Nat), accD n l < (n + 1) * 10 ^ l.length := by
    intro l
    induction l with
    | nil => intro n; simp [accD]
    | cons b l ih =>
      intro n
      have e : accD n (b :: l) = accD (if isDig b then 10 * n + (b.toNat - 48) else n) l := rfl
      rw [e, List.length_cons, Nat.pow_succ, Nat.mul_comm (10 ^ l.length) 10, ← Nat.mul_assoc]
      refine Nat.lt_of_lt_of_le (ih _) (Nat.mul_le_mul_right _ ?_)
      split
      · next h => rw [isDig_iff] at h; omega
      · omega
  have := key l 0
  omega
theorem gram_acc {n : Int} (h : 1 ≤ n ∧ n ≤ 200000) : accD 0 (gram n) = n.toNat := by
  have h1 := gram_dval h
  rw [gram_ok h, accD_app, accD_dig _ _ (dz_all _)]
  have e : ∀ a, accD a (46 :: pad 3 (n % 1000).toNat) = accD a (pad 3 (n % 1000).toNat) := fun a => rfl
  rw [e, accD_dig _ _ (pad_all _ _), ← dval_append]
  exact h1
end Go.Proofs.YteleohgalknkiaaGreatDoor

namespace Go.Proofs.YteleohgalknkiaaGreatDoor
open Go.RowKit Go.Proofs Go

theorem below_grow (w : World) (k : Nat) (os : Array Obj) : Below w.heap.size w (Go.Sort.grow (w.drewN k) os) := by
  refine ⟨rfl, rfl, rfl, by simp [Go.Sort.grow, World.drewN], fun i hi => ?_⟩
  show (w.heap ++ os)[i]? = w.heap[i]?
  rw [Array.getElem?_append_left hi]
theorem itoa_h {n : Int} {P : List UInt8} (w : World) (hP : Hid (dz n = P)) (h0 : 0 ≤ n) (h1 : n ≤ 9223372036854775807) (hT : Tab w) :
    Calls Tryz.prog 89 #[.int .i64 n] w fun e w' => e = .returned (.string (str P)) ∧ Below w.heap.size w w' := by
  refine (Tryz.strconv_Itoa n (by omega) h1 w hT).mono ?_
  rintro e w' ⟨rfl, k, os, rfl⟩
  obtain ⟨m, rfl⟩ : ∃ m : Nat, n = m := ⟨n.toNat, by omega⟩
  refine ⟨?_, below_grow w k os⟩
  rw [Lib.itoa_nonneg, ← hP.out]; rfl
theorem str_eq {l m : List UInt8} {b : Bool} (h : (l == m) = b) : ((str l).toList == (str m).toList) = b := by rw [str_toList, str_toList]; exact h

end Go.Proofs.YteleohgalknkiaaGreatDoor

namespace Go.Proofs.YteleohgalknkiaaGreatDoor
open Go.RowKit Go.Proofs Go

/-- a variable of an error's type holds a value of that type -/
def Evar (w : World) (g : Nat) : Prop := ∃ ev, w.cell? ⟨g, 0, none⟩ = some ev ∧ (ev = .nilIface ∨ ∃ te pe, ev = .iface te pe)
theorem Evar.ext {w w' : World} {g : Nat} (h : Evar w g) (hb : Below w.heap.size w w') : Evar w' g := by
  obtain ⟨ev, h1, h2⟩ := h
  exact ⟨ev, by rw [hb.cell (cell_lt h1)]; exact h1, h2⟩
/-- the library's variables -/
structure Env (w : World) : Prop where
  tab : Tab w
  mx : ∃ m, w.cell? ⟨0, 0, none⟩ = some (.int .i64 m)
  e1 : Evar w 1
  e2 : Evar w 2
theorem Env.ext {w w' : World} (h : Env w) (hb : Below w.heap.size w w') : Env w' :=
  ⟨h.tab.ext hb, by obtain ⟨m, hm⟩ := h.mx; exact ⟨m, by rw [hb.cell (cell_lt hm)]; exact hm⟩, h.e1.ext hb, h.e2.ext hb⟩
theorem str_of (s : ByteArray) : str s.data.toList = s := by simp [str]
theorem cut_h {c : UInt8} {L P R : List UInt8} {b : Bool} (w : World) (h : Hid (Lib.cut L [c] = (P, R, b))) (hE : Env w) (hL : L.length ≤ 1000000000) :
    Calls Tryz.prog 79 #[.string (str L), .string ⟨#[c]⟩] w fun e w' => e = .returned (.tuple #[.string (str P), .string (str R), .bool b]) ∧ Below w.heap.size w w' := by
  obtain ⟨m, hm⟩ := hE.mx
  refine (Tryz.strings_Cut (str L) ⟨#[c]⟩ m w (by rw [str_size]; omega) hm).mono ?_
  rintro e w' ⟨he, n, rfl⟩
  have hc : Lib.cut (str L).data.toList (⟨#[c]⟩ : ByteArray).data.toList = (P, R, b) := by rw [← h.out]; simp [str]
  rw [hc] at he
  exact ⟨he, drew_below (Below.refl _ _) n⟩
theorem cut2_h {c d : UInt8} {L P R : List UInt8} {b : Bool} (w : World) (h : Hid (Lib.cut L [c, d] = (P, R, b))) (hE : Env w) (hL : L.length ≤ 1000000000) :
    Calls Tryz.prog 79 #[.string (str L), .string ⟨#[c, d]⟩] w fun e w' => e = .returned (.tuple #[.string (str P), .string (str R), .bool b]) ∧ Below w.heap.size w w' := by
  obtain ⟨m, hm⟩ := hE.mx
  refine (Tryz.strings_Cut (str L) ⟨#[c, d]⟩ m w (by rw [str_size]; omega) hm).mono ?_
  rintro e w' ⟨he, n, rfl⟩
  have hc : Lib.cut (str L).data.toList (⟨#[c, d]⟩ : ByteArray).data.toList = (P, R, b) := by rw [← h.out]; simp [str]
  rw [hc] at he
  exact ⟨he, drew_below (Below.refl _ _) n⟩
theorem splitB_str (L : List UInt8) (sb : ByteArray) : Lib.splitB sb 0 (Lib.countB (str L) sb) (str L) = (Lib.split L sb.data.toList).map str := by
  have h := Lib.splitB_data sb 0 (Lib.countB (str L) sb) (str L)
  have h2 : (Lib.splitB sb 0 (Lib.countB (str L) sb) (str L)).map (fun s => str s.data.toList) = Lib.splitB sb 0 (Lib.countB (str L) sb) (str L) := by
    rw [List.map_congr_left (g := id) (fun s _ => str_of s)]; simp
  have h3 := congrArg (List.map str) h
  rw [List.map_map] at h3
  rw [← h2]
  exact h3
theorem split_h {sb : ByteArray} {L : List UInt8} {ws : List (List UInt8)} (w : World) (h : Hid (Lib.split L sb.data.toList = ws)) (hE : Env w) (hL : L.length ≤ 1000000000) (h1 : 1 ≤ sb.size) :
    Calls Tryz.prog 83 #[.string (str L), .string sb] w fun e w' => e = .returned (.slice (some ⟨w.heap.size, 0, none⟩) ws.length ws.length) ∧ w' = w.alloc (.cells (ws.map fun x => Value.string (str x)).toArray 9) := by
  obtain ⟨m, hm⟩ := hE.mx
  refine (Tryz.strings_Split (str L) sb m w (by rw [str_size]; omega) hm h1).mono ?_
  rintro e w' ⟨rfl, rfl⟩
  have h2 := splitB_str L sb
  rw [h.out] at h2
  have hl : Lib.countB (str L) sb + 1 = ws.length := by
    have := congrArg List.length h2
    rw [Lib.splitB_all sb h1 0 _ _ rfl, List.length_map] at this
    exact this
  rw [h2, hl, List.map_map]
  exact ⟨rfl, rfl⟩
theorem atoi_ok {L : List UInt8} {n : Int} (w : World) (h : Hid (Lib.atoiAll L = .ok n)) (hL : L.length ≤ 1000000000) :
    Calls Tryz.prog 80 #[.string (str L)] w fun e w' => e = .returned (.tuple #[.int .i64 n, .nilIface]) ∧ Below w.heap.size w w' := by
  refine (Tryz.strconv_Atoi_ok (str L) (by rw [str_size]; omega) n (by rw [← h.out]; simp [str]) w).mono ?_
  rintro e w' ⟨rfl, hW⟩
  refine ⟨rfl, ?_⟩
  rcases hW with rfl | ⟨t, rfl⟩
  · exact Below.refl _ _
  · exact Lib.bytesWorld_below _ _ _
/-- Atoi where there is no number -/
def RetAbad (w : World) (e : Ending) (w' : World) : Prop := ∃ (v : Int) (N : Nat), e = .returned (.tuple #[.int .i64 v, .iface 170 (.pointer (some ⟨N, 0, none⟩))]) ∧ Below w.heap.size w w'
theorem atoi_bad {L : List UInt8} (w : World) (h : Hid (∀ n, Lib.atoiAll L ≠ .ok n)) (hE : Env w) (hL : L.length ≤ 1000000000) :
    Calls Tryz.prog 80 #[.string (str L)] w (RetAbad w) := by
  have hd : (str L).data.toList = L := by simp [str]
  obtain ⟨ev1, c1, p1⟩ := hE.e1
  obtain ⟨ev2, c2, p2⟩ := hE.e2
  cases hA : Lib.atoiAll L with
  | ok n => exact absurd hA (h.out n)
  | range =>
    refine (Tryz.strconv_Atoi_range (str L) (by rw [str_size]; omega) (by rw [hd]; exact hA) ev2 w c2 p2).mono ?_
    rintro e w' ⟨N, rfl, _, _, hb⟩
    exact ⟨_, N, rfl, hb⟩
  | _ =>
    refine (Any.strconv_Atoi_syntax Tryz.laysC172 (str L) (by rw [str_size]; omega) (by rw [hd]; exact hA) ev1 w c1 p1).mono ?_
    rintro e w' ⟨N, rfl, _, _, hb⟩
    exact ⟨_, N, rfl, hb⟩
end Go.Proofs.YteleohgalknkiaaGreatDoor

namespace Go.Proofs.YteleohgalknkiaaGreatDoor
open Go.RowKit Go.Proofs Go

theorem conv_byte (W : World) {d : Nat} {e : Int} (he : e = (d : Int)) (hd : d < 256) :
    (convert 110 9 (.slice (some ⟨W.heap.size, 0, none⟩) 1 1)).run Tryz.prog (W.alloc (.cells #[.int .u8 e] 5)) = .ok (.string (str [UInt8.ofNat d])) (W.alloc (.cells #[.int .u8 e] 5)) := by
  subst he
  exact run_convert_bytes_back (P := Tryz.prog) (W.alloc (.cells #[.int .u8 (d : Int)] 5)) 110 9 5 ⟨W.heap.size, 0, none⟩ 1 [UInt8.ofNat d] Tryz.underlying110 Tryz.underlying5 Tryz.underlying9 (fun j hj => by
    obtain rfl : j = 0 := by simpa using hj
    have e1 : (UInt8.ofNat d).toNat = d := by rw [UInt8.toNat_ofNat']; omega
    rw [Lib.add_plain, World.cell?_alloc_at _ _ _ _ rfl]
    simp [e1])

set_option maxHeartbeats 1000000 in
set_option maxRecDepth 100000 in
theorem rtext_any (A : Option Addr) (n c : Nat) (l : List Nat) (w : World) (H : Lim w A c l) (hn : n = l.length) (hl : n ≤ 536870912) :
    Calls Tryz.prog 182 #[.agg #[.slice A n c]] w fun e w' => e = .returned (.string (str (Lib.decDigits (val l)))) ∧ Below w.heap.size w w' := by
  have hdl := dig_len_of H.small hn
  have HN := Lib.hid hn
  clear hn
  obtain ⟨N, hN⟩ : ∃ N, val l = N := ⟨_, rfl⟩
  rw [hN] at hdl
  rw [hN]
  have HV := Lib.hid hN
  clear hN
  go_enter Tryz.func182, Tryz.ntmps182
  go_wp2_with fail
  have HX := BL.one w #[.slice A n c] 35
  refine (rnorm_any A n c l _ (H.ext HX.below) HN.out (by omega)).mono ?_
  rw [HV.out]
  rintro e w1 ⟨A1, c1, rfl, H1, hb⟩
  replace HX := HX.ext hb
  have hc00 := HX.cell 0 0 rfl rfl
  have hf00 := HX.free 0 0 rfl
  simp only [] at hc00 hf00
  go_upto_region 2 with fail
  have hk := HX.keep1 0 rfl rfl (.slice A1 (dig N).length c1)
  replace HX := HX.put1 0 rfl (by omega) (by intro k q hk hne; match k, hk with | 0, hk => (simp at hk; subst hk; simp at hne ⊢; try omega) | k + 1, hk => simp at hk) (.slice A1 (dig N).length c1)
  replace H1 := H1.stay hk
  simp only [List.set_cons_zero] at HX
  clear hc00 hf00 hk hb H
  generalize w1.setCell ⟨w.heap.size, 0, none⟩ (.slice A1 (dig N).length c1) = W2 at *
  go_wp2
  go_loopg [3, 4] (dig N).length (fun k x y wr => ∃ j : Nat, j + k = (dig N).length ∧ x = .string (str (pad (9 * j) N)) ∧ y = .int .i64 (j : Int) ∧ Lim wr A1 c1 (dig N) ∧ BL w wr [(w.heap.size, #[.slice A1 (dig N).length c1], 35)])
  case atStart => exact ⟨0, by omega, rfl, rfl, H1, HX⟩
  case round =>
    clear H1 HX
    obtain ⟨j, hj, rfl, rfl, H1, HX⟩ := hrel
    have hc00 := HX.cell 0 0 rfl rfl
    simp only [] at hc00
    by_cases hj0 : j < (dig N).length
    · obtain ⟨ad, rfl, _, hcell⟩ := H1.cellAt (j := j) hj0
      have hd9 := dig_Dig N j
      have hdg := Lib.hid (fun m (hm : m < 9) => limb_digit N j hm)
      generalize at_ (dig N) j = T at *
      go_wp2
      go_loopg [3, 5, 6] 9 (fun k' x y z wr => ∃ m : Nat, m + k' = 9 ∧ x = .string (str (pad (9 * j + m) N)) ∧ y = .int .u32 ((T / 10 ^ m : Nat) : Int) ∧ z = .int .i64 (m : Int) ∧ Lim wr (some ad) c1 (dig N) ∧ BL w wr [(w.heap.size, #[.slice (some ad) (dig N).length c1], 35)])
      case atStart => exact ⟨0, by omega, rfl, by rw [Nat.pow_zero, Nat.div_one], rfl, H1, HX⟩
      case round =>
        clear H1 HX hc00 hcell
        obtain ⟨m, hm, rfl, rfl, rfl, H1, HX⟩ := hrel
        by_cases hm0 : m < 9
        · have hdig := Lib.hid (hdg.out m hm0)
          have hTm : T / 10 ^ m ≤ T := Nat.div_le_self _ _
          have hTs := Lib.hid (show T / 10 ^ (m + 1) = T / 10 ^ m / 10 by rw [Nat.pow_succ, Nat.div_div_eq_div_mul])
          have hpl := pad_len (9 * j + m) N
          generalize T / 10 ^ m = D at *
          have hcv := conv_byte wr (d := 48 + D % 10) (e := 48 + (D : Int) % 10) (by omega) (by omega)
          have hap := Lib.hid (show str [UInt8.ofNat (48 + D % 10)] ++ str (pad (9 * j + m) N) = str (pad (9 * j + (m + 1)) N) by rw [str_append, ← Nat.add_assoc, pad_front, ← hdig.out]; rfl)
          have hs1 : (str [UInt8.ofNat (48 + D % 10)]).size ≤ 1 := Nat.le_of_eq (str_size _)
          generalize UInt8.ofNat (48 + D % 10) = b at *
          have hs2 : (str (pad (9 * j + m) N)).size ≤ 9663676417 := by rw [str_size, hpl]; omega
          go_wp2
          go_roundg (9 - (m + 1))
          case measure => omega
          case rel => exact ⟨m + 1, by omega, by rw [← hap.out], by rw [hTs.out]; go_num, by go_num, H1.ext (below_alloc _ _), HX.ext (below_alloc _ _)⟩
        · obtain rfl : m = 9 := by omega
          go_wp2
          go_roundg ((dig N).length - (j + 1))
          case measure => omega
          case rel => exact ⟨j + 1, by omega, rfl, by go_num, H1, HX⟩
    · have hjn : (dig N).length ≤ j := by omega
      have hlt : N < 10 ^ (9 * j) := by rw [← pw_ten]; exact Nat.lt_of_lt_of_le (dig_lt N) (pw_le hjn)
      have hst := Lib.hid (strip_pad hlt)
      have hpl := pad_len (9 * j) N
      have hjb : j ≤ 536870913 := by omega
      clear hlt hjn
      generalize pad (9 * j) N = L at *
      go_wp2
      go_loopg [3] L.length (fun k x wr' => ∃ M : List UInt8, M.length = k ∧ k ≤ L.length ∧ Hid (strip M = strip L) ∧ x = .string (str M) ∧ wr' = wr)
      case atStart => exact ⟨L, rfl, Nat.le_refl _, Lib.hid rfl, rfl, rfl⟩
      case round =>
        obtain ⟨M, hM, hMl, hstM, rfl, rfl⟩ := hrel
        cases M with
        | nil =>
          have hN0 : Hid (N = 0) := Lib.hid (by
            have h1 := hst.out
            rw [← hstM.out, strip_nil] at h1
            by_cases h : N = 0
            · exact h
            · rw [if_neg h] at h1
              have := dec_len_pos N
              rw [← h1] at this
              simp at this)
          have h0 : (str []).size = 0 := rfl
          have he : (str []).toList.isEmpty = true := by rw [str_toList]; rfl
          go_wp2
          go_ret
          exact ⟨by rw [hN0.out, dec_zero]; rfl, HX.below⟩
        | cons b M =>
          have h0 : (str (b :: M)).size = M.length + 1 := by rw [str_size]; rfl
          have he : (str (b :: M)).toList.isEmpty = false := by rw [str_toList]; rfl
          have hix : ∀ h, (str (b :: M))[0]'h = b := fun _ => rfl
          have hdr := str_drop (b :: M) 1
          rw [List.length_cons, List.drop_succ_cons, List.drop_zero] at hdr
          rw [List.length_cons] at hM
          by_cases hb : b = 48
          · have hb1 : (((b.toNat : Nat) : Int) == 48) = true := by rw [hb]; rfl
            have hs := Lib.hid (show strip M = strip L by rw [← hstM.out, hb, strip_zero])
            clear hb hstM
            go_wp2
            go_roundg M.length
            case measure => omega
            case rel => exact ⟨M, rfl, by omega, hs, by rw [← hM, hdr], by first | rfl | trivial⟩
          · have hb1 : (((b.toNat : Nat) : Int) == 48) = false := by
              rw [beq_eq_false_iff_ne]
              intro h
              exact hb (UInt8.toNat_inj.1 (show b.toNat = 48 by omega))
            have hfin := Lib.hid (show b :: M = Lib.decDigits N by
              have h1 := hst.out
              rw [← hstM.out, strip_ne hb] at h1
              by_cases h : N = 0
              · rw [if_pos h] at h1; cases h1
              · rw [if_neg h] at h1; exact h1)
            clear hb hstM
            go_wp2
            go_ret
            exact ⟨by rw [← hfin.out]; rfl, HX.below⟩
end Go.Proofs.YteleohgalknkiaaGreatDoor
