/- Plain: the coefficient and the distance of hoards: their range, hoards of the same shares, larger hoards, merged hoards. No walk. -/
import Derived.Test.YthempimelfmipaaGreatDoorDMath
import Derived.Lib.ParseIntB
import Derived.Lib.SlTrimSet
import Derived.Lib.Split
import Derived.Lib.AtoiAll
import Derived.Test.YthempimelfmipaaGreatDoorBL
import Derived.Test.YthempimelfmipaaGreatDoorText2
import Derived.Test.YthempimelfmipaaGreatDoorShelf
import Derived.Lib.ItoaMem
import Derived.Test.YthempimelfmipaaGreatDoorHmM
import Derived.Deep.RegionWith
import Derived.Test.YthempimelfmipaaGreatDoorSm1M
namespace Go.Proofs.YthempimelfmipaaGreatDoor
open Go

/-- a byte that is a digit -/
def isDig (b : UInt8) : Bool := decide (48 ≤ b.toNat) && decide (b.toNat ≤ 57)
theorem isDig_iff {b : UInt8} : isDig b = true ↔ 48 ≤ b.toNat ∧ b.toNat ≤ 57 := by simp [isDig]
/-- the value of a row of digits, behind the value a of what stands ahead -/
def dval (a : Nat) (l : List UInt8) : Nat := l.foldl (fun a b => 10 * a + (b.toNat - 48)) a
theorem dval_nil (a : Nat) : dval a [] = a := rfl
theorem dval_cons (a : Nat) (b : UInt8) (l : List UInt8) : dval a (b :: l) = dval (10 * a + (b.toNat - 48)) l := by simp only [dval, List.foldl_cons]
theorem dval_append (a : Nat) (l m : List UInt8) : dval a (l ++ m) = dval (dval a l) m := by unfold dval; rw [List.foldl_append]
theorem dval_snoc (a : Nat) (l : List UInt8) (b : UInt8) : dval a (l ++ [b]) = 10 * dval a l + (b.toNat - 48) := by rw [dval_append, dval_cons, dval_nil]
theorem dval_acc (a : Nat) : ∀ l : List UInt8, dval a l = a * 10 ^ l.length + dval 0 l
  | [] => by simp [dval]
  | b :: l => by
    rw [dval_cons, dval_cons, dval_acc _ l, dval_acc (10 * 0 + (b.toNat - 48)) l, List.length_cons, Nat.pow_succ]
    generalize 10 ^ l.length = p
    generalize dval 0 l = v
    generalize b.toNat - 48 = d
    grind
theorem dval_split (l m : List UInt8) : dval 0 (l ++ m) = dval 0 l * 10 ^ m.length + dval 0 m := by rw [dval_append, dval_acc]
theorem dval_lt : ∀ {l : List UInt8}, l.all isDig = true → dval 0 l < 10 ^ l.length
  | [], _ => by simp [dval]
  | b :: l, h => by
    rw [List.all_cons, Bool.and_eq_true] at h
    obtain ⟨h1, h2⟩ := h
    have h3 := dval_lt h2
    rw [isDig_iff] at h1
    rw [dval_cons, dval_acc, List.length_cons, Nat.pow_succ]
    generalize 10 ^ l.length = p at *
    generalize dval 0 l = v at *
    obtain ⟨d, hd⟩ : ∃ d, b.toNat - 48 = d := ⟨_, rfl⟩
    rw [hd, Nat.mul_zero, Nat.zero_add]
    have : d * p ≤ 9 * p := Nat.mul_le_mul_right p (by omega)
    omega
/-- a row of digits is its value, with zeros ahead -/
theorem dval_pad : ∀ (k : Nat) (l : List UInt8), l.length = k → l.all isDig = true → l = pad k (dval 0 l)
  | 0, l, hk, _ => by
    obtain rfl := List.length_eq_zero_iff.1 hk
    rfl
  | k + 1, l, hk, h => by
    obtain ⟨m, b, rfl⟩ : ∃ m b, l = m ++ [b] := by
      rcases List.eq_nil_or_concat l with e | ⟨m, b, e⟩
      · rw [e] at hk; simp at hk
      · exact ⟨m, b, by rw [e, List.concat_eq_append]⟩
    rw [List.all_append, Bool.and_eq_true] at h
    obtain ⟨h1, h2⟩ := h
    have hb : isDig b = true := by simpa using h2
    rw [isDig_iff] at hb
    have hm : m.length = k := by simp at hk; exact hk
    have ih := dval_pad k m hm h1
    rw [dval_snoc, pad]
    have e1 : (10 * dval 0 m + (b.toNat - 48)) / 10 = dval 0 m := by omega
    have e2 : (10 * dval 0 m + (b.toNat - 48)) % 10 = b.toNat - 48 := by omega
    rw [e1, e2, ← ih, show 48 + (b.toNat - 48) = b.toNat by omega, UInt8.ofNat_toNat]
theorem digit_toNat {d : Nat} (h : d < 10) : (UInt8.ofNat (48 + d)).toNat = 48 + d := by
  rw [UInt8.toNat_ofNat']; omega
theorem dec_all (n : Nat) : (Lib.decDigits n).all isDig = true := by
  induction n using Nat.strongRecOn with
  | _ n ih =>
    by_cases h : n < 10
    · rw [Lib.decDigits_one h]
      simp only [List.all_cons, List.all_nil, Bool.and_true]
      rw [isDig_iff, digit_toNat h]; omega
    · have hd : Lib.decDigits n = Lib.decDigits (n / 10) ++ [UInt8.ofNat (48 + n % 10)] := by rw [Lib.decDigits, dif_neg h]
      rw [hd, List.all_append, ih _ (by omega)]
      simp only [List.all_cons, List.all_nil, Bool.and_true, Bool.true_and]
      rw [isDig_iff, digit_toNat (by omega)]; omega
theorem dval_dec (n : Nat) : dval 0 (Lib.decDigits n) = n := by
  induction n using Nat.strongRecOn with
  | _ n ih =>
    by_cases h : n < 10
    · rw [Lib.decDigits_one h, dval_cons, dval_nil, digit_toNat h]; omega
    · have hd : Lib.decDigits n = Lib.decDigits (n / 10) ++ [UInt8.ofNat (48 + n % 10)] := by rw [Lib.decDigits, dif_neg h]
      rw [hd, dval_snoc, ih _ (by omega), digit_toNat (by omega)]; omega
/-- the decimal form of a number -/
def numeral (l : List UInt8) : Bool := l == Lib.decDigits (dval 0 l)
theorem numeral_iff {l : List UInt8} : numeral l = true ↔ l = Lib.decDigits (dval 0 l) := by simp [numeral]
theorem numeral_dec (n : Nat) : numeral (Lib.decDigits n) = true := by rw [numeral_iff, dval_dec]
theorem numeral_all {l : List UInt8} (h : numeral l = true) : l.all isDig = true := by rw [numeral_iff.1 h]; exact dec_all _
theorem numeral_ne {l : List UInt8} (h : numeral l = true) : l ≠ [] := by
  intro e
  have := dec_len_pos (dval 0 l)
  rw [← numeral_iff.1 h, e] at this
  simp at this
/-- digits, one or more, no zero ahead of another one: a numeral -/
theorem numeral_of {l : List UInt8} (hn : l ≠ []) (ha : l.all isDig = true) (hz : l = [48] ∨ l.head? ≠ some 48) : numeral l = true := by
  rcases hz with rfl | hz
  · decide +kernel
  · rw [numeral_iff]
    have hp := dval_pad l.length l rfl ha
    have hl := dval_lt ha
    have h1 : 1 ≤ l.length := by
      cases l with
      | nil => exact absurd rfl hn
      | cons _ _ => simp
    rw [pad_dec h1 hl] at hp
    cases hk : l.length - Lib.nDigits (dval 0 l) with
    | zero => rw [hk] at hp; simpa [zeros] using hp
    | succ k =>
      rw [hk, ← zeros_cons] at hp
      exfalso
      apply hz
      rw [hp]; rfl
theorem numeral_head {l : List UInt8} (h : numeral l = true) : l = [48] ∨ l.head? ≠ some 48 := by
  have e := numeral_iff.1 h
  rcases Nat.eq_zero_or_pos (dval 0 l) with h0 | h0
  · left; rw [e, h0, dec_zero]
  · right
    obtain ⟨c, m, e2, hc⟩ := dec_head h0
    rw [e, e2]
    simpa using hc
/-- what the package looks at -/
theorem numeral_test (l : List UInt8) : numeral l = (l.all isDig && !(l == [] || (l.head? == some 48 && !(l == [48])))) := by
  rw [Bool.eq_iff_iff]
  constructor
  · intro h
    have h1 := numeral_all h
    have h2 := numeral_ne h
    have h3 := numeral_head h
    rw [h1]
    rcases h3 with h3 | h3
    · rw [h3]; decide
    · simp [h2, h3]
  · intro h
    simp only [Bool.and_eq_true, Bool.not_eq_true', Bool.or_eq_false_iff, Bool.and_eq_false_iff, beq_eq_false_iff_ne, Bool.not_eq_false', beq_iff_eq] at h
    obtain ⟨h1, h2, h3⟩ := h
    exact numeral_of h2 h1 h3.symm

/-- the limbs of a row of digits, nine by nine from the end -/
structure Chunks (l : List UInt8) (k : Nat) (o : List Nat) : Prop where
  len : o.length = k
  dig : Dig o
  eq : dval 0 l = dval 0 (l.take (l.length - 9 * k)) * pw k + val o
theorem Chunks.zero (l : List UInt8) : Chunks l 0 [] := ⟨rfl, Dig.nil, by rw [Nat.mul_zero, Nat.sub_zero, List.take_length, pw_zero, Nat.mul_one, val_nil, Nat.add_zero]⟩
def chunk (l : List UInt8) (k : Nat) : List UInt8 := (l.take (l.length - 9 * k)).drop (l.length - 9 * (k + 1))
theorem chunk_len (l : List UInt8) (k : Nat) : (chunk l k).length ≤ 9 := by simp [chunk]; omega
theorem all_drop_take {l : List UInt8} (h : l.all isDig = true) (a b : Nat) : ((l.take a).drop b).all isDig = true := by
  rw [List.all_eq_true] at *
  exact fun x hx => h x (List.mem_of_mem_take (List.mem_of_mem_drop hx))
theorem chunk_all {l : List UInt8} (h : l.all isDig = true) (k : Nat) : (chunk l k).all isDig = true := all_drop_take h _ _
theorem chunk_lt {l : List UInt8} (h : l.all isDig = true) (k : Nat) : dval 0 (chunk l k) < 1000000000 := by
  have h1 := dval_lt (chunk_all h k)
  have h2 : 10 ^ (chunk l k).length ≤ 10 ^ 9 := Nat.pow_le_pow_right (by omega) (chunk_len l k)
  exact Nat.lt_of_lt_of_le h1 (Nat.le_trans h2 (by decide))
theorem Chunks.next {l : List UInt8} {k : Nat} {o : List Nat} (h : Chunks l k o) (ha : l.all isDig = true) (hk : 9 * k < l.length) : Chunks l (k + 1) (o ++ [dval 0 (chunk l k)]) := by
  refine ⟨by rw [List.length_append, h.len]; rfl, h.dig.snoc (chunk_lt ha k), ?_⟩
  rw [val_snoc, h.len, h.eq]
  have hs : l.take (l.length - 9 * k) = l.take (l.length - 9 * (k + 1)) ++ chunk l k := by
    rw [chunk]
    conv => lhs; rw [← List.take_append_drop (l.length - 9 * (k + 1)) (l.take (l.length - 9 * k))]
    rw [List.take_take, Nat.min_eq_left (by omega)]
  rw [hs, dval_split]
  by_cases h9 : l.length ≤ 9 * (k + 1)
  · rw [show l.length - 9 * (k + 1) = 0 by omega, List.take_zero, dval_nil, Nat.zero_mul, Nat.zero_mul, Nat.zero_add, Nat.zero_add, Nat.mul_comm]
    omega
  · have hl : (chunk l k).length = 9 := by simp [chunk]; omega
    rw [hl, pw_succ, show (10 : Nat) ^ 9 = 1000000000 from rfl]
    generalize dval 0 (l.take (l.length - 9 * (k + 1))) = x
    generalize dval 0 (chunk l k) = y
    generalize pw k = p
    grind
theorem Chunks.val {l : List UInt8} {k : Nat} {o : List Nat} (h : Chunks l k o) (hk : l.length ≤ 9 * k) : Go.Proofs.YthempimelfmipaaGreatDoor.val o = dval 0 l := by
  rw [h.eq, show l.length - 9 * k = 0 by omega, List.take_zero, dval_nil]; simp
theorem chunk_ne {l : List UInt8} {k : Nat} (hk : 9 * k < l.length) : chunk l k ≠ [] := by
  intro e
  have := congrArg List.length e
  simp [chunk] at this
  omega

/-- the library's reading of a row of digits -/
theorem parseM_dig {M : Nat} (hM : M < 1844674407370955162) : ∀ (l : List UInt8) (a : Nat), l.all isDig = true → dval a l ≤ M → Lib.parseUintM M a l = .ok (dval a l)
  | [], a, _, _ => rfl
  | c :: r, a, h, hv => by
    rw [List.all_cons, Bool.and_eq_true] at h
    obtain ⟨h1, h2⟩ := h
    rw [isDig_iff] at h1
    rw [dval_cons] at hv ⊢
    have hge : 10 * a + (c.toNat - 48) ≤ dval (10 * a + (c.toNat - 48)) r := by
      rw [dval_acc]
      have : 1 ≤ 10 ^ r.length := Nat.one_le_pow _ _ (by decide)
      have := Nat.le_mul_of_pos_right (10 * a + (c.toNat - 48)) (show 0 < 10 ^ r.length by omega)
      omega
    rw [Lib.parseUintM, if_pos h1, if_neg (by omega), if_neg (by omega), Nat.mul_comm a 10]
    exact parseM_dig hM r _ h2 hv
theorem parseB32_chunk {l : List UInt8} (h : l.all isDig = true) {k : Nat} (hk : 9 * k < l.length) : Lib.parseUintB 32 (chunk l k) = .ok (dval 0 (chunk l k)) := by
  rw [Lib.parseUintB, if_neg (chunk_ne hk)]
  have := chunk_lt h k
  exact parseM_dig (by decide) _ _ (chunk_all h k) (by omega)

/-- trimming the digits away -/
def ten : List UInt8 := [48, 49, 50, 51, 52, 53, 54, 55, 56, 57]
theorem ten_iff (b : UInt8) : ten.contains b = isDig b := by
  have h : ∀ x : Fin 256, ten.contains (UInt8.ofNat x.val) = isDig (UInt8.ofNat x.val) := by decide +kernel
  have := h ⟨b.toNat, b.toNat_lt⟩
  simpa using this
theorem mem_dropWhile {p : UInt8 → Bool} {x : UInt8} (hx : p x = false) : ∀ {l : List UInt8}, x ∈ l → x ∈ l.dropWhile p
  | c :: l, h => by
    rw [List.dropWhile_cons]
    split
    · rename_i hc
      rcases List.mem_cons.1 h with rfl | h
      · rw [hx] at hc; cases hc
      · exact mem_dropWhile hx h
    · exact h
theorem dropWhile_all {p : UInt8 → Bool} : ∀ {l : List UInt8}, (∀ x ∈ l, p x = true) → l.dropWhile p = []
  | [], _ => rfl
  | c :: l, h => by
    rw [List.dropWhile_cons, if_pos (h c List.mem_cons_self)]
    exact dropWhile_all (fun x hx => h x (List.mem_cons_of_mem _ hx))
theorem trim_nil (l : List UInt8) : Lib.trimS l ten = [] ↔ l.all isDig = true := by
  constructor
  · intro h
    rw [List.all_eq_true]
    intro x hx
    cases hd : isDig x with
    | true => rfl
    | false =>
      exfalso
      have hc : ten.contains x = false := by rw [ten_iff, hd]
      have h1 : x ∈ Lib.trimRightS l ten := by
        rw [Lib.trimRightS, List.mem_reverse]
        exact mem_dropWhile hc (List.mem_reverse.2 hx)
      have h2 : x ∈ Lib.trimS l ten := mem_dropWhile hc h1
      rw [h] at h2
      cases h2
  · intro h
    have h1 : Lib.trimRightS l ten = [] := by
      rw [Lib.trimRightS, List.reverse_eq_nil_iff]
      refine dropWhile_all fun x hx => ?_
      rw [ten_iff]
      exact List.all_eq_true.1 h x (List.mem_reverse.1 hx)
    rw [Lib.trimS, h1]; rfl
end Go.Proofs.YthempimelfmipaaGreatDoor

namespace Go.Proofs.YthempimelfmipaaGreatDoor
open Go


/-- the digits of a number that is not negative -/
def dz (n : Int) : List UInt8 := Lib.decDigits n.toNat
theorem dz_len {n : Int} {k : Nat} (h : n < 10 ^ k) (hk : 1 ≤ k) (h0 : 0 ≤ n) : (dz n).length ≤ k := by
  rw [dz, Lib.decDigits_length]
  refine nDigits_le hk ?_
  have : ((n.toNat : Nat) : Int) < ((10 ^ k : Nat) : Int) := by rw [Int.toNat_of_nonneg h0]; exact_mod_cast h
  exact_mod_cast this
theorem index_at (c : UInt8) (p b : List UInt8) : ∀ a : List UInt8, c ∉ a → Lib.index (a ++ (c :: p ++ b)) (c :: p) = a.length
  | [], _ => by
    unfold Lib.index
    have h : (c :: p).isPrefixOf ([] ++ (c :: p ++ b)) = true := by rw [List.nil_append, List.isPrefixOf_iff_prefix]; exact List.prefix_append _ _
    rw [List.nil_append] at h ⊢
    rw [List.cons_append] at h ⊢
    simp only [h, if_true]; rfl
  | x :: a, h => by
    have hx : (c :: p).isPrefixOf (x :: (a ++ (c :: p ++ b))) = false := by
      have hne : c ≠ x := fun e => h (by rw [e]; exact List.mem_cons_self)
      rw [List.isPrefixOf, beq_eq_false_iff_ne.2 hne]; rfl
    have ih := index_at c p b a (fun e => h (List.mem_cons_of_mem _ e))
    rw [List.cons_append]
    unfold Lib.index
    rw [hx, ih]
    have : ((a.length : Int) == -1) = false := by rw [beq_eq_false_iff_ne]; omega
    simp [this]
theorem cut_at (c : UInt8) (p a b : List UInt8) (h : c ∉ a) : Lib.cut (a ++ (c :: p ++ b)) (c :: p) = (a, b, true) := by
  rw [Lib.cut, index_at c p b a h, if_pos (by omega)]
  have h1 : ((a.length : Int)).toNat = a.length := by omega
  rw [h1, List.take_left, List.drop_append]
  simp
theorem index_miss (c : UInt8) (p : List UInt8) : ∀ a : List UInt8, c ∉ a → Lib.index a (c :: p) = -1
  | [], _ => rfl
  | x :: a, h => by
    have hx : (c :: p).isPrefixOf (x :: a) = false := by
      have hne : c ≠ x := fun e => h (by rw [e]; exact List.mem_cons_self)
      rw [List.isPrefixOf, beq_eq_false_iff_ne.2 hne]; rfl
    have ih := index_miss c p a (fun e => h (List.mem_cons_of_mem _ e))
    unfold Lib.index
    rw [hx, ih]; rfl
theorem cut_none (c : UInt8) (p a : List UInt8) (h : c ∉ a) : Lib.cut a (c :: p) = (a, [], false) := by
  rw [Lib.cut, index_miss c p a h, if_neg (by omega)]
theorem dz_not {c : UInt8} (h : isDig c = false) (n : Int) : c ∉ dz n := fun m => by
  have h1 := List.all_eq_true.1 (dec_all n.toNat) c m
  rw [h] at h1; cases h1
/-- the number at the beginning of a text, of at most k digits, and the rest (the reference's reader) -/
def numK : Nat → List UInt8 → Nat → Nat × List UInt8
  | 0, l, n => (n, l)
  | _ + 1, [], n => (n, [])
  | k + 1, b :: l, n => if isDig b then numK k l (10 * n + (b.toNat - 48)) else (n, b :: l)
theorem numK_app : ∀ (l r : List UInt8) (k n : Nat), l.all isDig = true → l.length ≤ k → (∀ b r', r = b :: r' → isDig b = false) → numK k (l ++ r) n = (dval n l, r)
  | [], r, k, n, _, _, hr => by
    cases k with
    | zero => rfl
    | succ k =>
      cases r with
      | nil => rfl
      | cons b r' => rw [List.nil_append, numK, hr b r' rfl]; rfl
  | b :: l, r, k, n, hl, hk, hr => by
    obtain ⟨k, rfl⟩ : ∃ j, k = j + 1 := ⟨k - 1, by simp at hk; omega⟩
    rw [List.all_cons, Bool.and_eq_true] at hl
    rw [List.cons_append, numK, if_pos hl.1, numK_app l r k _ hl.2 (by simp at hk; omega) hr]
    rfl
theorem numK_dz {n : Int} {k : Nat} (h0 : 0 ≤ n) (h : n < 10 ^ k) (hk : 1 ≤ k) {r : List UInt8} (hr : ∀ b r', r = b :: r' → isDig b = false) : numK k (dz n ++ r) 0 = (n.toNat, r) := by
  rw [numK_app (dz n) r k 0 (dec_all _) (dz_len h hk h0) hr, dz, dval_dec]
theorem numK_lt : ∀ (k : Nat) (l : List UInt8) (n : Nat), (numK k l n).1 < (n + 1) * 10 ^ k
  | 0, l, n => by rw [numK]; simp
  | k + 1, [], n => by
    rw [numK]
    have : 0 < 10 ^ (k + 1) := Nat.pow_pos (by omega)
    calc n < n + 1 := by omega
      _ ≤ (n + 1) * 10 ^ (k + 1) := Nat.le_mul_of_pos_right _ this
  | k + 1, b :: l, n => by
    rw [numK]
    split
    · next hb =>
      have h1 := isDig_iff.1 hb
      have h2 := numK_lt k l (10 * n + (b.toNat - 48))
      refine Nat.lt_of_lt_of_le h2 ?_
      rw [Nat.pow_succ, Nat.mul_comm (10 ^ k) 10, ← Nat.mul_assoc]
      exact Nat.mul_le_mul_right _ (by omega)
    · have : 0 < 10 ^ (k + 1) := Nat.pow_pos (by omega)
      calc n < n + 1 := by omega
        _ ≤ (n + 1) * 10 ^ (k + 1) := Nat.le_mul_of_pos_right _ this
/-- words, each behind a separator -/
def sepd (s : List UInt8) (ws : List (List UInt8)) : List UInt8 := ws.flatMap fun w => s ++ w
theorem sepd_cons (s w : List UInt8) (ws : List (List UInt8)) : sepd s (w :: ws) = s ++ (w ++ sepd s ws) := by simp [sepd]
theorem split_sepd (c : UInt8) (p : List UInt8) : ∀ (ws : List (List UInt8)) (w : List UInt8) (k : Nat), c ∉ w → (∀ x ∈ ws, c ∉ x) → ws.length ≤ k → Lib.splitK (c :: p) 0 k (w ++ sepd (c :: p) ws) = w :: ws
  | [], w, k, h, _, _ => by
    have h1 : w ++ sepd (c :: p) [] = w := by simp [sepd]
    rw [h1]
    cases k with
    | zero => rfl
    | succ k => rw [Lib.splitK, index_miss c p w h]; rfl
  | x :: ws, w, k, h, hx, hk => by
    obtain ⟨k, rfl⟩ : ∃ j, k = j + 1 := ⟨k - 1, by simp at hk; omega⟩
    rw [sepd_cons, Lib.splitK, index_at c p _ w h]
    have h2 : ((w.length : Int) == -1) = false := by rw [beq_eq_false_iff_ne]; omega
    have h3 : ((w.length : Int)).toNat = w.length := by omega
    have hd : (w ++ (c :: p ++ (x ++ sepd (c :: p) ws))).drop (w.length + (c :: p).length) = x ++ sepd (c :: p) ws := by
      rw [← List.append_assoc, show w.length + (c :: p).length = (w ++ c :: p).length by simp, List.drop_left]
    rw [h2, h3, Nat.add_zero, List.take_left, hd]
    have ih := split_sepd c p ws x k (hx x List.mem_cons_self) (fun y hy => hx y (List.mem_cons_of_mem _ hy)) (by simp at hk; omega)
    rw [ih]; rfl
theorem count_sepd (c : UInt8) (p : List UInt8) : ∀ (ws : List (List UInt8)) (w : List UInt8) (f : Nat), c ∉ w → (∀ x ∈ ws, c ∉ x) → ws.length + 1 ≤ f → Lib.countFrom (c :: p) f (w ++ sepd (c :: p) ws) = ws.length
  | [], w, f, h, _, hf => by
    obtain ⟨f, rfl⟩ : ∃ j, f = j + 1 := ⟨f - 1, by simp at hf; omega⟩
    have h1 : w ++ sepd (c :: p) [] = w := by simp [sepd]
    rw [h1, Lib.countFrom, index_miss c p w h]; rfl
  | x :: ws, w, f, h, hx, hf => by
    obtain ⟨f, rfl⟩ : ∃ j, f = j + 1 := ⟨f - 1, by simp at hf; omega⟩
    rw [sepd_cons, Lib.countFrom, index_at c p _ w h]
    have h2 : ((w.length : Int) == -1) = false := by rw [beq_eq_false_iff_ne]; omega
    have h3 : ((w.length : Int)).toNat = w.length := by omega
    have hd : (w ++ (c :: p ++ (x ++ sepd (c :: p) ws))).drop (w.length + (c :: p).length) = x ++ sepd (c :: p) ws := by
      rw [← List.append_assoc, show w.length + (c :: p).length = (w ++ c :: p).length by simp, List.drop_left]
    rw [h2, h3, hd]
    have ih := count_sepd c p ws x f (hx x List.mem_cons_self) (fun y hy => hx y (List.mem_cons_of_mem _ hy)) (by simp at hf; omega)
    rw [ih]; simp; omega
theorem sepd_len (c : UInt8) (p : List UInt8) (ws : List (List UInt8)) : ws.length ≤ (sepd (c :: p) ws).length := by
  induction ws with
  | nil => simp
  | cons w ws ih => rw [sepd_cons]; simp; omega
theorem split_at (c : UInt8) (p : List UInt8) (w : List UInt8) (ws : List (List UInt8)) (h : c ∉ w) (hx : ∀ x ∈ ws, c ∉ x) : Lib.split (w ++ sepd (c :: p) ws) (c :: p) = w :: ws := by
  rw [Lib.split, Lib.count, count_sepd _ _ _ _ _ h hx (by have := sepd_len c p ws; rw [List.length_append]; omega), split_sepd _ _ _ _ _ h hx (Nat.le_refl _)]
/-- the library reads a row of digits as its value -/
theorem parseUint_dig : ∀ (l : List UInt8) (a : Nat), l.all isDig = true → dval a l < 1844674407370955162 → Lib.parseUint10 a l = .ok (dval a l)
  | [], a, _, _ => rfl
  | c :: r, a, h, hv => by
    rw [List.all_cons, Bool.and_eq_true] at h
    obtain ⟨h1, h2⟩ := h
    rw [isDig_iff] at h1
    rw [dval_cons] at hv ⊢
    have hge : 10 * a + (c.toNat - 48) ≤ dval (10 * a + (c.toNat - 48)) r := by
      rw [dval_acc]
      have : 1 ≤ 10 ^ r.length := Nat.one_le_pow _ _ (by decide)
      have := Nat.le_mul_of_pos_right (10 * a + (c.toNat - 48)) (show 0 < 10 ^ r.length by omega)
      omega
    rw [Lib.parseUint10, if_pos h1, if_neg (by omega), if_neg (by omega), Nat.mul_comm a 10]
    exact parseUint_dig r _ h2 hv
theorem atoi_dig {l : List UInt8} (hn : l ≠ []) (ha : l.all isDig = true) (hv : dval 0 l < 1844674407370955162) : Lib.atoiAll l = .ok (dval 0 l : Nat) := by
  cases l with
  | nil => exact absurd rfl hn
  | cons c r =>
    have hc := ha
    rw [List.all_cons, Bool.and_eq_true, isDig_iff] at hc
    rw [Lib.atoiAll]
    have h1 : ¬ (c.toNat = 43 ∨ c.toNat = 45) := by omega
    have h2 : ¬ c.toNat = 45 := by omega
    rw [if_neg h1, Lib.parseMag, if_neg (by simp), parseUint_dig _ 0 ha hv]
    simp [h2]
    omega
theorem atoi_dz {n : Int} (h0 : 0 ≤ n) (h1 : n < 1000000000000000000) : Lib.atoiAll (dz n) = .ok n := by
  have hd : dval 0 (dz n) = n.toNat := dval_dec _
  have hp := dec_len_pos n.toNat
  rw [atoi_dig (l := dz n) (fun e => by rw [dz] at e; rw [e] at hp; simp at hp) (dec_all _) (by rw [hd]; omega), hd, Int.toNat_of_nonneg h0]
theorem dz_ne (n : Int) : dz n ≠ [] := fun e => by
  have hp := dec_len_pos n.toNat
  rw [dz] at e; rw [e] at hp; simp at hp
theorem dz_all (n : Int) : (dz n).all isDig = true := dec_all _
theorem dz_inj {n m : Int} (h0 : 0 ≤ n) (h1 : 0 ≤ m) (h : dz n = dz m) : n = m := by
  have h2 : dval 0 (dz n) = dval 0 (dz m) := by rw [h]
  rw [show dval 0 (dz n) = n.toNat from dval_dec _, show dval 0 (dz m) = m.toNat from dval_dec _] at h2
  omega
end Go.Proofs.YthempimelfmipaaGreatDoor

namespace Go.Proofs.YthempimelfmipaaGreatDoor
open Go.RowKit Go.Proofs Go

theorem below_grow (w : World) (k : Nat) (os : Array Obj) : Below w.heap.size w (Go.Sort.grow (w.drewN k) os) := by
  refine ⟨rfl, rfl, rfl, by simp [Go.Sort.grow, World.drewN], fun i hi => ?_⟩
  show (w.heap ++ os)[i]? = w.heap[i]?
  rw [Array.getElem?_append_left hi]
theorem str_eq {l m : List UInt8} {b : Bool} (h : (l == m) = b) : ((str l).toList == (str m).toList) = b := by rw [str_toList, str_toList]; exact h

end Go.Proofs.YthempimelfmipaaGreatDoor

namespace Go.Proofs.YthempimelfmipaaGreatDoor
open Go.RowKit Go.Proofs Go

/-- a builder that holds acc, all that has turned lying from its block on -/
structure BB (w1 : World) (b : Nat) (acc : List UInt8) (W : World) : Prop where
  i : Lib.IsBuilder 119 5 b b (Lib.byteCells acc) W
  r : Below b w1 W
theorem BB.ext {w1 W W' : World} {b : Nat} {acc : List UInt8} (h : BB w1 b acc W) (hb : Below W.heap.size W W') : BB w1 b acc W' :=
  ⟨isBuilder_ext h.i hb, h.r.trans (hb.mono (by have := isBuilder_lt h.i; omega))⟩
theorem ws_any {w1 w : World} {b : Nat} {acc S : List UInt8} {s : ByteArray} (h : BB w1 b acc w) (hs : Hid (s = str S)) (hl : acc.length + S.length ≤ 100000) :
    Calls Tryz.prog 105 #[.pointer (some ⟨b, 0, none⟩), .string s] w fun e w' => e = .returned (.tuple #[.int .i64 s.size, .nilIface]) ∧ BB w1 b (acc ++ S) w' := by
  have hlt := isBuilder_lt h.i
  have hss := hs.out
  refine (writeString_any b b _ s w h.i (by rw [byteCells_len, hss, str_size]; omega) (by omega)).mono ?_
  rintro e w' ⟨rfl, hI, hb⟩
  rw [hss, strCells_str, byteCells_append] at hI
  exact ⟨rfl, .inr hI, h.r.trans hb⟩
/-- a year's number in its era; the era -/
def ynum (n : Int) : Int := if 0 < n then n else 1 - n
def yera (n : Int) : List UInt8 := if 0 < n then [32, 65, 68] else [32, 66, 67]
def yearText (f t : Int) : List UInt8 :=
  if f = t then dz (ynum f) ++ yera f else if yera f = yera t then dz (ynum f) ++ 45 :: dz (ynum t) ++ yera f else dz (ynum f) ++ yera f ++ 45 :: (dz (ynum t) ++ yera t)
theorem yera_len (n : Int) : (yera n).length = 3 := by rw [yera]; split <;> rfl
/-- the text of a hoard -/
def coinText (x : Int × Int) : List UInt8 := 32 :: (dz x.1 ++ 120 :: dz x.2)
def coinsText (l : List (Int × Int)) : List UInt8 := l.flatMap coinText
def headText (id : Int) : List UInt8 := 72 :: (dz id ++ [58])
def hoardText (id : Int) (l : List (Int × Int)) (f t : Int) : List UInt8 := headText id ++ coinsText l ++ (59 :: 32 :: yearText f t)
theorem coinsText_succ {l : List (Int × Int)} {k : Nat} {x : Int × Int} (h : l[k]? = some x) : coinsText (l.take (k + 1)) = coinsText (l.take k) ++ coinText x := by
  rw [take_succ h, coinsText, List.flatMap_append]; simp [coinsText]
theorem coinText_len {x : Int × Int} (h : (1 ≤ x.1 ∧ x.1 ≤ 99) ∧ (1 ≤ x.2 ∧ x.2 ≤ 999)) : (dz x.1).length ≤ 2 ∧ (dz x.2).length ≤ 3 ∧ (coinText x).length ≤ 7 := by
  have h1 : (dz x.1).length ≤ 2 := dz_len (by omega) (by omega) (by omega)
  have h2 : (dz x.2).length ≤ 3 := dz_len (by omega) (by omega) (by omega)
  refine ⟨h1, h2, ?_⟩
  rw [coinText]; simp; omega
theorem coinsText_len {l : List (Int × Int)} (h : ∀ x ∈ l, (1 ≤ x.1 ∧ x.1 ≤ 99) ∧ (1 ≤ x.2 ∧ x.2 ≤ 999)) : (coinsText l).length ≤ 7 * l.length := by
  induction l with
  | nil => simp [coinsText]
  | cons x l ih =>
    have := ih fun y hy => h y (List.mem_cons_of_mem _ hy)
    have h2 := (coinText_len (h x List.mem_cons_self)).2.2
    have : coinsText (x :: l) = coinText x ++ coinsText l := rfl
    rw [this, List.length_append, List.length_cons]; omega
theorem yearText_len {f t : Int} (hv : YV f t) : (yearText f t).length ≤ 20 := by
  obtain ⟨h1, ⟨h2, h3⟩, h4, h5⟩ := hv
  have a : (dz (ynum f)).length ≤ 5 := dz_len (by rw [ynum]; split <;> omega) (by omega) (by rw [ynum]; split <;> omega)
  have b : (dz (ynum t)).length ≤ 5 := dz_len (by rw [ynum]; split <;> omega) (by omega) (by rw [ynum]; split <;> omega)
  have c := yera_len f
  have d := yera_len t
  rw [yearText]
  split
  · simp; omega
  · split <;> simp <;> omega
end Go.Proofs.YthempimelfmipaaGreatDoor

namespace Go.Proofs.YthempimelfmipaaGreatDoor

/-- words, each behind a space -/
def spaced (ws : List (List UInt8)) : List UInt8 := ws.flatMap fun w => 32 :: w
theorem split_spaced : ∀ (ws : List (List UInt8)) (w : List UInt8) (k : Nat), 32 ∉ w → (∀ x ∈ ws, (32 : UInt8) ∉ x) → ws.length ≤ k → Lib.splitK [32] 0 k (w ++ spaced ws) = w :: ws
  | [], w, k, h, _, _ => by
    have h1 : w ++ spaced [] = w := by simp [spaced]
    rw [h1]
    cases k with
    | zero => rfl
    | succ k => rw [Lib.splitK, index_miss 32 [] w h]; rfl
  | x :: ws, w, k, h, hx, hk => by
    obtain ⟨k, rfl⟩ : ∃ j, k = j + 1 := ⟨k - 1, by simp at hk; omega⟩
    have h1 : w ++ spaced (x :: ws) = w ++ (32 :: [] ++ (x ++ spaced ws)) := by simp [spaced]
    rw [Lib.splitK, h1, index_at 32 [] _ w h]
    have h2 : ((w.length : Int) == -1) = false := by rw [beq_eq_false_iff_ne]; omega
    have h3 : ((w.length : Int)).toNat = w.length := by omega
    have hd : (w ++ (32 :: [] ++ (x ++ spaced ws))).drop (w.length + ([32] : List UInt8).length) = x ++ spaced ws := by
      rw [← List.append_assoc, show w.length + ([32] : List UInt8).length = (w ++ 32 :: []).length by simp, List.drop_left]
    rw [h2, h3, Nat.add_zero, List.take_left, hd]
    have ih := split_spaced ws x k (hx x List.mem_cons_self) (fun y hy => hx y (List.mem_cons_of_mem _ hy)) (by simp at hk; omega)
    rw [ih]; rfl
theorem count_spaced : ∀ (ws : List (List UInt8)) (w : List UInt8) (f : Nat), 32 ∉ w → (∀ x ∈ ws, (32 : UInt8) ∉ x) → ws.length + 1 ≤ f → Lib.countFrom [32] f (w ++ spaced ws) = ws.length
  | [], w, f, h, _, hf => by
    obtain ⟨f, rfl⟩ : ∃ j, f = j + 1 := ⟨f - 1, by simp at hf; omega⟩
    have h1 : w ++ spaced [] = w := by simp [spaced]
    rw [h1, Lib.countFrom, index_miss 32 [] w h]; rfl
  | x :: ws, w, f, h, hx, hf => by
    obtain ⟨f, rfl⟩ : ∃ j, f = j + 1 := ⟨f - 1, by simp at hf; omega⟩
    have h1 : w ++ spaced (x :: ws) = w ++ (32 :: [] ++ (x ++ spaced ws)) := by simp [spaced]
    rw [Lib.countFrom, h1, index_at 32 [] _ w h]
    have h2 : ((w.length : Int) == -1) = false := by rw [beq_eq_false_iff_ne]; omega
    have h3 : ((w.length : Int)).toNat = w.length := by omega
    have hd : (w ++ (32 :: [] ++ (x ++ spaced ws))).drop (w.length + ([32] : List UInt8).length) = x ++ spaced ws := by
      rw [← List.append_assoc, show w.length + ([32] : List UInt8).length = (w ++ 32 :: []).length by simp, List.drop_left]
    rw [h2, h3, hd]
    have ih := count_spaced ws x f (hx x List.mem_cons_self) (fun y hy => hx y (List.mem_cons_of_mem _ hy)) (by simp at hf; omega)
    rw [ih]; simp; omega
/-- a coin's word -/
def wordC (x : Int × Int) : List UInt8 := dz x.1 ++ 120 :: dz x.2
theorem coins_spaced (l : List (Int × Int)) : coinsText l = spaced (l.map wordC) := by
  induction l with
  | nil => rfl
  | cons x l ih =>
    rw [coinsText, List.flatMap_cons, List.map_cons, spaced, List.flatMap_cons]
    rw [coinsText, spaced] at ih
    rw [ih]; rfl
theorem word_not {c : UInt8} (h : isDig c = false) (hx : c ≠ 120) (x : Int × Int) : c ∉ wordC x := fun m => by
  rcases List.mem_append.1 m with m | m
  · exact dz_not h _ m
  · rcases List.mem_cons.1 m with m | m
    · exact hx m
    · exact dz_not h _ m
theorem spaced_not {c : UInt8} (h : c ≠ 32) {ws : List (List UInt8)} (hw : ∀ w ∈ ws, c ∉ w) : c ∉ spaced ws := fun m => by
  obtain ⟨w, h1, h2⟩ := List.mem_flatMap.1 m
  rcases List.mem_cons.1 h2 with h2 | h2
  · exact h h2
  · exact hw w h1 h2
/-- the parts of a hoard's text, as the parser finds them -/
theorem hoard_cut (id : Int) (l : List (Int × Int)) (f t : Int) : Lib.cut (hoardText id l f t) [59, 32] = (headText id ++ coinsText l, yearText f t, true) := by
  refine cut_at 59 [32] _ _ fun m => ?_
  rcases List.mem_append.1 m with m | m
  · rw [headText] at m
    rcases List.mem_cons.1 m with m | m
    · cases m
    · rcases List.mem_append.1 m with m | m
      · exact dz_not rfl _ m
      · simp at m
  · rw [coins_spaced] at m
    refine spaced_not (by decide) (fun w hw => ?_) m
    obtain ⟨x, _, rfl⟩ := List.mem_map.1 hw
    exact word_not rfl (by decide) x
theorem front_cut (id : Int) (x : Int × Int) (l : List (Int × Int)) : Lib.cut (headText id ++ coinsText (x :: l)) [58, 32] = (72 :: dz id, wordC x ++ spaced (l.map wordC), true) := by
  have h : headText id ++ coinsText (x :: l) = (72 :: dz id) ++ (58 :: [32] ++ (wordC x ++ spaced (l.map wordC))) := by
    rw [coins_spaced, headText, List.map_cons, spaced, List.flatMap_cons]
    simp [spaced]
  rw [h]
  refine cut_at 58 [32] _ _ fun m => ?_
  rcases List.mem_cons.1 m with m | m
  · cases m
  · exact dz_not rfl _ m
theorem coins_split (x : Int × Int) (l : List (Int × Int)) : Lib.split (wordC x ++ spaced (l.map wordC)) [32] = (x :: l).map wordC := by
  have h1 : (32 : UInt8) ∉ wordC x := word_not rfl (by decide) x
  have h2 : ∀ w ∈ l.map wordC, (32 : UInt8) ∉ w := fun w hw => by
    obtain ⟨y, _, rfl⟩ := List.mem_map.1 hw
    exact word_not rfl (by decide) y
  have h3 : ∀ ws : List (List UInt8), ws.length ≤ (spaced ws).length := fun ws => by
    induction ws with
    | nil => simp
    | cons w ws ih => rw [spaced, List.flatMap_cons, List.length_append, ← spaced]; simp; omega
  rw [Lib.split, Lib.count, count_spaced _ _ _ h1 h2 (by have := h3 (l.map wordC); rw [List.length_append]; omega), split_spaced _ _ _ h1 h2 (Nat.le_refl _)]
  rfl
theorem suf_yes (a p : List UInt8) : Lib.hasSuffix (a ++ p) p = true := by
  rw [Lib.hasSuffix, List.isSuffixOf_iff_suffix]; exact List.suffix_append _ _
theorem trim_yes (a p : List UInt8) : Lib.trimSuffix (a ++ p) p = a := by
  rw [Lib.trimSuffix, if_pos (suf_yes a p), List.length_append, Nat.add_sub_cancel, List.take_left]
theorem suf_no {s p : List UInt8} {c : UInt8} (hc : c ∈ p) (h : c ∉ s) : Lib.hasSuffix s p = false := by
  rw [Bool.eq_false_iff]
  intro e
  rw [Lib.hasSuffix, List.isSuffixOf_iff_suffix] at e
  exact h (e.subset hc)
theorem suf_ad (a : List UInt8) : Lib.hasSuffix (a ++ [32, 65, 68]) [32, 66, 67] = false := by
  rw [Bool.eq_false_iff]
  intro e
  rw [Lib.hasSuffix, List.isSuffixOf_iff_suffix] at e
  obtain ⟨t, ht⟩ := e
  have := congrArg List.reverse ht
  simp at this
theorem trim_no {s p : List UInt8} (h : Lib.hasSuffix s p = false) : Lib.trimSuffix s p = s := by
  rw [Lib.trimSuffix, h]; rfl
/-- what the parser of years finds: the first number, is it BC, the last number, is it BC -/
def yparts (s : List UInt8) : List UInt8 × Bool × List UInt8 × Bool :=
  let bc := Lib.hasSuffix s [32, 66, 67]
  let n := if bc then Lib.trimSuffix s [32, 66, 67] else Lib.trimSuffix s [32, 65, 68]
  let c := Lib.cut n [45]
  (Lib.trimSuffix c.1 [32, 66, 67], bc || Lib.hasSuffix c.1 [32, 66, 67], if c.2.2 then c.2.1 else c.1, bc)
theorem yparts_text {f t : Int} (h : f ≤ t) : yparts (yearText f t) = (dz (ynum f), decide (¬ 0 < f), dz (ynum t), decide (¬ 0 < t)) := by
  have n1 : ∀ n : Int, (67 : UInt8) ∉ dz n := fun n => dz_not rfl n
  have n2 : ∀ n : Int, (45 : UInt8) ∉ dz n := fun n => dz_not rfl n
  have s1 : ∀ n : Int, Lib.hasSuffix (dz n) [32, 66, 67] = false := fun n => suf_no (c := 67) (by simp) (n1 n)
  by_cases hft : f = t
  · subst hft
    rw [yearText, if_pos rfl]
    by_cases h0 : 0 < f
    · rw [yparts, yera, if_pos h0, suf_ad, if_neg (by decide), trim_yes, cut_none 45 [] _ (n2 _), trim_no (s1 _), s1]
      simp [h0]
    · rw [yparts, yera, if_neg h0, suf_yes, if_pos rfl, trim_yes, cut_none 45 [] _ (n2 _), trim_no (s1 _)]
      simp [h0]
  · rw [yearText, if_neg hft]
    by_cases h0 : 0 < f
    · have h1 : 0 < t := by omega
      rw [yera, if_pos h0, yera, if_pos h1, if_pos rfl, yparts, suf_ad, if_neg (by decide), trim_yes]
      rw [show dz (ynum f) ++ 45 :: dz (ynum t) = dz (ynum f) ++ (45 :: [] ++ dz (ynum t)) from rfl, cut_at 45 [] _ _ (n2 _), trim_no (s1 _), s1]
      simp [h0, h1]
    · by_cases h1 : 0 < t
      · rw [yera, if_neg h0, yera, if_pos h1, if_neg (by decide)]
        rw [show dz (ynum f) ++ [32, 66, 67] ++ 45 :: (dz (ynum t) ++ [32, 65, 68]) = dz (ynum f) ++ [32, 66, 67] ++ 45 :: dz (ynum t) ++ [32, 65, 68] by simp]
        rw [yparts, suf_ad, if_neg (by decide), trim_yes]
        rw [show dz (ynum f) ++ [32, 66, 67] ++ 45 :: dz (ynum t) = dz (ynum f) ++ [32, 66, 67] ++ (45 :: [] ++ dz (ynum t)) from rfl, cut_at 45 [] _ _ (fun m => by
          rcases List.mem_append.1 m with m | m
          · exact n2 _ m
          · simp at m), trim_yes, suf_yes]
        simp [h0, h1]
      · rw [yera, if_neg h0, yera, if_neg h1, if_pos rfl, yparts, suf_yes, if_pos rfl, trim_yes]
        rw [show dz (ynum f) ++ 45 :: dz (ynum t) = dz (ynum f) ++ (45 :: [] ++ dz (ynum t)) from rfl, cut_at 45 [] _ _ (n2 _), trim_no (s1 _)]
        simp [h0, h1]
theorem word_cut (x : Int × Int) : Lib.cut (wordC x) [120] = (dz x.1, dz x.2, true) := cut_at 120 [] _ _ (dz_not rfl _)
end Go.Proofs.YthempimelfmipaaGreatDoor

namespace Go.Proofs.YthempimelfmipaaGreatDoor

theorem ynum_bd {n : Int} (h1 : -9999 ≤ n) (h2 : n ≤ 9999) : 0 ≤ ynum n ∧ ynum n ≤ 10000 := by
  rw [ynum]; split <;> omega
theorem ynum_back (n : Int) : (if decide (¬ 0 < n) = true then 1 - ynum n else ynum n) = n := by
  rw [ynum]
  by_cases h : 0 < n
  · simp [h]
  · simp [h]; omega
theorem yearText_inj {f t f' t' : Int} (h : YV f t) (h' : YV f' t') (he : yearText f t = yearText f' t') : f = f' ∧ t = t' := by
  have e := congrArg yparts he
  rw [yparts_text h.1, yparts_text h'.1] at e
  injection e with e1 e
  injection e with e2 e
  injection e with e3 e4
  obtain ⟨_, ⟨a1, a2⟩, a3, a4⟩ := h
  obtain ⟨_, ⟨b1, b2⟩, b3, b4⟩ := h'
  have c1 := dz_inj (ynum_bd a1 a2).1 (ynum_bd b1 b2).1 e1
  have c2 := dz_inj (ynum_bd a3 a4).1 (ynum_bd b3 b4).1 e3
  rw [← ynum_back f, ← ynum_back t, c1, c2, e2, e4, ynum_back, ynum_back]
  exact ⟨rfl, rfl⟩
/-- what the parsers of years return -/
def PY (L : List UInt8) (f t E : Int) : Prop := (E = 0 ∧ YV f t ∧ yearText f t = L) ∨ (E = 3 ∧ f = 0 ∧ t = 0 ∧ ∀ f t, YV f t → yearText f t ≠ L)
theorem PY.ex (L : List UInt8) : ∃ f t E, PY L f t E := by
  by_cases h : ∃ f t, YV f t ∧ yearText f t = L
  · obtain ⟨f, t, h⟩ := h
    exact ⟨f, t, 0, .inl ⟨rfl, h⟩⟩
  · exact ⟨0, 0, 3, .inr ⟨rfl, rfl, rfl, fun f t h1 h2 => h ⟨f, t, h1, h2⟩⟩⟩
theorem PY.ok {L : List UInt8} {f t f' t' E : Int} (h : PY L f t E) (h1 : YV f' t') (h2 : yearText f' t' = L) : E = 0 ∧ f = f' ∧ t = t' := by
  rcases h with ⟨rfl, h3, h4⟩ | ⟨_, _, _, h3⟩
  · exact ⟨rfl, yearText_inj h3 h1 (h4.trans h2.symm)⟩
  · exact absurd h2 (h3 _ _ h1)
theorem PY.bad {L : List UInt8} {f t E : Int} (h : PY L f t E) (h1 : ∀ f t, YV f t → yearText f t ≠ L) : E = 3 ∧ f = 0 ∧ t = 0 := by
  rcases h with ⟨_, h3, h4⟩ | ⟨h2, h3, h4, _⟩
  · exact absurd h4 (h1 _ _ h3)
  · exact ⟨h2, h3, h4⟩
/-- the numbers that the parser of years makes of its parts -/
def yearIs (D : List UInt8) (bc : Bool) (v : Int) : Prop := ∀ m : Int, 0 ≤ m → m ≤ 10000 → D = dz m → v = if bc = true then 1 - m else m
theorem years_bad {L a b : List UInt8} {p q : Bool} {u v : Int} (hp : yparts L = (a, p, b, q)) (hu : yearIs a p u) (hv : yearIs b q v) (h : ¬ (YV u v ∧ yearText u v = L)) (f t : Int) (hY : YV f t) : yearText f t ≠ L := fun he => by
  have e := hp.symm.trans ((congrArg yparts he.symm).trans (yparts_text hY.1))
  injection e with e1 e
  injection e with e2 e
  injection e with e3 e4
  have h1 := ynum_bd hY.2.1.1 hY.2.1.2
  have h2 := ynum_bd hY.2.2.1 hY.2.2.2
  have c1 := hu _ h1.1 h1.2 e1
  have c2 := hv _ h2.1 h2.2 e3
  rw [e2, ynum_back] at c1
  rw [e4, ynum_back] at c2
  subst c1 c2
  exact h ⟨hY, he⟩
/-- the reference's parser of years: the two numbers that stand in a text of years -/
def rnums (L : List UInt8) : Int × Int :=
  let x := numK 5 L 0
  let r := if x.2.take 3 = [32, 66, 67] ∨ x.2.take 3 = [32, 65, 68] then x.2.drop 3 else x.2
  ((x.1 : Nat), if r.head? = some 45 then ((numK 5 r.tail 0).1 : Nat) else (x.1 : Nat))
theorem rnums_text {f t : Int} (h : YV f t) : rnums (yearText f t) = (ynum f, ynum t) := by
  have h1 := ynum_bd h.2.1.1 h.2.1.2
  have h2 := ynum_bd h.2.2.1 h.2.2.2
  have n1 : ((ynum f).toNat : Int) = ynum f := Int.toNat_of_nonneg h1.1
  have n2 : ((ynum t).toNat : Int) = ynum t := Int.toNat_of_nonneg h2.1
  have k1 : ∀ r, (∀ b r', r = b :: r' → isDig b = false) → numK 5 (dz (ynum f) ++ r) 0 = ((ynum f).toNat, r) := fun r hr => numK_dz h1.1 (by omega) (by omega) hr
  have k2 : ∀ r, (∀ b r', r = b :: r' → isDig b = false) → numK 5 (dz (ynum t) ++ r) 0 = ((ynum t).toNat, r) := fun r hr => numK_dz h2.1 (by omega) (by omega) hr
  by_cases hft : f = t
  · subst hft
    rw [yearText, if_pos rfl, rnums, k1 _ (by intro b r' hr; rw [yera] at hr; split at hr <;> (simp at hr; obtain ⟨rfl, _⟩ := hr; rfl))]
    rw [yera]
    split <;> simp [n1]
  · rw [yearText, if_neg hft]
    by_cases he : yera f = yera t
    · rw [if_pos he, List.append_assoc, List.cons_append, rnums, k1 _ (by intro b r' hr; simp at hr; obtain ⟨rfl, _⟩ := hr; rfl)]
      have e5 : ¬ ((45 :: (dz (ynum t) ++ yera f)).take 3 = [32, 66, 67] ∨ (45 :: (dz (ynum t) ++ yera f)).take 3 = [32, 65, 68]) := by simp
      simp only [if_neg e5, List.head?_cons, List.tail_cons, if_true]
      rw [k2 _ (by intro b r' hr; rw [yera] at hr; split at hr <;> (simp at hr; obtain ⟨rfl, _⟩ := hr; rfl)), n1, n2]
    · rw [if_neg he, List.append_assoc, rnums, k1 _ (by intro b r' hr; rw [yera] at hr; split at hr <;> (simp at hr; obtain ⟨rfl, _⟩ := hr; rfl))]
      have e3 : (yera f ++ 45 :: (dz (ynum t) ++ yera t)).take 3 = yera f := by rw [yera]; split <;> rfl
      have e4 : (yera f ++ 45 :: (dz (ynum t) ++ yera t)).drop 3 = 45 :: (dz (ynum t) ++ yera t) := by rw [yera]; split <;> rfl
      have e5 : yera f = [32, 66, 67] ∨ yera f = [32, 65, 68] := by rw [yera]; split <;> simp
      simp only [e3, e4, if_pos e5]
      rw [List.head?_cons, if_pos rfl, List.tail_cons, k2 _ (by intro b r' hr; rw [yera] at hr; split at hr <;> (simp at hr; obtain ⟨rfl, _⟩ := hr; rfl)), n1, n2]
theorem ynum_or (n : Int) : n = ynum n ∨ n = 1 - ynum n := by rw [ynum]; split <;> omega
theorem ryears_bad {L : List UInt8} {a b : Int} (hp : rnums L = (a, b)) (h1 : ¬ (YV a b ∧ yearText a b = L)) (h2 : ¬ (YV a (1 - b) ∧ yearText a (1 - b) = L)) (h3 : ¬ (YV (1 - a) b ∧ yearText (1 - a) b = L)) (h4 : ¬ (YV (1 - a) (1 - b) ∧ yearText (1 - a) (1 - b) = L)) (f t : Int) (hY : YV f t) : yearText f t ≠ L := fun he => by
  have e := hp.symm.trans ((congrArg rnums he.symm).trans (rnums_text hY))
  injection e with e1 e2
  subst e1 e2
  rcases ynum_or f with c1 | c1 <;> rcases ynum_or t with c2 | c2
  · exact h1 (by rw [← c1, ← c2]; exact ⟨hY, he⟩)
  · exact h2 (by rw [← c1, ← c2]; exact ⟨hY, he⟩)
  · exact h3 (by rw [← c1, ← c2]; exact ⟨hY, he⟩)
  · exact h4 (by rw [← c1, ← c2]; exact ⟨hY, he⟩)

/-- what the parsers of hoards return -/
def NoH (L : List UInt8) : Prop := ∀ id l f t, HV id l f t → hoardText id l f t ≠ L
def PH (L : List UInt8) (id : Int) (l : List (Int × Int)) (f t E : Int) : Prop :=
  (E = 0 ∧ HV id l f t ∧ hoardText id l f t = L) ∨ (E = 3 ∧ id = 0 ∧ l = [] ∧ f = 0 ∧ t = 0 ∧ NoH L)
theorem wordC_inj {x y : Int × Int} (hx : 1 ≤ x.1 ∧ 1 ≤ x.2) (hy : 1 ≤ y.1 ∧ 1 ≤ y.2) (h : wordC x = wordC y) : x = y := by
  have e := congrArg (fun w => Lib.cut w [120]) h
  simp only [word_cut] at e
  injection e with e1 e
  injection e with e2 e
  exact Prod.ext (dz_inj (by omega) (by omega) e1) (dz_inj (by omega) (by omega) e2)
/-- the parts of a hoard's text, as the program cuts it -/
structure HParts (L head closing : List UInt8) (ws : List (List UInt8)) : Prop where
  cut1 : ∃ front b, Lib.cut L [59, 32] = (front, closing, b) ∧ ∃ coins b', Lib.cut front [58, 32] = (head, coins, b') ∧ Lib.split coins [32] = ws
theorem HParts.of {L head closing : List UInt8} {ws : List (List UInt8)} (h : HParts L head closing ws) {id : Int} {l : List (Int × Int)} {f t : Int} (hv : HV id l f t) (he : hoardText id l f t = L) :
    head = 72 :: dz id ∧ closing = yearText f t ∧ ws = l.map wordC := by
  obtain ⟨front, b, h1, coins, b', h2, h3⟩ := h.cut1
  rw [← he, hoard_cut] at h1
  injection h1 with e1 e
  injection e with e2 e3
  cases l with
  | nil => have := hv.2.1.1; simp at this
  | cons x l =>
    rw [← e1, front_cut] at h2
    injection h2 with e4 e
    injection e with e5 e6
    rw [← e5, coins_split] at h3
    exact ⟨e4.symm, e2.symm, h3.symm⟩
def trimH (s : List UInt8) : List UInt8 := Lib.trimPrefix s [72]
theorem trimH_dz (l : List UInt8) : trimH (72 :: l) = l := by simp [trimH, Lib.trimPrefix, Lib.hasPrefix]
theorem head_bad {L head closing : List UInt8} {ws : List (List UInt8)} (h : HParts L head closing ws) (hb : ∀ n, Lib.atoiAll (trimH head) ≠ .ok n) : NoH L := fun id l f t hv he => by
  obtain ⟨rfl, _, _⟩ := h.of hv he
  rw [trimH_dz] at hb
  have := hv.1
  exact hb id (atoi_dz (by omega) (by omega))
theorem closing_bad {L head closing : List UInt8} {ws : List (List UInt8)} (h : HParts L head closing ws) (hb : ∀ f t, YV f t → yearText f t ≠ closing) : NoH L := fun id l f t hv he => by
  obtain ⟨_, rfl, _⟩ := h.of hv he
  exact hb f t hv.2.2.2 rfl
/-- what is read of a word -/
def wordIs (w : List UInt8) (x : Int × Int) : Prop := ∃ a b c, Lib.cut w [120] = (a, b, c) ∧ Lib.atoiAll a = .ok x.1 ∧ Lib.atoiAll b = .ok x.2
theorem wordIs_wordC {y x : Int × Int} (h : wordIs (wordC y) x) (hy : (1 ≤ y.1 ∧ y.1 ≤ 99) ∧ (1 ≤ y.2 ∧ y.2 ≤ 999)) : x = y := by
  obtain ⟨a, b, c, h1, h2, h3⟩ := h
  rw [word_cut] at h1
  injection h1 with e1 e
  injection e with e2 e3
  subst e1 e2
  rw [atoi_dz (by omega) (by omega)] at h2 h3
  injection h2 with h2
  injection h3 with h3
  exact Prod.ext h2.symm h3.symm
theorem word_bad {L head closing : List UInt8} {ws : List (List UInt8)} (h : HParts L head closing ws) {i : Nat} {w a b : List UInt8} {c : Bool} (hw : ws[i]? = some w) (hc : Lib.cut w [120] = (a, b, c)) (hb : (∀ n, Lib.atoiAll a ≠ .ok n) ∨ ∀ n, Lib.atoiAll b ≠ .ok n) : NoH L := fun id l f t hv he => by
  obtain ⟨_, _, rfl⟩ := h.of hv he
  rw [List.getElem?_map] at hw
  cases hx : l[i]? with
  | none => rw [hx] at hw; cases hw
  | some x =>
    rw [hx] at hw
    injection hw with hw
    subst hw
    rw [word_cut] at hc
    injection hc with e1 e
    injection e with e2 e3
    subst e1 e2
    have hr := hv.2.2.1.at_ hx
    rcases hb with hb | hb
    · exact hb _ (atoi_dz (by omega) (by omega))
    · exact hb _ (atoi_dz (by omega) (by omega))
def ReadAs (ws : List (List UInt8)) (l : List (Int × Int)) : Prop := l.length ≤ ws.length ∧ ∀ (i : Nat) w x, ws[i]? = some w → l[i]? = some x → wordIs w x
theorem ReadAs.snoc {ws : List (List UInt8)} {l : List (Int × Int)} (h : ReadAs ws l) {w : List UInt8} {x : Int × Int} (hw : ws[l.length]? = some w) (hx : wordIs w x) : ReadAs ws (l ++ [x]) := by
  refine ⟨by have := (List.getElem?_eq_some_iff.1 hw).1; simp; omega, fun i w' x' h1 h2 => ?_⟩
  by_cases hi : i < l.length
  · rw [List.getElem?_append_left hi] at h2
    exact h.2 i w' x' h1 h2
  · have hi2 : i = l.length := by
      have := (List.getElem?_eq_some_iff.1 h2).1
      simp at this
      omega
    subst hi2
    rw [List.getElem?_append_right (Nat.le_refl _), Nat.sub_self] at h2
    injection h2 with h2
    subst h2
    rw [hw] at h1
    injection h1 with h1
    subst h1
    exact hx
theorem hoard_bad {L head closing : List UInt8} {ws : List (List UInt8)} (h : HParts L head closing ws) {id : Int} {l : List (Int × Int)} {f t : Int} (h1 : Lib.atoiAll (trimH head) = .ok id) (h2 : YV f t ∧ yearText f t = closing) (h3 : ReadAs ws l) (h4 : l.length = ws.length) (hn : ¬ (HV id l f t ∧ hoardText id l f t = L)) : NoH L := fun id' l' f' t' hv he => by
  obtain ⟨rfl, rfl, rfl⟩ := h.of hv he
  have hi := hv.1
  rw [trimH_dz, atoi_dz (by omega) (by omega)] at h1
  injection h1 with h1
  subst h1
  obtain ⟨rfl, rfl⟩ := yearText_inj h2.1 hv.2.2.2 h2.2
  have hl : l = l' := by
    rw [List.length_map] at h4
    refine List.ext_getElem? fun i => ?_
    by_cases hi : i < l'.length
    · have e1 : l'[i]? = some l'[i] := List.getElem?_eq_getElem hi
      have e2 : l[i]? = some (l[i]'(by omega)) := List.getElem?_eq_getElem _
      have := wordIs_wordC (h3.2 i _ _ (by rw [List.getElem?_map, e1]; rfl) e2) (hv.2.2.1.at_ e1)
      rw [e1, e2, this]
    · rw [List.getElem?_eq_none (by omega), List.getElem?_eq_none (by omega)]
  subst hl
  exact hn ⟨hv, he⟩
theorem PH.ex (L : List UInt8) : ∃ id l f t E, PH L id l f t E := by
  by_cases h : ∃ id l f t, HV id l f t ∧ hoardText id l f t = L
  · obtain ⟨id, l, f, t, h⟩ := h
    exact ⟨id, l, f, t, 0, .inl ⟨rfl, h⟩⟩
  · exact ⟨0, [], 0, 0, 3, .inr ⟨rfl, rfl, rfl, rfl, rfl, fun id l f t h1 h2 => h ⟨id, l, f, t, h1, h2⟩⟩⟩
theorem hoardText_inj {id id' f f' t t' : Int} {l l' : List (Int × Int)} (h : HV id l f t) (h' : HV id' l' f' t') (he : hoardText id l f t = hoardText id' l' f' t') : id = id' ∧ l = l' ∧ f = f' ∧ t = t' := by
  obtain ⟨front, b, hc1⟩ : ∃ front b, Lib.cut (hoardText id' l' f' t') [59, 32] = (front, yearText f' t', b) := ⟨_, _, hoard_cut ..⟩
  cases hl' : l' with
  | nil => subst hl'; have := h'.2.1.1; simp at this
  | cons x r =>
    subst hl'
    have P : HParts (hoardText id' (x :: r) f' t') (72 :: dz id') (yearText f' t') ((x :: r).map wordC) := ⟨_, _, hoard_cut .., _, _, front_cut .., coins_split ..⟩
    obtain ⟨e1, e2, e3⟩ := P.of h he
    injection e1 with _ e1
    have i1 := h.1
    have i2 := h'.1
    have a1 := dz_inj (by omega) (by omega) e1
    obtain ⟨a2, a3⟩ := yearText_inj h'.2.2.2 h.2.2.2 e2
    refine ⟨a1.symm, ?_, a2.symm, a3.symm⟩
    have hlen := congrArg List.length e3
    rw [List.length_map, List.length_map] at hlen
    refine List.ext_getElem? fun i => ?_
    by_cases hi : i < l.length
    · have q1 : l[i]? = some l[i] := List.getElem?_eq_getElem hi
      have q2 : (x :: r)[i]? = some ((x :: r)[i]'(by omega)) := List.getElem?_eq_getElem _
      have e4 := congrArg (·[i]?) e3
      simp only [List.getElem?_map, q1, q2, Option.map_some] at e4
      injection e4 with e4
      have r1 := h.2.2.1.at_ q1
      have r2 := h'.2.2.1.at_ q2
      rw [q1, q2, wordC_inj ⟨by omega, by omega⟩ ⟨by omega, by omega⟩ e4]
    · rw [List.getElem?_eq_none (by omega), List.getElem?_eq_none (by omega)]
theorem PH.ok {L : List UInt8} {id id' f t f' t' E : Int} {l l' : List (Int × Int)} (h : PH L id l f t E) (h1 : HV id' l' f' t') (h2 : hoardText id' l' f' t' = L) : E = 0 ∧ id = id' ∧ l = l' ∧ f = f' ∧ t = t' := by
  rcases h with ⟨rfl, h3, h4⟩ | ⟨_, _, _, _, _, h3⟩
  · exact ⟨rfl, hoardText_inj h3 h1 (h4.trans h2.symm)⟩
  · exact absurd h2 (h3 _ _ _ _ h1)
theorem PH.bad {L : List UInt8} {id f t E : Int} {l : List (Int × Int)} (h : PH L id l f t E) (h1 : NoH L) : E = 3 ∧ id = 0 ∧ l = [] ∧ f = 0 ∧ t = 0 := by
  rcases h with ⟨_, h3, h4⟩ | ⟨h2, h3, h4, h5, h6, _⟩
  · exact absurd h4 (h1 _ _ _ _ h3)
  · exact ⟨h2, h3, h4, h5, h6⟩
/-- the reference's parser of hoards: where it stands in a text, if that is a hoard's -/
def RInv (L : List UInt8) (n : Int) (l : List (Int × Int)) (rest : List UInt8) : Prop :=
  ∀ id l0 f t, HV id l0 f t → hoardText id l0 f t = L → n = id ∧ l = l0.take l.length ∧ rest = coinsText (l0.drop l.length) ++ 59 :: 32 :: yearText f t
theorem not_dig_of {c : UInt8} {l : List UInt8} (hc : isDig c = false) : ∀ b r', c :: l = b :: r' → isDig b = false := fun b r' h => by
  injection h with h _; rw [← h]; exact hc
theorem rinv_start {L R R2 : List UInt8} {n : Nat} (hL : 2 ≤ L.length) (hR : L.drop 1 = R) (hn : numK 3 R 0 = (n, R2)) : RInv L n [] (R2.drop 1) := fun id l0 f t hv he => by
  subst he
  have hi := hv.1
  have e : (hoardText id l0 f t).drop 1 = dz id ++ 58 :: (coinsText l0 ++ 59 :: 32 :: yearText f t) := by simp [hoardText, headText]
  rw [← hR, e, numK_dz (by omega) (by omega) (by omega) (not_dig_of rfl)] at hn
  injection hn with e1 e2
  subst e1 e2
  exact ⟨Int.toNat_of_nonneg (by omega), by simp, by simp⟩
theorem rinv_step {L R' R2 R4 : List UInt8} {n : Int} {l : List (Int × Int)} {k v : Nat} (h : RInv L n l (32 :: R')) (h1 : numK 3 R' 0 = (k, R2)) (h2 : numK 3 (R2.drop 1) 0 = (v, R4)) : RInv L n (l ++ [((k : Int), (v : Int))]) R4 := fun id l0 f t hv he => by
  obtain ⟨a1, a2, a3⟩ := h id l0 f t hv he
  cases hd : l0.drop l.length with
  | nil =>
    rw [hd] at a3
    simp [coinsText] at a3
  | cons x r =>
    rw [hd] at a3
    have hx : l0[l.length]? = some x := by
      have := congrArg (·[0]?) hd
      simpa using this
    have hr := hv.2.2.1.at_ hx
    have e : R' = dz x.1 ++ 120 :: (dz x.2 ++ (coinsText r ++ 59 :: 32 :: yearText f t)) := by
      simp [coinsText, coinText] at a3
      simpa [coinsText] using a3
    rw [e, numK_dz (by omega) (by omega) (by omega) (not_dig_of rfl)] at h1
    injection h1 with e1 e2
    subst e1 e2
    rw [List.drop_succ_cons, List.drop_zero, numK_dz (by omega) (by omega) (by omega) (by
      cases r with
      | nil => exact not_dig_of rfl
      | cons y r => simp only [coinsText, List.flatMap_cons, coinText, List.cons_append]; exact not_dig_of rfl)] at h2
    injection h2 with e3 e4
    subst e3 e4
    have hxl := (List.getElem?_eq_some_iff.1 hx).1
    refine ⟨a1, ?_, ?_⟩
    · rw [List.length_append, List.length_singleton, take_succ hx, ← a2, Int.toNat_of_nonneg (by omega), Int.toNat_of_nonneg (by omega)]
    · rw [List.length_append, List.length_singleton, ← List.drop_drop, hd]; rfl
theorem rinv_end {L rest : List UInt8} {n : Int} {l : List (Int × Int)} (h : RInv L n l rest) (hend : rest.head? ≠ some 32 ∨ 40 ≤ l.length) {id f t : Int} {l0 : List (Int × Int)} (hv : HV id l0 f t) (he : hoardText id l0 f t = L) :
    n = id ∧ l = l0 ∧ rest = 59 :: 32 :: yearText f t := by
  obtain ⟨a1, a2, a3⟩ := h id l0 f t hv he
  have hl : l.length ≤ l0.length := by have := congrArg List.length a2; simp at this; omega
  have h32 := hv.2.1.2
  cases hd : l0.drop l.length with
  | nil =>
    rw [hd] at a3
    have : l0.length ≤ l.length := by have := congrArg List.length hd; simp at this; omega
    rw [List.take_of_length_le this] at a2
    exact ⟨a1, a2, by simpa [coinsText] using a3⟩
  | cons x r =>
    rw [hd] at a3
    rcases hend with hend | hend
    · exfalso; apply hend; rw [a3]; simp [coinsText, coinText]
    · omega
end Go.Proofs.YthempimelfmipaaGreatDoor

namespace Go.Proofs.YthempimelfmipaaGreatDoor
open Go.RowKit Go.Proofs Go

/-- a hoard's cells -/
structure HE where
  id : Int
  A : Option Addr
  n : Nat
  c : Nat
  f : Int
  t : Int
def HE.cells (x : HE) : List Value := [.int .i64 x.id, .slice x.A x.n x.c, .int .i64 x.f, .int .i64 x.t]
def HFS (w : World) (A : Option Addr) (hs : List HE) : Prop :=
  0 < hs.length → ∃ ad, A = some ad ∧ ad.block < w.heap.size ∧ ∀ i x, hs[i]? = some x → w.cell? ⟨(ad.add (i * 4)).block, (ad.add (i * 4)).off + 1, none⟩ = some (.slice x.A x.n x.c)
theorem HE.flat_at : ∀ (hs : List HE) (i j : Nat) (x : HE), hs[i]? = some x → j < 4 → (hs.flatMap HE.cells)[i * 4 + j]? = x.cells[j]?
  | [], i, j, x, h, _ => by simp at h
  | y :: hs, 0, j, x, h, hj => by
    simp at h; subst h
    rw [List.flatMap_cons, List.getElem?_append_left (by simp [HE.cells]; omega), Nat.zero_mul, Nat.zero_add]
  | y :: hs, i + 1, j, x, h, hj => by
    rw [List.flatMap_cons, List.getElem?_append_right (by simp [HE.cells]; omega)]
    rw [show (i + 1) * 4 + j - y.cells.length = i * 4 + j from by simp [HE.cells]; omega]
    exact HE.flat_at hs i j x (by simpa using h) hj
theorem HFS.lit (W : World) (T : TypeId) (hs : List HE) (cs : Array Value) (hcs : cs.toList = hs.flatMap HE.cells) : HFS (W.alloc (.cells cs T)) (some ⟨W.heap.size, 0, none⟩) hs := by
  intro _
  refine ⟨_, rfl, by simp, fun i x hx => ?_⟩
  rw [Addr.add_lit, Nat.zero_add]
  show (W.alloc (.cells cs T)).cell? ⟨W.heap.size, i * 4 + 1, none⟩ = _
  rw [World.cell?_alloc_at _ _ _ _ rfl, ← Array.getElem?_toList, hcs]
  exact HE.flat_at hs i 1 x hx (by omega)
def fewH (hs : List HE) : Bool := hs.all fun x => decide (x.n ≤ 40)
theorem listed2 {lo hi a b c d : Int} (h1 : 1 ≤ a) (h2 : a < c) (h3 : c ≤ 99) (h4 : lo ≤ b ∧ b ≤ hi) (h5 : lo ≤ d ∧ d ≤ hi) : Listed lo hi [(a, b), (c, d)] := by
  intro i x hx
  match i, hx with
  | 0, hx => simp at hx; subst hx; exact ⟨by omega, h4, fun j y h => absurd h (by omega)⟩
  | 1, hx =>
    simp at hx; subst hx
    refine ⟨by omega, h5, fun j y hj hy => ?_⟩
    obtain rfl : j = 0 := by omega
    simp at hy; subst hy; exact h2
  | i + 2, hx => simp at hx
theorem Es.lit2 (W : World) (a b c d : Int) : Es (W.alloc (.cells #[.int .i64 a, .int .i64 b, .int .i64 c, .int .i64 d] 46)) (some ⟨W.heap.size, 0, none⟩) [(a, b), (c, d)] := by
  intro _
  refine ⟨_, rfl, by simp, fun i x hx => ?_⟩
  rw [Addr.add_lit, Nat.zero_add]
  match i, hx with
  | 0, hx => simp at hx; subst hx; exact ⟨al_at rfl _ rfl, al_at rfl _ rfl⟩
  | 1, hx => simp at hx; subst hx; exact ⟨al_at rfl _ rfl, al_at rfl _ rfl⟩
  | i + 2, hx => simp at hx
theorem hv0 : HV 3 [(4, 12), (7, 1)] (-43) (-30) := ⟨by omega, by simp, listed2 (by omega) (by omega) (by omega) (by omega) (by omega), by unfold YV; omega⟩
theorem late0 : LateIs 3 [(4, 12), (7, 1)] (-43) (-30) [(4, -60), (7, -60)] 7 0 :=
  .inr ⟨hv0, listed2 (by omega) (by omega) (by omega) (by omega) (by omega), .inr ⟨-60, by decide +kernel, rfl⟩⟩
theorem text0 : (hoardText 3 [(4, 12), (7, 1)] (-43) (-30) == [72, 51, 58, 32, 52, 120, 49, 50, 32, 55, 120, 49, 59, 32, 52, 52, 45, 51, 49, 32, 66, 67]) = true := by decide +kernel
theorem shq0 : shq [(4, 12), (7, 1)] 7 = rv false 1 13 := rfl
theorem ftx0 : fracText (rv false 1 13) = [49, 47, 49, 51] := lit_text (s := false) (a := 1) (b := 13) rfl (by omega) (by omega) (by decide +kernel)
end Go.Proofs.YthempimelfmipaaGreatDoor

namespace Go.Proofs.YthempimelfmipaaGreatDoor

/-- a hoard with at most 400 coins of each type -/
def capL (l : List (Int × Int)) : List (Int × Int) := l.map fun x => (x.1, min x.2 400)
theorem capL_len (l : List (Int × Int)) : (capL l).length = l.length := by simp [capL]
theorem capL_at {l : List (Int × Int)} {i : Nat} {x : Int × Int} (h : l[i]? = some x) : (capL l)[i]? = some (x.1, min x.2 400) := by simp [capL, h]
theorem capL_of {l : List (Int × Int)} {i : Nat} {y : Int × Int} (h : (capL l)[i]? = some y) : ∃ x, l[i]? = some x ∧ y = (x.1, min x.2 400) := by
  rw [capL, List.getElem?_map] at h
  cases hx : l[i]? with
  | none => rw [hx] at h; cases h
  | some x => rw [hx] at h; exact ⟨x, rfl, (Option.some.inj h).symm⟩
theorem capL_one {l : List (Int × Int)} {j : Nat} {x : Int × Int} (h : l[j]? = some x) : (capL l).take (j + 1) = (capL l).take j ++ [(x.1, min x.2 400)] := take_succ (capL_at h)
theorem Listed.cap {l : List (Int × Int)} (h : Listed 1 999 l) : Listed 1 999 (capL l) := fun i y hy => by
  obtain ⟨x, hx, rfl⟩ := capL_of hy
  obtain ⟨h1, h2, h3⟩ := h i x hx
  refine ⟨h1, by omega, fun j z hj hz => ?_⟩
  obtain ⟨z0, hz0, rfl⟩ := capL_of hz
  exact h3 j z0 hj hz0
theorem HV.cap {id f t : Int} {l : List (Int × Int)} (h : HV id l f t) : HV id (capL l) f t := ⟨h.1, by rw [capL_len]; exact h.2.1, h.2.2.1.cap, h.2.2.2⟩
theorem capL_num {l : List (Int × Int)} (h : Listed 1 999 l) (t : Int) : numE (capL l) t ≤ 400 := by
  by_cases hx : ∃ x ∈ capL l, x.1 = t
  · obtain ⟨x, hx, e⟩ := hx
    rw [h.cap.num hx e]
    obtain ⟨y, _, rfl⟩ := List.mem_map.1 hx
    simp only; omega
  · rw [Listed.num_zero fun x hx' e => hx ⟨x, hx', e⟩]; omega
theorem num_out {id f t : Int} {l : List (Int × Int)} (h : HV id l f t) {s : Int} (hs : ¬ (1 ≤ s ∧ s ≤ 99)) : numE l s = 0 :=
  Listed.num_zero fun _x hx e => hs (e ▸ (h.2.2.1.mem hx).1)
section
variable {ia fa ta : Int} {lx : List (Int × Int)}
theorem nn2 (h : HV ia lx fa ta) (t : Int) : 0 ≤ numE lx t + numE lx t := by have := (h.nn t).1; omega
theorem great2 (_h : HV ia lx fa ta) (h4 : ∀ t, numE lx t ≤ 400) : greatP lx lx 99 = false := by
  rw [greatP, List.any_eq_false]
  intro x hx
  have h1 := (mergeP_mem hx).2.2.2
  have h2 := h4 x.1
  simp only [decide_eq_true_eq]
  omega
theorem keys2 (h : HV ia lx fa ta) (h4 : ∀ t, numE lx t ≤ 400) : (mergeP lx lx 99).map (·.1) = lx.map (·.1) := by
  have hg := great2 h h4
  have hl := mergeP_listed (by omega) hg
  refine asc_ext (pw_listed hl) (pw_listed h.2.2.1) fun s => ⟨fun hs => ?_, fun hs => ?_⟩
  · obtain ⟨x, hx, rfl⟩ := List.mem_map.1 hs
    obtain ⟨_, _, h3, h5⟩ := mergeP_mem hx
    obtain ⟨y, hy, e⟩ := num_mem (l := lx) (s := x.1) (by omega) h.2.2.1
    exact List.mem_map.2 ⟨y, hy, e⟩
  · obtain ⟨y, hy, rfl⟩ := List.mem_map.1 hs
    obtain ⟨m1, m2⟩ := h.2.2.1.mem hy
    have h5 := mergeP_num (nn2 h) y.1 99
    rw [if_pos ⟨m1.1, m1.2⟩, h.2.2.1.num hy rfl] at h5
    obtain ⟨z, hz, e⟩ := num_mem (l := mergeP lx lx 99) (s := y.1) (by omega) hl
    exact List.mem_map.2 ⟨z, hz, e⟩
/-- twice as large -/
theorem merge2 (h : HV ia lx fa ta) (h4 : ∀ t, numE lx t ≤ 400) : MergeIs ia lx fa ta ia lx fa ta ia (mergeP lx lx 99) fa ta 0 := by
  refine .inr ⟨h, h, fa, ta, ⟨by split <;> rfl, by split <;> rfl⟩, .inr (.inr (.inr ⟨h.2.2.2.1, ?_, great2 h h4, rfl, rfl, rfl, rfl, rfl⟩))⟩
  have h5 := congrArg List.length (keys2 h h4)
  rw [List.length_map, List.length_map] at h5
  rw [h5]; exact h.2.1.2
theorem hv2 (h : HV ia lx fa ta) (h4 : ∀ t, numE lx t ≤ 400) : HV ia (mergeP lx lx 99) fa ta ∧ totE (mergeP lx lx 99) = 2 * totE lx := by
  obtain ⟨_, _, hc, h1, h2, h3, _, _⟩ := (merge2 h h4).ok
  obtain ⟨a, b⟩ := h.merge h hc h1 h2 h3
  exact ⟨a, by omega⟩
theorem zero2 (h : HV ia lx fa ta) (h4 : ∀ t, numE lx t ≤ 400) : sumD lx (mergeP lx lx 99) 99 = 0 := by
  refine sumD_zero (m := 2) (n := 1) (fun t => ?_) (by have := (hv2 h h4).2; omega) (by omega) 99
  rw [mergeP_num (nn2 h) t 99]
  split
  · omega
  · rename_i hn
    rw [num_out h (by omega)]; rfl
end
section
variable {ia fa ta ib fb tb im fm tm : Int} {la lb lm : List (Int × Int)}
theorem near_sums (h : MergeIs ia la fa ta ib lb fb tb im lm fm tm 0) : HV im lm fm tm ∧ totE lm = totE la + totE lb ∧ sumD la lm 99 = sumD la lb 99 ∧ sumD lm lb 99 = sumD la lb 99 := by
  obtain ⟨ha, hb, hc, h1, h2, h3, rfl, rfl⟩ := h.ok
  obtain ⟨hv, ht⟩ := ha.merge hb hc h1 h2 h3
  have hnn : ∀ t, 0 ≤ numE la t + numE lb t := fun t => by have := (ha.nn t).1; have := (hb.nn t).1; omega
  refine ⟨hv, ht, sumD_merge (fun t t1 t2 => by rw [mergeP_num hnn, if_pos ⟨t1, t2⟩]) ht 99 (by omega), ?_⟩
  rw [sumD_comm, sumD_comm la lb]
  exact sumD_merge (fun t t1 t2 => by rw [mergeP_num hnn, if_pos ⟨t1, t2⟩, Int.add_comm]) (by omega) 99 (by omega)
theorem full_iff (ha : HV ia la fa ta) (hb : HV ib lb fb tb) : disD la lb = quo 100 1 ↔ comR la lb 99 = [] := by
  have h1 := ha.pos
  have h2 := hb.pos
  have h3 := sumD_eq (a := la) (b := lb) (by omega) (by omega) (fun t => (ha.nn t).1) (fun t => (hb.nn t).1) 99
  rw [sumE_eq, sumE_eq, ha.sum, hb.sum, Int.mul_comm (totE lb)] at h3
  rw [dis_full (by omega) (by omega), show 2 * (totE la * totE lb) = totE la * totE lb + totE la * totE lb by omega, h3]
  constructor
  · intro h
    refine List.eq_nil_iff_forall_not_mem.2 fun t ht => ?_
    obtain ⟨t1, t2, t3⟩ := comR_mem.1 ht
    have h4 := h (t - 1).toNat (by omega)
    rw [show (((t - 1).toNat : Nat) : Int) + 1 = t by omega] at h4
    omega
  · intro h i hi
    have h5 : ¬ ((i : Int) + 1) ∈ comR la lb 99 := by rw [h]; simp
    have h6 := (ha.nn ((i : Int) + 1)).1
    have h7 := (hb.nn ((i : Int) + 1)).1
    rw [comR_mem] at h5
    omega
theorem t100 : fracText (quo 100 1) = [49, 48, 48] := lit_text (s := false) (a := 100) (b := 1) (quo_rv 100 (by decide)) (by omega) (by omega) (by decide +kernel)
theorem t200 : fracText (quo 200 1) = [50, 48, 48] := lit_text (s := false) (a := 200) (b := 1) (quo_rv 200 (by decide)) (by omega) (by omega) (by decide +kernel)
theorem text100 {q : Rat} (h : fracText q = [49, 48, 48]) : q = quo 100 1 := by
  have hs : sg q = false := by
    cases e : sg q with
    | false => rfl
    | true => rw [fracText, e] at h; simp at h
  rw [fracText, hs] at h
  by_cases hd : q.den = 1
  · rw [if_pos hd] at h
    have h1 : Lib.decDigits (nu q) = [49, 48, 48] := by simpa using h
    have h2 := dval_dec (nu q)
    rw [h1] at h2
    have h3 : nu q = 100 := h2.symm.trans (by decide)
    rw [← rv_self q, hs, hd, h3]
    exact (quo_rv 100 (d := 1) (by decide)).symm
  · rw [if_neg hd] at h
    have h4 : (47 : UInt8) ∈ [49, 48, 48] := by rw [← h]; simp
    exact absurd h4 (by decide)
theorem full_text (ha : HV ia la fa ta) (hb : HV ib lb fb tb) : fracText (disD la lb) = [49, 48, 48] ↔ comR la lb 99 = [] := by
  rw [← full_iff ha hb]
  exact ⟨text100, fun h => by rw [h, t100]⟩
end
theorem dis_lt {ia fa ta ib fb tb : Int} {la lb : List (Int × Int)} (ha : HV ia la fa ta) (hb : HV ib lb fb tb) : disD la lb ≤ quo 100 1 :=
  dis_le (by have := ha.pos; omega) (by have := hb.pos; omega) (sumD_bd ha hb (by omega)).2
theorem dis_sz {ia fa ta ib fb tb : Int} {la lb : List (Int × Int)} (ha : HV ia la fa ta) (hb : HV ib lb fb tb) : Sz (disD la lb) 2 := by
  have h1 := tots ha hb
  have h2 := sumD_bd ha hb (Nat.le_refl 99)
  exact quo_sz (by omega) (by omega) (by omega) (by omega)
/-- the hoards of the fixed results -/
theorem hA0 : HV 1 [(1, 1), (2, 1)] 1 1 := ⟨by omega, by simp, listed2 (by omega) (by omega) (by omega) (by omega) (by omega), by unfold YV; omega⟩
theorem hB0 : HV 2 [(2, 3)] 1 1 := ⟨by omega, by simp, fun i x hx => by
  match i, hx with
  | 0, hx => simp at hx; subst hx; exact ⟨by omega, by omega, fun j y h => absurd h (by omega)⟩
  | i + 1, hx => simp at hx, by unfold YV; omega⟩
theorem pA0 : PH [72, 49, 58, 32, 49, 120, 49, 32, 50, 120, 49, 59, 32, 49, 32, 65, 68] 1 [(1, 1), (2, 1)] 1 1 0 := .inl ⟨rfl, hA0, by decide +kernel⟩
theorem pB0 : PH [72, 50, 58, 32, 50, 120, 51, 59, 32, 49, 32, 65, 68] 2 [(2, 3)] 1 1 0 := .inl ⟨rfl, hB0, by decide +kernel⟩
theorem cAB : coD [(1, 1), (2, 1)] [(2, 3)] 99 = quo 100 1 := by
  have h1 : sumD [(1, 1), (2, 1)] [(2, 3)] 99 = 6 := by decide +kernel
  have h2 : totE [(1, 1), (2, 1)] = 2 := by decide +kernel
  have h3 : totE [(2, 3)] = 3 := by decide +kernel
  rw [coD, h1, h2, h3]
  exact quo_eq (by decide) (by decide) (by decide)
end Go.Proofs.YthempimelfmipaaGreatDoor

namespace Go.Proofs.YthempimelfmipaaGreatDoor

section
variable {ia fa ta ib fb tb ic fc tc im fm tm : Int} {la lb lc lm : List (Int × Int)}
theorem coD_comm (a b : List (Int × Int)) (k : Nat) : coD a b k = coD b a k := by
  rw [coD, coD, sumD_comm, Int.mul_comm (totE a)]
theorem coD_le (ha : HV ia la fa ta) (hb : HV ib lb fb tb) : coD la lb 99 ≤ quo 200 1 := by
  have h1 := tots ha hb
  have h2 := sumD_bd ha hb (Nat.le_refl 99)
  exact quo_le (by omega) (by omega) (by omega)
theorem coD_nn (ha : HV ia la fa ta) (hb : HV ib lb fb tb) : quo 0 1 ≤ coD la lb 99 := by
  have h1 := tots ha hb
  have h2 := sumD_bd ha hb (Nat.le_refl 99)
  exact quo_le (by omega) (by omega) (by omega)
theorem coD_full (ha : HV ia la fa ta) (hb : HV ib lb fb tb) : coD la lb 99 = quo 200 1 ↔ sumD la lb 99 = 0 := by
  have h1 := tots ha hb
  constructor
  · intro h
    have h2 := quo_inj (by omega) (by omega) h
    omega
  · intro h
    exact quo_eq (by omega) (by omega) (by omega)
theorem coD_none (ha : HV ia la fa ta) (hb : HV ib lb fb tb) : coD la lb 99 = quo 0 1 ↔ sumD la lb 99 = 2 * (totE la * totE lb) := by
  have h1 := tots ha hb
  constructor
  · intro h
    have h2 := quo_inj (by omega) (by omega) h
    omega
  · intro h
    exact quo_eq (by omega) (by omega) (by omega)
theorem sumD_zero_iff (a b : List (Int × Int)) : ∀ k : Nat, sumD a b k = 0 ↔ ∀ i : Nat, i < k → difT a b ((i : Int) + 1) = 0
  | 0 => ⟨fun _ i hi => by omega, fun _ => rfl⟩
  | k + 1 => by
    have ih := sumD_zero_iff a b k
    have h1 := sumD_nn a b k
    have h2 : 0 ≤ difT a b ((k : Int) + 1) := mag_nn _
    rw [sumD]
    constructor
    · intro h i hi
      by_cases e : i = k
      · subst e; omega
      · exact ih.1 (by omega) i (by omega)
    · intro h
      have := ih.2 fun i hi => h i (by omega)
      have := h k (by omega)
      omega
/-- the same shares: no difference -/
theorem difT_share (ha : HV ia la fa ta) (hb : HV ib lb fb tb) (t : Int) : difT la lb t = 0 ↔ shq la t = shq lb t := by
  have h1 := ha.pos
  have h2 := hb.pos
  rw [shq_quo (ha.nn t).1 (by omega), shq_quo (hb.nn t).1 (by omega), difT, mag]
  constructor
  · intro h
    refine quo_eq (by omega) (by omega) ?_
    split at h <;> omega
  · intro h
    have h3 := quo_inj (by omega) (by omega) h
    split <;> omega
/-- some type in both: the coefficient is positive -/
theorem coD_common (ha : HV ia la fa ta) (hb : HV ib lb fb tb) : coD la lb 99 = quo 0 1 ↔ ∀ t : Int, 1 ≤ t → t ≤ 99 → ¬ (0 < numE la t ∧ 0 < numE lb t) := by
  have h1 := full_iff ha hb
  have h2 := ha.pos
  have h3 := hb.pos
  rw [dis_full (by omega) (by omega)] at h1
  rw [coD_none ha hb, h1, List.eq_nil_iff_forall_not_mem]
  constructor
  · intro h t t1 t2 ht
    exact h t (comR_mem.2 ⟨⟨t1, t2⟩, ht⟩)
  · intro h t ht
    obtain ⟨⟨t1, t2⟩, h4⟩ := comR_mem.1 ht
    exact h t t1 t2 h4
/-- a merged hoard is not farther from a third one than one of its parts -/
theorem sumD_third (a b c m : List (Int × Int)) (h1 : ∀ t, 1 ≤ t → t ≤ 99 → numE m t = numE a t + numE b t) (h2 : totE m = totE a + totE b) : ∀ k : Nat, k ≤ 99 → sumD m c k ≤ sumD a c k + sumD b c k
  | 0, _ => by simp [sumD]
  | k + 1, hk => by
    have ih := sumD_third a b c m h1 h2 k (by omega)
    have h3 := mag_add (numE a ((k : Int) + 1) * totE c - numE c ((k : Int) + 1) * totE a) (numE b ((k : Int) + 1) * totE c - numE c ((k : Int) + 1) * totE b)
    rw [show numE a ((k : Int) + 1) * totE c - numE c ((k : Int) + 1) * totE a + (numE b ((k : Int) + 1) * totE c - numE c ((k : Int) + 1) * totE b) = numE m ((k : Int) + 1) * totE c - numE c ((k : Int) + 1) * totE m by
      rw [h1 _ (by omega) (by omega), h2, Int.add_mul, Int.mul_add]; omega] at h3
    rw [sumD, sumD, sumD, difT, difT, difT]
    omega
theorem dis_third (ha : HV ia la fa ta) (hb : HV ib lb fb tb) (hc : HV ic lc fc tc) (hm : MergeIs ia la fa ta ib lb fb tb im lm fm tm 0) : disD lm lc ≤ disD la lc ∨ disD lm lc ≤ disD lb lc := by
  obtain ⟨_, _, hcm, h1, h2, h3, rfl, rfl⟩ := hm.ok
  obtain ⟨hv, ht⟩ := ha.merge hb hcm h1 h2 h3
  have hnn : ∀ t, 0 ≤ numE la t + numE lb t := fun t => by have := (ha.nn t).1; have := (hb.nn t).1; omega
  have h4 := sumD_third la lb lc _ (fun t t1 t2 => by rw [mergeP_num hnn, if_pos ⟨t1, t2⟩]) ht 99 (by omega)
  have p1 := ha.pos
  have p2 := hb.pos
  have p3 := hc.pos
  have q1 := (tots ha hc).1
  have q2 := (tots hb hc).1
  have q3 := (tots hv hc).1
  rw [disD, disD, disD]
  generalize sumD (mergeP la lb 99) lc 99 = s at *
  by_cases h5 : s * totE la ≤ sumD la lc 99 * totE (mergeP la lb 99)
  · refine .inl (quo_le q3 q1 ?_)
    have h6 := Int.mul_le_mul_of_nonneg_right h5 (show 0 ≤ 50 * totE lc by omega)
    have e1 : 50 * s * (totE la * totE lc) = s * totE la * (50 * totE lc) := by grind
    have e2 : 50 * sumD la lc 99 * (totE (mergeP la lb 99) * totE lc) = sumD la lc 99 * totE (mergeP la lb 99) * (50 * totE lc) := by grind
    rw [e1, e2]; exact h6
  · by_cases h7 : s * totE lb ≤ sumD lb lc 99 * totE (mergeP la lb 99)
    · refine .inr (quo_le q3 q2 ?_)
      have h6 := Int.mul_le_mul_of_nonneg_right h7 (show 0 ≤ 50 * totE lc by omega)
      have e1 : 50 * s * (totE lb * totE lc) = s * totE lb * (50 * totE lc) := by grind
      have e2 : 50 * sumD lb lc 99 * (totE (mergeP la lb 99) * totE lc) = sumD lb lc 99 * totE (mergeP la lb 99) * (50 * totE lc) := by grind
      rw [e1, e2]; exact h6
    · exfalso
      have h8 : s * totE (mergeP la lb 99) = s * totE la + s * totE lb := by rw [ht, Int.mul_add]
      have h9 := Int.mul_le_mul_of_nonneg_right h4 (show 0 ≤ totE (mergeP la lb 99) by omega)
      rw [Int.add_mul] at h9
      omega
end
/-- all numbers times k -/
def mulL (k : Int) (l : List (Int × Int)) : List (Int × Int) := l.map fun x => (x.1, k * x.2)
theorem mulL_num (k : Int) (t : Int) : ∀ l : List (Int × Int), numE (mulL k l) t = k * numE l t
  | [] => by simp [mulL, numE]
  | x :: l => by
    have ih := mulL_num k t l
    rw [mulL, List.map_cons, ← mulL, numE, numE, ih, Int.mul_add]
    split <;> simp
theorem mulL_tot (k : Int) : ∀ l : List (Int × Int), totE (mulL k l) = k * totE l
  | [] => by simp [mulL, totE]
  | x :: l => by
    have ih := mulL_tot k l
    rw [mulL, List.map_cons, ← mulL, totE, totE, ih, Int.mul_add]
theorem mulL_sumD {k : Int} (hk : 0 ≤ k) (a b : List (Int × Int)) : ∀ n : Nat, sumD (mulL k a) b n = k * sumD a b n
  | 0 => by simp [sumD]
  | n + 1 => by
    have ih := mulL_sumD hk a b n
    rw [sumD, sumD, ih, Int.mul_add, difT, difT, mulL_num, mulL_tot]
    congr 1
    rw [show k * numE a ((n : Int) + 1) * totE b - numE b ((n : Int) + 1) * (k * totE a) = (numE a ((n : Int) + 1) * totE b - numE b ((n : Int) + 1) * totE a) * k by grind, mag_mul _ hk, Int.mul_comm]
theorem mulL_co {k : Int} (hk : 0 < k) {a b : List (Int × Int)} (ha : 0 < totE a) (hb : 0 < totE b) : coD (mulL k a) b 99 = coD a b 99 := by
  have h1 := Int.mul_pos ha hb
  have h2 := Int.mul_pos hk h1
  rw [coD, coD, mulL_sumD (by omega), mulL_tot]
  refine quo_eq (by rw [Int.mul_assoc]; exact h2) h1 ?_
  grind
theorem mulL_len (k : Int) (l : List (Int × Int)) : (mulL k l).length = l.length := by simp [mulL]
end Go.Proofs.YthempimelfmipaaGreatDoor
