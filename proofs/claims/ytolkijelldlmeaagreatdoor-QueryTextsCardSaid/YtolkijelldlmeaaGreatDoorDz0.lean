/- Plain: the digits of numbers; what the library's cuts give on texts that are built of them. -/
import Derived.Test.YtolkijelldlmeaaGreatDoorPMath
import Derived.Lib.Split
import Derived.Lib.AtoiAll
namespace Go.Proofs.YtolkijelldlmeaaGreatDoor
open Go


/-- the digits of a number that is not negative -/
def dz (n : Int) : List UInt8 := Lib.decDigits n.toNat
theorem dz_len {n : Int} {k : Nat} (h : n < 10 ^ k) (hk : 1 ≤ k) (h0 : 0 ≤ n) : (dz n).length ≤ k := by
  rw [dz, Lib.decDigits_length]
  refine nDigits_le hk ?_
  have : ((n.toNat : Nat) : Int) < ((10 ^ k : Nat) : Int) := by rw [Int.toNat_of_nonneg h0]; exact_mod_cast h
  exact_mod_cast this
theorem index_at (c : UInt8) (p b : List UInt8) : ∀ a : List UInt8, c ∉ a → Lib.index (a ++ (c :: p ++ b)) (c :: p) = a.length
  | [], _ => by
    unfold Lib.index
    have h : (c :: p).isPrefixOf ([] ++ (c :: p ++ b)) = true := by rw [List.nil_append, List.isPrefixOf_iff_prefix]; exact List.prefix_append _ _
    rw [List.nil_append] at h ⊢
    rw [List.cons_append] at h ⊢
    simp only [h, if_true]; rfl
  | x :: a, h => by
    have hx : (c :: p).isPrefixOf (x :: (a ++ (c :: p ++ b))) = false := by
      have hne : c ≠ x := fun e => h (by rw [e]; exact List.mem_cons_self)
      rw [List.isPrefixOf, beq_eq_false_iff_ne.2 hne]; rfl
    have ih := index_at c p b a (fun e => h (List.mem_cons_of_mem _ e))
    rw [List.cons_append]
    unfold Lib.index
    rw [hx, ih]
    have : ((a.length : Int) == -1) = false := by rw [beq_eq_false_iff_ne]; omega
    simp [this]
theorem cut_at (c : UInt8) (p a b : List UInt8) (h : c ∉ a) : Lib.cut (a ++ (c :: p ++ b)) (c :: p) = (a, b, true) := by
  rw [Lib.cut, index_at c p b a h, if_pos (by omega)]
  have h1 : ((a.length : Int)).toNat = a.length := by omega
  rw [h1, List.take_left, List.drop_append]
  simp
theorem index_miss (c : UInt8) (p : List UInt8) : ∀ a : List UInt8, c ∉ a → Lib.index a (c :: p) = -1
  | [], _ => rfl
  | x :: a, h => by
    have hx : (c :: p).isPrefixOf (x :: a) = false := by
      have hne : c ≠ x := fun e => h (by rw [e]; exact List.mem_cons_self)
      rw [List.isPrefixOf, beq_eq_false_iff_ne.2 hne]; rfl
    have ih := index_miss c p a (fun e => h (List.mem_cons_of_mem _ e))
    unfold Lib.index
    rw [hx, ih]; rfl
theorem cut_none (c : UInt8) (p a : List UInt8) (h : c ∉ a) : Lib.cut a (c :: p) = (a, [], false) := by
  rw [Lib.cut, index_miss c p a h, if_neg (by omega)]
theorem dz_not {c : UInt8} (h : isDig c = false) (n : Int) : c ∉ dz n := fun m => by
  have h1 := List.all_eq_true.1 (dec_all n.toNat) c m
  rw [h] at h1; cases h1
/-- the number at the beginning of a text, of at most k digits, and the rest (the reference's reader) -/
def numK : Nat → List UInt8 → Nat → Nat × List UInt8
  | 0, l, n => (n, l)
  | _ + 1, [], n => (n, [])
  | k + 1, b :: l, n => if isDig b then numK k l (10 * n + (b.toNat - 48)) else (n, b :: l)
theorem numK_app : ∀ (l r : List UInt8) (k n : Nat), l.all isDig = true → l.length ≤ k → (∀ b r', r = b :: r' → isDig b = false) → numK k (l ++ r) n = (dval n l, r)
  | [], r, k, n, _, _, hr => by
    cases k with
    | zero => rfl
    | succ k =>
      cases r with
      | nil => rfl
      | cons b r' => rw [List.nil_append, numK, hr b r' rfl]; rfl
  | b :: l, r, k, n, hl, hk, hr => by
    obtain ⟨k, rfl⟩ : ∃ j, k = j + 1 := ⟨k - 1, by simp at hk; omega⟩
    rw [List.all_cons, Bool.and_eq_true] at hl
    rw [List.cons_append, numK, if_pos hl.1, numK_app l r k _ hl.2 (by simp at hk; omega) hr]
    rfl
theorem numK_dz {n : Int} {k : Nat} (h0 : 0 ≤ n) (h : n < 10 ^ k) (hk : 1 ≤ k) {r : List UInt8} (hr : ∀ b r', r = b :: r' → isDig b = false) : numK k (dz n ++ r) 0 = (n.toNat, r) := by
  rw [numK_app (dz n) r k 0 (dec_all _) (dz_len h hk h0) hr, dz, dval_dec]
theorem numK_lt : ∀ (k : Nat) (l : List UInt8) (n : Nat), (numK k l n).1 < (n + 1) * 10 ^ k
  | 0, l, n => by rw [numK]; simp
  | k + 1, [], n => by
    rw [numK]
    have : 0 < 10 ^ (k + 1) := Nat.pow_pos (by omega)
    calc n < n + 1 := by omega
      _ ≤ (n + 1) * 10 ^ (k + 1) := Nat.le_mul_of_pos_right _ this
  | k + 1, b :: l, n => by
    rw [numK]
    split
    · next hb =>
      have h1 := isDig_iff.1 hb
      have h2 := numK_lt k l (10 * n + (b.toNat - 48))
      refine Nat.lt_of_lt_of_le h2 ?_
      rw [Nat.pow_succ, Nat.mul_comm (10 ^ k) 10, ← Nat.mul_assoc]
      exact Nat.mul_le_mul_right _ (by omega)
    · have : 0 < 10 ^ (k + 1) := Nat.pow_pos (by omega)
      calc n < n + 1 := by omega
        _ ≤ (n + 1) * 10 ^ (k + 1) := Nat.le_mul_of_pos_right _ this
/-- words, each behind a separator -/
def sepd (s : List UInt8) (ws : List (List UInt8)) : List UInt8 := ws.flatMap fun w => s ++ w
theorem sepd_cons (s w : List UInt8) (ws : List (List UInt8)) : sepd s (w :: ws) = s ++ (w ++ sepd s ws) := by simp [sepd]
theorem split_sepd (c : UInt8) (p : List UInt8) : ∀ (ws : List (List UInt8)) (w : List UInt8) (k : Nat), c ∉ w → (∀ x ∈ ws, c ∉ x) → ws.length ≤ k → Lib.splitK (c :: p) 0 k (w ++ sepd (c :: p) ws) = w :: ws
  | [], w, k, h, _, _ => by
    have h1 : w ++ sepd (c :: p) [] = w := by simp [sepd]
    rw [h1]
    cases k with
    | zero => rfl
    | succ k => rw [Lib.splitK, index_miss c p w h]; rfl
  | x :: ws, w, k, h, hx, hk => by
    obtain ⟨k, rfl⟩ : ∃ j, k = j + 1 := ⟨k - 1, by simp at hk; omega⟩
    rw [sepd_cons, Lib.splitK, index_at c p _ w h]
    have h2 : ((w.length : Int) == -1) = false := by rw [beq_eq_false_iff_ne]; omega
    have h3 : ((w.length : Int)).toNat = w.length := by omega
    have hd : (w ++ (c :: p ++ (x ++ sepd (c :: p) ws))).drop (w.length + (c :: p).length) = x ++ sepd (c :: p) ws := by
      rw [← List.append_assoc, show w.length + (c :: p).length = (w ++ c :: p).length by simp, List.drop_left]
    rw [h2, h3, Nat.add_zero, List.take_left, hd]
    have ih := split_sepd c p ws x k (hx x List.mem_cons_self) (fun y hy => hx y (List.mem_cons_of_mem _ hy)) (by simp at hk; omega)
    rw [ih]; rfl
theorem count_sepd (c : UInt8) (p : List UInt8) : ∀ (ws : List (List UInt8)) (w : List UInt8) (f : Nat), c ∉ w → (∀ x ∈ ws, c ∉ x) → ws.length + 1 ≤ f → Lib.countFrom (c :: p) f (w ++ sepd (c :: p) ws) = ws.length
  | [], w, f, h, _, hf => by
    obtain ⟨f, rfl⟩ : ∃ j, f = j + 1 := ⟨f - 1, by simp at hf; omega⟩
    have h1 : w ++ sepd (c :: p) [] = w := by simp [sepd]
    rw [h1, Lib.countFrom, index_miss c p w h]; rfl
  | x :: ws, w, f, h, hx, hf => by
    obtain ⟨f, rfl⟩ : ∃ j, f = j + 1 := ⟨f - 1, by simp at hf; omega⟩
    rw [sepd_cons, Lib.countFrom, index_at c p _ w h]
    have h2 : ((w.length : Int) == -1) = false := by rw [beq_eq_false_iff_ne]; omega
    have h3 : ((w.length : Int)).toNat = w.length := by omega
    have hd : (w ++ (c :: p ++ (x ++ sepd (c :: p) ws))).drop (w.length + (c :: p).length) = x ++ sepd (c :: p) ws := by
      rw [← List.append_assoc, show w.length + (c :: p).length = (w ++ c :: p).length by simp, List.drop_left]
    rw [h2, h3, hd]
    have ih := count_sepd c p ws x f (hx x List.mem_cons_self) (fun y hy => hx y (List.mem_cons_of_mem _ hy)) (by simp at hf; omega)
    rw [ih]; simp; omega
theorem sepd_len (c : UInt8) (p : List UInt8) (ws : List (List UInt8)) : ws.length ≤ (sepd (c :: p) ws).length := by
  induction ws with
  | nil => simp
  | cons w ws ih => rw [sepd_cons]; simp; omega
theorem split_at (c : UInt8) (p : List UInt8) (w : List UInt8) (ws : List (List UInt8)) (h : c ∉ w) (hx : ∀ x ∈ ws, c ∉ x) : Lib.split (w ++ sepd (c :: p) ws) (c :: p) = w :: ws := by
  rw [Lib.split, Lib.count, count_sepd _ _ _ _ _ h hx (by have := sepd_len c p ws; rw [List.length_append]; omega), split_sepd _ _ _ _ _ h hx (Nat.le_refl _)]
/-- the library reads a row of digits as its value -/
theorem parseUint_dig : ∀ (l : List UInt8) (a : Nat), l.all isDig = true → dval a l < 1844674407370955162 → Lib.parseUint10 a l = .ok (dval a l)
  | [], a, _, _ => rfl
  | c :: r, a, h, hv => by
    rw [List.all_cons, Bool.and_eq_true] at h
    obtain ⟨h1, h2⟩ := h
    rw [isDig_iff] at h1
    rw [dval_cons] at hv ⊢
    have hge : 10 * a + (c.toNat - 48) ≤ dval (10 * a + (c.toNat - 48)) r := by
      rw [dval_acc]
      have : 1 ≤ 10 ^ r.length := Nat.one_le_pow _ _ (by decide)
      have := Nat.le_mul_of_pos_right (10 * a + (c.toNat - 48)) (show 0 < 10 ^ r.length by omega)
      omega
    rw [Lib.parseUint10, if_pos h1, if_neg (by omega), if_neg (by omega), Nat.mul_comm a 10]
    exact parseUint_dig r _ h2 hv
theorem atoi_dig {l : List UInt8} (hn : l ≠ []) (ha : l.all isDig = true) (hv : dval 0 l < 1844674407370955162) : Lib.atoiAll l = .ok (dval 0 l : Nat) := by
  cases l with
  | nil => exact absurd rfl hn
  | cons c r =>
    have hc := ha
    rw [List.all_cons, Bool.and_eq_true, isDig_iff] at hc
    rw [Lib.atoiAll]
    have h1 : ¬ (c.toNat = 43 ∨ c.toNat = 45) := by omega
    have h2 : ¬ c.toNat = 45 := by omega
    rw [if_neg h1, Lib.parseMag, if_neg (by simp), parseUint_dig _ 0 ha hv]
    simp [h2]
    omega
theorem atoi_dz {n : Int} (h0 : 0 ≤ n) (h1 : n < 1000000000000000000) : Lib.atoiAll (dz n) = .ok n := by
  have hd : dval 0 (dz n) = n.toNat := dval_dec _
  have hp := dec_len_pos n.toNat
  rw [atoi_dig (l := dz n) (fun e => by rw [dz] at e; rw [e] at hp; simp at hp) (dec_all _) (by rw [hd]; omega), hd, Int.toNat_of_nonneg h0]
theorem dz_ne (n : Int) : dz n ≠ [] := fun e => by
  have hp := dec_len_pos n.toNat
  rw [dz] at e; rw [e] at hp; simp at hp
theorem dz_all (n : Int) : (dz n).all isDig = true := dec_all _
theorem dz_inj {n m : Int} (h0 : 0 ≤ n) (h1 : 0 ≤ m) (h : dz n = dz m) : n = m := by
  have h2 : dval 0 (dz n) = dval 0 (dz m) := by rw [h]
  rw [show dval 0 (dz n) = n.toNat from dval_dec _, show dval 0 (dz m) = m.toNat from dval_dec _] at h2
  omega
end Go.Proofs.YtolkijelldlmeaaGreatDoor
