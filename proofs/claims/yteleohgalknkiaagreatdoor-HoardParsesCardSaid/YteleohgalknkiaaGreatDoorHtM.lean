/- The texts of years and of hoards. -/
import Derived.Test.YteleohgalknkiaaGreatDoorPMath
import Derived.Lib.Split
import Derived.Lib.AtoiAll
import Derived.Test.YteleohgalknkiaaGreatDoorBL
import Derived.Test.YteleohgalknkiaaGreatDoorText2
import Derived.Test.YteleohgalknkiaaGreatDoorShelf
import Derived.Lib.ItoaMem
import Derived.Test.YteleohgalknkiaaGreatDoorHm
import Derived.Deep.RegionWith
namespace Go.Proofs.YteleohgalknkiaaGreatDoor
open Go


/-- the digits of a number that is not negative -/
def dz (n : Int) : List UInt8 := Lib.decDigits n.toNat
theorem dz_len {n : Int} {k : Nat} (h : n < 10 ^ k) (hk : 1 ≤ k) (h0 : 0 ≤ n) : (dz n).length ≤ k := by
  rw [dz, Lib.decDigits_length]
  refine nDigits_le hk ?_
  have : ((n.toNat : Nat) : Int) < ((10 ^ k : Nat) : Int) := by rw [Int.toNat_of_nonneg h0]; exact_mod_cast h
  exact_mod_cast this
theorem index_at (c : UInt8) (p b : List UInt8) : ∀ a : List UInt8, c ∉ a → Lib.index (a ++ (c :: p ++ b)) (c :: p) = a.length
  | [], _ => by
    unfold Lib.index
    have h : (c :: p).isPrefixOf ([] ++ (c :: p ++ b)) = true := by rw [List.nil_append, List.isPrefixOf_iff_prefix]; exact List.prefix_append _ _
    rw [List.nil_append] at h ⊢
    rw [List.cons_append] at h ⊢
    simp only [h, if_true]; rfl
  | x :: a, h => by
    have hx : (c :: p).isPrefixOf (x :: (a ++ (c :: p ++ b))) = false := by
      have hne : c ≠ x := fun e => h (by rw [e]; exact List.mem_cons_self)
      rw [List.isPrefixOf, beq_eq_false_iff_ne.2 hne]; rfl
    have ih := index_at c p b a (fun e => h (List.mem_cons_of_mem _ e))
    rw [List.cons_append]
    unfold Lib.index
    rw [hx, ih]
    have : ((a.length : Int) == -1) = false := by rw [beq_eq_false_iff_ne]; omega
    simp [this]
theorem cut_at (c : UInt8) (p a b : List UInt8) (h : c ∉ a) : Lib.cut (a ++ (c :: p ++ b)) (c :: p) = (a, b, true) := by
  rw [Lib.cut, index_at c p b a h, if_pos (by omega)]
  have h1 : ((a.length : Int)).toNat = a.length := by omega
  rw [h1, List.take_left, List.drop_append]
  simp
theorem index_miss (c : UInt8) (p : List UInt8) : ∀ a : List UInt8, c ∉ a → Lib.index a (c :: p) = -1
  | [], _ => rfl
  | x :: a, h => by
    have hx : (c :: p).isPrefixOf (x :: a) = false := by
      have hne : c ≠ x := fun e => h (by rw [e]; exact List.mem_cons_self)
      rw [List.isPrefixOf, beq_eq_false_iff_ne.2 hne]; rfl
    have ih := index_miss c p a (fun e => h (List.mem_cons_of_mem _ e))
    unfold Lib.index
    rw [hx, ih]; rfl
theorem cut_none (c : UInt8) (p a : List UInt8) (h : c ∉ a) : Lib.cut a (c :: p) = (a, [], false) := by
  rw [Lib.cut, index_miss c p a h, if_neg (by omega)]
theorem dz_not {c : UInt8} (h : isDig c = false) (n : Int) : c ∉ dz n := fun m => by
  have h1 := List.all_eq_true.1 (dec_all n.toNat) c m
  rw [h] at h1; cases h1
/-- the number at the beginning of a text, of at most k digits, and the rest (the reference's reader) -/
def numK : Nat → List UInt8 → Nat → Nat × List UInt8
  | 0, l, n => (n, l)
  | _ + 1, [], n => (n, [])
  | k + 1, b :: l, n => if isDig b then numK k l (10 * n + (b.toNat - 48)) else (n, b :: l)
theorem numK_app : ∀ (l r : List UInt8) (k n : Nat), l.all isDig = true → l.length ≤ k → (∀ b r', r = b :: r' → isDig b = false) → numK k (l ++ r) n = (dval n l, r)
  | [], r, k, n, _, _, hr => by
    cases k with
    | zero => rfl
    | succ k =>
      cases r with
      | nil => rfl
      | cons b r' => rw [List.nil_append, numK, hr b r' rfl]; rfl
  | b :: l, r, k, n, hl, hk, hr => by
    obtain ⟨k, rfl⟩ : ∃ j, k = j + 1 := ⟨k - 1, by simp at hk; omega⟩
    rw [List.all_cons, Bool.and_eq_true] at hl
    rw [List.cons_append, numK, if_pos hl.1, numK_app l r k _ hl.2 (by simp at hk; omega) hr]
    rfl
theorem numK_dz {n : Int} {k : Nat} (h0 : 0 ≤ n) (h : n < 10 ^ k) (hk : 1 ≤ k) {r : List UInt8} (hr : ∀ b r', r = b :: r' → isDig b = false) : numK k (dz n ++ r) 0 = (n.toNat, r) := by
  rw [numK_app (dz n) r k 0 (dec_all _) (dz_len h hk h0) hr, dz, dval_dec]
theorem numK_lt : ∀ (k : Nat) (l : List UInt8) (n : Nat), (numK k l n).1 < (n + 1) * 10 ^ k
  | 0, l, n => by rw [numK]; simp
  | k + 1, [], n => by
    rw [numK]
    have : 0 < 10 ^ (k + 1) := Nat.pow_pos (by omega)
    calc n < n + 1 := by omega
      _ ≤ (n + 1) * 10 ^ (k + 1) := Nat.le_mul_of_pos_right _ this
  | k + 1, b :: l, n => by
    rw [numK]
    split
    · next hb =>
      have h1 := isDig_iff.1 hb
      have h2 := numK_lt k l (10 * n + (b.toNat - 48))
      refine Nat.lt_of_lt_of_le h2 ?_
      rw [Nat.pow_succ, Nat.mul_comm (10 ^ k) 10, ← Nat.mul_assoc]
      exact Nat.mul_le_mul_right _ (by omega)
    · have : 0 < 10 ^ (k + 1) := Nat.pow_pos (by omega)
      calc n < n + 1 := by omega
        _ ≤ (n + 1) * 10 ^ (k + 1) := Nat.le_mul_of_pos_right _ this
/-- words, each behind a separator -/
def sepd (s : List UInt8) (ws : List (List UInt8)) : List UInt8 := ws.flatMap fun w => s ++ w
theorem sepd_cons (s w : List UInt8) (ws : List (List UInt8)) : sepd s (w :: ws) = s ++ (w ++ sepd s ws) := by simp [sepd]
theorem split_sepd (c : UInt8) (p : List UInt8) : ∀ (ws : List (List UInt8)) (w : List UInt8) (k : Nat), c ∉ w → (∀ x ∈ ws, c ∉ x) → ws.length ≤ k → Lib.splitK (c :: p) 0 k (w ++ sepd (c :: p) ws) = w :: ws
  | [], w, k, h, _, _ => by
    have h1 : w ++ sepd (c :: p) [] = w := by simp [sepd]
    rw [h1]
    cases k with
    | zero => rfl
    | succ k => rw [Lib.splitK, index_miss c p w h]; rfl
  | x :: ws, w, k, h, hx, hk => by
    obtain ⟨k, rfl⟩ : ∃ j, k = j + 1 := ⟨k - 1, by simp at hk; omega⟩
    rw [sepd_cons, Lib.splitK, index_at c p _ w h]
    have h2 : ((w.length : Int) == -1) = false := by rw [beq_eq_false_iff_ne]; omega
    have h3 : ((w.length : Int)).toNat = w.length := by omega
    have hd : (w ++ (c :: p ++ (x ++ sepd (c :: p) ws))).drop (w.length + (c :: p).length) = x ++ sepd (c :: p) ws := by
      rw [← List.append_assoc, show w.length + (c :: p).length = (w ++ c :: p).length by simp, List.drop_left]
    rw [h2, h3, Nat.add_zero, List.take_left, hd]
    have ih := split_sepd c p ws x k (hx x List.mem_cons_self) (fun y hy => hx y (List.mem_cons_of_mem _ hy)) (by simp at hk; omega)
    rw [ih]; rfl
theorem count_sepd (c : UInt8) (p : List UInt8) : ∀ (ws : List (List UInt8)) (w : List UInt8) (f : Nat), c ∉ w → (∀ x ∈ ws, c ∉ x) → ws.length + 1 ≤ f → Lib.countFrom (c :: p) f (w ++ sepd (c :: p) ws) = ws.length
  | [], w, f, h, _, hf => by
    obtain ⟨f, rfl⟩ : ∃ j, f = j + 1 := ⟨f - 1, by simp at hf; omega⟩
    have h1 : w ++ sepd (c :: p) [] = w := by simp [sepd]
    rw [h1, Lib.countFrom, index_miss c p w h]; rfl
  | x :: ws, w, f, h, hx, hf => by
    obtain ⟨f, rfl⟩ : ∃ j, f = j + 1 := ⟨f - 1, by simp at hf; omega⟩
    rw [sepd_cons, Lib.countFrom, index_at c p _ w h]
    have h2 : ((w.length : Int) == -1) = false := by rw [beq_eq_false_iff_ne]; omega
    have h3 : ((w.length : Int)).toNat = w.length := by omega
    have hd : (w ++ (c :: p ++ (x ++ sepd (c :: p) ws))).drop (w.length + (c :: p).length) = x ++ sepd (c :: p) ws := by
      rw [← List.append_assoc, show w.length + (c :: p).length = (w ++ c :: p).length by simp, List.drop_left]
    rw [h2, h3, hd]
    have ih := count_sepd c p ws x f (hx x List.mem_cons_self) (fun y hy => hx y (List.mem_cons_of_mem _ hy)) (by simp at hf; omega)
    rw [ih]; simp; omega
theorem sepd_len (c : UInt8) (p : List UInt8) (ws : List (List UInt8)) : ws.length ≤ (sepd (c :: p) ws).length := by
  induction ws with
  | nil => simp
  | cons w ws ih => rw [sepd_cons]; simp; omega
theorem split_at (c : UInt8) (p : List UInt8) (w : List UInt8) (ws : List (List UInt8)) (h : c ∉ w) (hx : ∀ x ∈ ws, c ∉ x) : Lib.split (w ++ sepd (c :: p) ws) (c :: p) = w :: ws := by
  rw [Lib.split, Lib.count, count_sepd _ _ _ _ _ h hx (by have := sepd_len c p ws; rw [List.length_append]; omega), split_sepd _ _ _ _ _ h hx (Nat.le_refl _)]
/-- the library reads a row of digits as its value -/
theorem parseUint_dig : ∀ (l : List UInt8) (a : Nat), l.all isDig = true → dval a l < 1844674407370955162 → Lib.parseUint10 a l = .ok (dval a l)
  | [], a, _, _ => rfl
  | c :: r, a, h, hv => by
    rw [List.all_cons, Bool.and_eq_true] at h
    obtain ⟨h1, h2⟩ := h
    rw [isDig_iff] at h1
    rw [dval_cons] at hv ⊢
    have hge : 10 * a + (c.toNat - 48) ≤ dval (10 * a + (c.toNat - 48)) r := by
      rw [dval_acc]
      have : 1 ≤ 10 ^ r.length := Nat.one_le_pow _ _ (by decide)
      have := Nat.le_mul_of_pos_right (10 * a + (c.toNat - 48)) (show 0 < 10 ^ r.length by omega)
      omega
    rw [Lib.parseUint10, if_pos h1, if_neg (by omega), if_neg (by omega), Nat.mul_comm a 10]
    exact parseUint_dig r _ h2 hv
theorem atoi_dig {l : List UInt8} (hn : l ≠ []) (ha : l.all isDig = true) (hv : dval 0 l < 1844674407370955162) : Lib.atoiAll l = .ok (dval 0 l : Nat) := by
  cases l with
  | nil => exact absurd rfl hn
  | cons c r =>
    have hc := ha
    rw [List.all_cons, Bool.and_eq_true, isDig_iff] at hc
    rw [Lib.atoiAll]
    have h1 : ¬ (c.toNat = 43 ∨ c.toNat = 45) := by omega
    have h2 : ¬ c.toNat = 45 := by omega
    rw [if_neg h1, Lib.parseMag, if_neg (by simp), parseUint_dig _ 0 ha hv]
    simp [h2]
    omega
theorem atoi_dz {n : Int} (h0 : 0 ≤ n) (h1 : n < 1000000000000000000) : Lib.atoiAll (dz n) = .ok n := by
  have hd : dval 0 (dz n) = n.toNat := dval_dec _
  have hp := dec_len_pos n.toNat
  rw [atoi_dig (l := dz n) (fun e => by rw [dz] at e; rw [e] at hp; simp at hp) (dec_all _) (by rw [hd]; omega), hd, Int.toNat_of_nonneg h0]
theorem dz_ne (n : Int) : dz n ≠ [] := fun e => by
  have hp := dec_len_pos n.toNat
  rw [dz] at e; rw [e] at hp; simp at hp
theorem dz_all (n : Int) : (dz n).all isDig = true := dec_all _
theorem dz_inj {n m : Int} (h0 : 0 ≤ n) (h1 : 0 ≤ m) (h : dz n = dz m) : n = m := by
  have h2 : dval 0 (dz n) = dval 0 (dz m) := by rw [h]
  rw [show dval 0 (dz n) = n.toNat from dval_dec _, show dval 0 (dz m) = m.toNat from dval_dec _] at h2
  omega
end Go.Proofs.YteleohgalknkiaaGreatDoor

namespace Go.Proofs.YteleohgalknkiaaGreatDoor
open Go.RowKit Go.Proofs Go

theorem below_grow (w : World) (k : Nat) (os : Array Obj) : Below w.heap.size w (Go.Sort.grow (w.drewN k) os) := by
  refine ⟨rfl, rfl, rfl, by simp [Go.Sort.grow, World.drewN], fun i hi => ?_⟩
  show (w.heap ++ os)[i]? = w.heap[i]?
  rw [Array.getElem?_append_left hi]
theorem itoa_h {n : Int} {P : List UInt8} (w : World) (hP : Hid (dz n = P)) (h0 : 0 ≤ n) (h1 : n ≤ 9223372036854775807) (hT : Tab w) :
    Calls Tryz.prog 89 #[.int .i64 n] w fun e w' => e = .returned (.string (str P)) ∧ Below w.heap.size w w' := by
  refine (Tryz.strconv_Itoa n (by omega) h1 w hT).mono ?_
  rintro e w' ⟨rfl, k, os, rfl⟩
  obtain ⟨m, rfl⟩ : ∃ m : Nat, n = m := ⟨n.toNat, by omega⟩
  refine ⟨?_, below_grow w k os⟩
  rw [Lib.itoa_nonneg, ← hP.out]; rfl
theorem str_eq {l m : List UInt8} {b : Bool} (h : (l == m) = b) : ((str l).toList == (str m).toList) = b := by rw [str_toList, str_toList]; exact h

end Go.Proofs.YteleohgalknkiaaGreatDoor

namespace Go.Proofs.YteleohgalknkiaaGreatDoor
open Go.RowKit Go.Proofs Go

/-- a builder that holds acc, all that has turned lying from its block on -/
structure BB (w1 : World) (b : Nat) (acc : List UInt8) (W : World) : Prop where
  i : Lib.IsBuilder 112 5 b b (Lib.byteCells acc) W
  r : Below b w1 W
theorem BB.ext {w1 W W' : World} {b : Nat} {acc : List UInt8} (h : BB w1 b acc W) (hb : Below W.heap.size W W') : BB w1 b acc W' :=
  ⟨isBuilder_ext h.i hb, h.r.trans (hb.mono (by have := isBuilder_lt h.i; omega))⟩
theorem ws_any {w1 w : World} {b : Nat} {acc S : List UInt8} {s : ByteArray} (h : BB w1 b acc w) (hs : Hid (s = str S)) (hl : acc.length + S.length ≤ 100000) :
    Calls Tryz.prog 88 #[.pointer (some ⟨b, 0, none⟩), .string s] w fun e w' => e = .returned (.tuple #[.int .i64 s.size, .nilIface]) ∧ BB w1 b (acc ++ S) w' := by
  have hlt := isBuilder_lt h.i
  have hss := hs.out
  refine (writeString_any b b _ s w h.i (by rw [byteCells_len, hss, str_size]; omega) (by omega)).mono ?_
  rintro e w' ⟨rfl, hI, hb⟩
  rw [hss, strCells_str, byteCells_append] at hI
  exact ⟨rfl, .inr hI, h.r.trans hb⟩
/-- a year's number in its era; the era -/
def ynum (n : Int) : Int := if 0 < n then n else 1 - n
def yera (n : Int) : List UInt8 := if 0 < n then [32, 65, 68] else [32, 66, 67]
def yearText (f t : Int) : List UInt8 :=
  if f = t then dz (ynum f) ++ yera f else if yera f = yera t then dz (ynum f) ++ 45 :: dz (ynum t) ++ yera f else dz (ynum f) ++ yera f ++ 45 :: (dz (ynum t) ++ yera t)
set_option maxRecDepth 100000 in
theorem yname_any {n : Int} {P R : List UInt8} (w : World) (h1 : -9999 ≤ n) (h2 : n ≤ 9999) (hP : Hid (dz (ynum n) = P)) (hR : Hid (yera n = R)) (hT : Tab w) :
    Calls Tryz.prog 142 #[.int .i64 n] w fun e w' => e = .returned (.tuple #[.string (str P), .string (str R)]) ∧ Below w.heap.size w w' := by
  by_cases h0 : 0 < n
  · have hP2 : Hid (dz n = P) := Lib.hid (by rw [← hP.out, ynum, if_pos h0])
    have hR2 := hR.out
    rw [yera, if_pos h0] at hR2
    subst hR2
    go_enter Tryz.func142, Tryz.ntmps142
    go_wp2_with fail
    refine (itoa_h _ hP2 (by omega) (by omega) hT).mono ?_
    rintro e w1 ⟨rfl, hb⟩
    go_wp2
    go_ret2
    exact ⟨rfl, hb⟩
  · obtain ⟨m, hm⟩ : ∃ m, 1 - n = m := ⟨_, rfl⟩
    have hP2 : Hid (dz m = P) := Lib.hid (by rw [← hP.out, ynum, if_neg h0, hm])
    have hR2 := hR.out
    rw [yera, if_neg h0] at hR2
    subst hR2
    have hm2 := Lib.hid hm
    have hm3 : n = 1 - m := by omega
    subst hm3
    clear hm
    go_enter Tryz.func142, Tryz.ntmps142
    go_wp2_with fail
    rw [show (1 : Int) - (1 - m) = m from by omega]
    refine (itoa_h _ hP2 (by omega) (by omega) hT).mono ?_
    rintro e w1 ⟨rfl, hb⟩
    go_wp2
    go_ret2
    exact ⟨rfl, hb⟩
theorem yera_len (n : Int) : (yera n).length = 3 := by rw [yera]; split <;> rfl
set_option maxHeartbeats 1000000 in
set_option maxRecDepth 100000 in
theorem ytext_any {f t : Int} {L : List UInt8} (w : World) (hv : YV f t) (hL : Hid (yearText f t = L)) (hT : Tab w) :
    Calls Tryz.prog 90 #[.agg #[.int .i64 f, .int .i64 t]] w fun e w' => e = .returned (.string (str L)) ∧ Below w.heap.size w w' := by
  have HV1 := yes hv
  obtain ⟨h1, ⟨h2, h3⟩, h4, h5⟩ := hv
  obtain ⟨P, hP⟩ : ∃ P, dz (ynum f) = P := ⟨_, rfl⟩
  obtain ⟨Q, hQ⟩ : ∃ Q, dz (ynum t) = Q := ⟨_, rfl⟩
  obtain ⟨R, hR⟩ : ∃ R, yera f = R := ⟨_, rfl⟩
  obtain ⟨S, hS⟩ : ∃ S, yera t = S := ⟨_, rfl⟩
  have lP : P.length ≤ 5 := hP ▸ dz_len (by rw [ynum]; split <;> omega) (by omega) (by rw [ynum]; split <;> omega)
  have lQ : Q.length ≤ 5 := hQ ▸ dz_len (by rw [ynum]; split <;> omega) (by omega) (by rw [ynum]; split <;> omega)
  have lR : R.length = 3 := hR ▸ yera_len f
  have lS : S.length = 3 := hS ▸ yera_len t
  have sP : (str P).size = P.length := str_size P
  have sQ : (str Q).size = Q.length := str_size Q
  have sR : (str R).size = R.length := str_size R
  have sS : (str S).size = S.length := str_size S
  have hL2 := hL.out
  rw [yearText, hP, hQ, hR, hS] at hL2
  have hPR : (str P ++ str R) = str (P ++ R) := str_append _ _
  have hcomb : f ≠ t → R = S → str P ++ (⟨#[45]⟩ : ByteArray) ++ str Q ++ str R = str L := fun a b => by
    rw [if_neg a, if_pos b] at hL2
    rw [show (⟨#[45]⟩ : ByteArray) = str [45] from rfl, str_append, str_append, str_append, ← hL2]; simp
  have hcomb2 : f ≠ t → R ≠ S → str P ++ str R ++ (⟨#[45]⟩ : ByteArray) ++ str Q ++ str S = str L := fun a b => by
    rw [if_neg a, if_neg b] at hL2
    rw [show (⟨#[45]⟩ : ByteArray) = str [45] from rfl, str_append, str_append, str_append, str_append, ← hL2]; simp
  have hcomb3 : f = t → str P ++ str R = str L := fun a => by
    rw [if_pos a] at hL2
    rw [str_append, ← hL2]
  have HP := Lib.hid hP
  have HQ := Lib.hid hQ
  have HR := Lib.hid hR
  have HS := Lib.hid hS
  have K1 := Lib.hid hcomb
  have K2 := Lib.hid hcomb2
  have K3 := Lib.hid hcomb3
  clear hL2 hP hQ hR hS hL hcomb hcomb2 hcomb3 hPR
  go_enter Tryz.func90, Tryz.ntmps90
  go_wp2_with fail
  have HX := BL.one w #[.int .i64 f, .int .i64 t] 24
  replace hT := hT.ext HX.below
  refine (yvalid_any (b := true) _ HV1).mono ?_
  rintro e w1 ⟨rfl, hb⟩
  replace HX := HX.ext hb
  replace hT := hT.ext hb
  clear hb
  have hc00 := HX.cell 0 0 rfl rfl
  have hc01 := HX.cell 0 1 rfl rfl
  try simp only [List.getElem_toArray, List.getElem_cons_zero, List.getElem_cons_succ] at hc00 hc01
  go_wp2_with fail
  refine (yname_any _ h2 h3 HP HR hT).mono ?_
  rintro e w2 ⟨rfl, hb⟩
  clear hc00 hc01
  replace HX := HX.ext hb
  replace hT := hT.ext hb
  clear hb
  have hc00 := HX.cell 0 0 rfl rfl
  have hc01 := HX.cell 0 1 rfl rfl
  try simp only [List.getElem_toArray, List.getElem_cons_zero, List.getElem_cons_succ] at hc00 hc01
  go_wp2_with fail
  refine (yname_any _ h4 h5 HQ HS hT).mono ?_
  rintro e w3 ⟨rfl, hb⟩
  clear hc00 hc01
  replace HX := HX.ext hb
  clear hb
  have hc00 := HX.cell 0 0 rfl rfl
  have hc01 := HX.cell 0 1 rfl rfl
  try simp only [List.getElem_toArray, List.getElem_cons_zero, List.getElem_cons_succ] at hc00 hc01
  by_cases hft : f = t
  · have hb1 : (f == t) = true := beq_iff_eq.2 hft
    have K := Lib.hid (K3.out hft)
    clear hft
    go_wp2
    go_ret
    exact ⟨by rw [← K.out]; rfl, HX.below⟩
  · have hb1 : (f == t) = false := beq_eq_false_iff_ne.2 hft
    by_cases hrs : R = S
    · have hb2 : ((str R).toList == (str S).toList) = true := str_eq (beq_iff_eq.2 hrs)
      have K := Lib.hid (K1.out hft hrs)
      clear hft hrs
      go_wp2
      go_ret
      exact ⟨by rw [← K.out]; rfl, HX.below⟩
    · have hb2 : ((str R).toList == (str S).toList) = false := str_eq (beq_eq_false_iff_ne.2 hrs)
      have K := Lib.hid (K2.out hft hrs)
      clear hft hrs
      go_wp2
      go_ret
      exact ⟨by rw [← K.out]; rfl, HX.below⟩
/-- the text of a hoard -/
def coinText (x : Int × Int) : List UInt8 := 32 :: (dz x.1 ++ 120 :: dz x.2)
def coinsText (l : List (Int × Int)) : List UInt8 := l.flatMap coinText
def headText (id : Int) : List UInt8 := 72 :: (dz id ++ [58])
def hoardText (id : Int) (l : List (Int × Int)) (f t : Int) : List UInt8 := headText id ++ coinsText l ++ (59 :: 32 :: yearText f t)
theorem coinsText_succ {l : List (Int × Int)} {k : Nat} {x : Int × Int} (h : l[k]? = some x) : coinsText (l.take (k + 1)) = coinsText (l.take k) ++ coinText x := by
  rw [take_succ h, coinsText, List.flatMap_append]; simp [coinsText]
theorem coinText_len {x : Int × Int} (h : (1 ≤ x.1 ∧ x.1 ≤ 99) ∧ (1 ≤ x.2 ∧ x.2 ≤ 999)) : (dz x.1).length ≤ 2 ∧ (dz x.2).length ≤ 3 ∧ (coinText x).length ≤ 7 := by
  have h1 : (dz x.1).length ≤ 2 := dz_len (by omega) (by omega) (by omega)
  have h2 : (dz x.2).length ≤ 3 := dz_len (by omega) (by omega) (by omega)
  refine ⟨h1, h2, ?_⟩
  rw [coinText]; simp; omega
theorem coinsText_len {l : List (Int × Int)} (h : ∀ x ∈ l, (1 ≤ x.1 ∧ x.1 ≤ 99) ∧ (1 ≤ x.2 ∧ x.2 ≤ 999)) : (coinsText l).length ≤ 7 * l.length := by
  induction l with
  | nil => simp [coinsText]
  | cons x l ih =>
    have := ih fun y hy => h y (List.mem_cons_of_mem _ hy)
    have h2 := (coinText_len (h x List.mem_cons_self)).2.2
    have : coinsText (x :: l) = coinText x ++ coinsText l := rfl
    rw [this, List.length_append, List.length_cons]; omega
theorem yearText_len {f t : Int} (hv : YV f t) : (yearText f t).length ≤ 20 := by
  obtain ⟨h1, ⟨h2, h3⟩, h4, h5⟩ := hv
  have a : (dz (ynum f)).length ≤ 5 := dz_len (by rw [ynum]; split <;> omega) (by omega) (by rw [ynum]; split <;> omega)
  have b : (dz (ynum t)).length ≤ 5 := dz_len (by rw [ynum]; split <;> omega) (by omega) (by rw [ynum]; split <;> omega)
  have c := yera_len f
  have d := yera_len t
  rw [yearText]
  split
  · simp; omega
  · split <;> simp <;> omega
set_option maxHeartbeats 4000000 in
set_option maxRecDepth 100000 in
theorem htext_any {id f t : Int} {L : List UInt8} (A : Option Addr) (c : Nat) (l : List (Int × Int)) (w : World) (H : Es w A l) (hl : l.length ≤ 9223372036854775807) (hv : HV id l f t) (hL : Hid (hoardText id l f t = L)) (hT : Tab w) :
    Calls Tryz.prog 30 #[.agg #[.int .i64 id, .slice A l.length c, .int .i64 f, .int .i64 t]] w fun e w' => e = .returned (.string (str L)) ∧ Below w.heap.size w w' := by
  have HV1 := yes hv
  obtain ⟨⟨i1, i2⟩, ⟨_, l2⟩, hli, hy⟩ := hv
  obtain ⟨D, hD⟩ : ∃ D, dz id = D := ⟨_, rfl⟩
  obtain ⟨Y, hY⟩ : ∃ Y, yearText f t = Y := ⟨_, rfl⟩
  have lD : D.length ≤ 2 := hD ▸ dz_len (by omega) (by omega) (by omega)
  have lY : Y.length ≤ 20 := hY ▸ yearText_len hy
  have sD : (str D).size = D.length := str_size D
  have sY : (str Y).size = Y.length := str_size Y
  have K1 : (⟨#[72]⟩ : ByteArray) ++ str D ++ (⟨#[58]⟩ : ByteArray) = str (72 :: (D ++ [58])) := by
    rw [show (⟨#[72]⟩ : ByteArray) = str [72] from rfl, show (⟨#[58]⟩ : ByteArray) = str [58] from rfl, str_append, str_append]; simp
  have K2 : (⟨#[59, 32]⟩ : ByteArray) ++ str Y = str (59 :: 32 :: Y) := str_append [59, 32] Y
  have hL2 := hL.out
  rw [hoardText, headText, hD, hY] at hL2
  have HL := Lib.hid hL2
  have HD := Lib.hid hD
  have HY := Lib.hid hY
  have HLI := Lib.hid hli
  have HYV := Lib.hid hy
  have HK1 := Lib.hid K1
  have HK2 := Lib.hid K2
  clear hL2 hL hD hY hli hy K1 K2
  go_enter Tryz.func30, Tryz.ntmps30
  go_wp2_with fail
  have HX := BL.one w #[.int .i64 id, .slice A l.length c, .int .i64 f, .int .i64 t] 26
  replace hT := hT.ext HX.below
  replace H := H.ext HX.below
  refine (hvalid_any (b := true) A c l _ H hl HV1).mono ?_
  rintro e w1 ⟨rfl, hb⟩
  replace HX := HX.ext hb
  replace hT := hT.ext hb
  replace H := H.ext hb
  clear hb
  go_upto_region 4 with fail
  have hI0 := Lib.fresh_isBuilder 112 5 w1
  have hlt := HX.lt 0 rfl
  simp only [] at hlt
  obtain ⟨W, hW⟩ : ∃ W, W = w1.alloc (.cells #[.pointer none, .slice none 0 0] 112) := ⟨_, rfl⟩
  have hbW : Below w1.heap.size w1 W := by rw [hW]; exact below_alloc _ _
  rw [← hW] at hI0
  rw [← hW]
  clear hW
  generalize hb0 : w1.heap.size = b at *
  have HX1 := HX
  have H1 := H
  have hT1 := hT
  replace HX := HX.ext (hb0 ▸ hbW)
  replace hT := hT.ext (hb0 ▸ hbW)
  have hc00 := HX.cell 0 0 rfl rfl
  try simp only [List.getElem_toArray, List.getElem_cons_zero] at hc00
  go_wp2_with fail
  refine (itoa_h _ HD (by omega) (by omega) hT).mono ?_
  rintro e w2 ⟨rfl, hb⟩
  clear hc00
  have hI := isBuilder_ext hI0 hb
  have hlb := isBuilder_lt hI0
  have hbr := hbW.trans (hb.mono (by omega))
  have hBb := isBuilder_lt hI
  clear hb hI0 hbW hlb HX hT
  have hK := HK1.out
  go_wp2_with fail
  refine (writeString_any b b _ (str (72 :: (D ++ [58]))) w2 hI (by rw [str_size]; simp; omega) (by omega)).mono ?_
  rintro e w3 ⟨rfl, hI3, hb3⟩
  rw [strCells_str, List.nil_append] at hI3
  have hbr3 := hbr.trans hb3
  clear hI hbr hb3 hBb hK
  have hI3 := Or.inr (a := Lib.BuilderAt 112 5 b b (.pointer none) (Lib.byteCells (72 :: (D ++ [58]))) w3) hI3
  have HX := HX1.ext (hb0 ▸ hbr3)
  have hc01 := HX.cell 0 1 rfl rfl
  try simp only [List.getElem_toArray, List.getElem_cons_zero, List.getElem_cons_succ] at hc01
  go_wp2
  go_loopg [18] l.length (fun k x wr => ∃ j : Nat, j + k = l.length ∧ x = .int .i64 (j : Int) ∧ Lib.IsBuilder 112 5 b b (Lib.byteCells (72 :: (D ++ [58]) ++ coinsText (l.take j))) wr ∧ Below b w1 wr)
  case atStart => exact ⟨0, by omega, rfl, by rw [show coinsText (l.take 0) = [] from rfl, List.append_nil]; exact hI3, hbr3⟩
  case round =>
    clear hc01 HX hI3 hbr3
    obtain ⟨j, hj, rfl, hI, hbr⟩ := hrel
    have hT := hT1.ext (hb0 ▸ hbr)
    have H := H1.ext (hb0 ▸ hbr)
    have hBb := isBuilder_lt hI
    have HX := HX1.ext (hb0 ▸ hbr)
    have hlc : (72 :: (D ++ [58]) ++ coinsText (l.take j)).length ≤ 300 := by
      have h1 := coinsText_len (l := l.take j) fun x hx => HLI.out.mem (List.mem_of_mem_take hx)
      have h2 : (l.take j).length ≤ 32 := Nat.le_trans (List.length_take_le' j l) l2
      simp; omega
    by_cases hj0 : j < l.length
    · have hx := List.getElem?_eq_getElem hj0
      obtain ⟨ad, rfl, hbk, c0, c1⟩ := H.at_ hx
      have hcs := coinsText_succ hx
      obtain ⟨q1, q2, _⟩ := coinText_len (HLI.out.at_ hx)
      obtain ⟨⟨p1, p2⟩, p3, p4⟩ := HLI.out.at_ hx
      clear hx
      generalize l[j] = x at *
      obtain ⟨k, v⟩ := x
      simp only [] at p1 p2 p3 p4 c0 c1 q1 q2
      rw [coinText] at hcs
      simp only [] at hcs
      obtain ⟨P, hP⟩ : ∃ P, dz k = P := ⟨_, rfl⟩
      obtain ⟨Q, hQ⟩ : ∃ Q, dz v = Q := ⟨_, rfl⟩
      rw [hP] at hcs q1
      rw [hQ] at hcs q2
      have sP : (str P).size = P.length := str_size P
      have sQ : (str Q).size = Q.length := str_size Q
      have hK : (⟨#[32]⟩ : ByteArray) ++ str P ++ (⟨#[120]⟩ : ByteArray) ++ str Q = str (32 :: (P ++ 120 :: Q)) := by
        rw [show (⟨#[32]⟩ : ByteArray) = str [32] from rfl, show (⟨#[120]⟩ : ByteArray) = str [120] from rfl, str_append, str_append, str_append]; simp
      have HP := Lib.hid hP
      have HQ := Lib.hid hQ
      have HCS := Lib.hid hcs
      clear hP hQ hcs
      obtain ⟨M, hMM⟩ : ∃ M, 72 :: (D ++ [58]) ++ coinsText (l.take j) = M := ⟨_, rfl⟩
      rw [hMM] at hI hlc
      have HMM := Lib.hid hMM
      clear hMM
      go_upto_region 8 with fail
      have hb8 := below_alloc wr (.cells #[.int .i64 k, .int .i64 v] 77)
      have hI8 := isBuilder_ext hI hb8
      have hT8 := hT.ext hb8
      have hbr8 := hbr.trans (hb8.mono (by omega))
      have HX8 := (BL.nil wr).new #[.int .i64 k, .int .i64 v] 77
      simp only [List.nil_append] at HX8
      clear hI hT hb8 c0 c1 HX hbr hBb H
      generalize wr.alloc (.cells #[.int .i64 k, .int .i64 v] 77) = W8 at *
      generalize wr.heap.size = g8 at *
      have HB8 : BB w1 b M W8 := ⟨hI8, hbr8⟩
      clear hI8 hbr8
      have HKS := Lib.hid hK
      clear hK
      replace HB8 := HB8.ext (drew_ext _)
      replace HX8 := HX8.ext (drew_ext _)
      replace hT8 := hT8.ext (drew_ext _)
      have hd0 := HX8.cell 0 0 rfl rfl
      have hd1 := HX8.cell 0 1 rfl rfl
      try simp only [List.getElem_toArray, List.getElem_cons_zero, List.getElem_cons_succ] at hd0 hd1
      go_region_with ((first
          | (go_at_call_of 89 (Value.int .i64 k); refine (itoa_h _ HP (by omega) (by omega) hT8).mono ?_; rintro e w5 ⟨rfl, hb⟩; replace HX8 := HX8.ext hb; replace hT8 := hT8.ext hb; replace HB8 := HB8.ext hb; clear hb; have he0 := HX8.cell 0 0 rfl rfl; have he1 := HX8.cell 0 1 rfl rfl; (try simp only [List.getElem_toArray, List.getElem_cons_zero, List.getElem_cons_succ] at he0 he1))
          | (go_at_call_of 89 (Value.int .i64 v); refine (itoa_h _ HQ (by omega) (by omega) hT8).mono ?_; rintro e w6 ⟨rfl, hb⟩; replace HX8 := HX8.ext hb; replace hT8 := hT8.ext hb; replace HB8 := HB8.ext hb; clear hb; have he0 := HX8.cell 0 0 rfl rfl; have he1 := HX8.cell 0 1 rfl rfl; (try simp only [List.getElem_toArray, List.getElem_cons_zero, List.getElem_cons_succ] at he0 he1))
          | (go_at_call 88; refine (ws_any HB8 HKS (by simp; omega)).mono ?_; rintro e w7 ⟨rfl, HB9⟩)))
      all_goals (
        go_wp2
        go_roundg (l.length - (j + 1))
        case measure => omega
        case rel => exact ⟨j + 1, by omega, by go_num, by rw [HCS.out, ← List.append_assoc, HMM.out]; exact HB9.i, HB9.r⟩)
    · have hfin : l.take j = l := List.take_of_length_le (by omega)
      rw [hfin] at hI hlc
      clear hfin
      have hc02 := HX.cell 0 2 rfl rfl
      have hc03 := HX.cell 0 3 rfl rfl
      try simp only [List.getElem_toArray, List.getElem_cons_zero, List.getElem_cons_succ] at hc02 hc03
      have hlM := hlc
      have HL3 := HL.out
      have HL3 := Lib.hid HL3
      generalize hM : 72 :: (D ++ [58]) ++ coinsText l = M at *
      have HM := Lib.hid hM
      clear hM
      go_wp2_with fail
      refine (ytext_any _ HYV.out HY hT).mono ?_
      rintro e w4 ⟨rfl, hb4⟩
      clear hc02 hc03
      have hI4 := isBuilder_ext hI hb4
      have hbr4 := hbr.trans (hb4.mono (by omega))
      have hBb4 := isBuilder_lt hI4
      clear hb4 hI
      have hK2 := HK2.out
      go_wp2_with fail
      refine (writeString_any b b _ (str (59 :: 32 :: Y)) w4 hI4 (by rw [byteCells_len, str_size]; simp; omega) (by omega)).mono ?_
      rintro e w5 ⟨rfl, hI5, hb5⟩
      rw [strCells_str, byteCells_append] at hI5
      have hbr5 := hbr4.trans hb5
      have hI5 := Or.inr (a := Lib.BuilderAt 112 5 b b (.pointer none) (Lib.byteCells (M ++ 59 :: 32 :: Y)) w5) hI5
      have hBb5 := isBuilder_lt hI5
      clear hK2
      go_wp2_with fail
      refine (Tryz.Builder_String_any b b (M ++ 59 :: 32 :: Y) w5 hI5 (by omega)).mono ?_
      rintro e w6 ⟨rfl, hb6⟩
      go_wp2
      go_ret
      refine ⟨?_, (HX1.ext (hb0 ▸ (hbr5.trans hb6))).below⟩
      rw [← HL3.out]; rfl
end Go.Proofs.YteleohgalknkiaaGreatDoor
