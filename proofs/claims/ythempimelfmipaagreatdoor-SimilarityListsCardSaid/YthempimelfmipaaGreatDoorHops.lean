/- The package fraction's contracts, their results under a name of the caller's choice. -/
import Derived.Test.YthempimelfmipaaGreatDoorHLaw1
import Derived.Test.YthempimelfmipaaGreatDoorRfr1
namespace Go.Proofs.YthempimelfmipaaGreatDoor
open Go.RowKit Go.Proofs Go

/-- the canonical fraction of a number, its terms in at most j limbs -/
structure Fc (w : World) (A : Option Addr) (c : Nat) (B : Option Addr) (d : Nat) (u : Rat) (j : Nat) : Prop where
  num : Lim w A c (dig (nu u))
  den : Lim w B d (dig u.den)
  sz : Sz u j
section
variable {w w' : World} {A B : Option Addr} {c d : Nat} {u : Rat} {j : Nat}
theorem Fc.ext (h : Fc w A c B d u j) (hb : Below w.heap.size w w') : Fc w' A c B d u j := ⟨h.num.ext hb, h.den.ext hb, h.sz⟩
theorem Fc.fr (h : Fc w A c B d u j) : Fr w (sg u) A (dig (nu u)).length c B (dig u.den).length d u j := Fr.of h.num h.den h.sz
theorem Fc.stay (h : Fc w A c B d u j) (hk : Keep w w') : Fc w' A c B d u j := ⟨h.num.stay hk, h.den.stay hk, h.sz⟩
end
def RetG (w : World) (u : Rat) (j : Nat) (e : Ending) (w' : World) : Prop :=
  ∃ A c B d, e = .returned (.agg #[.bool (sg u), .slice A (dig (nu u)).length c, .slice B (dig u.den).length d]) ∧ Fc w' A c B d u j ∧ Below w.heap.size w w'
def RetGE (w : World) (u : Rat) (j : Nat) (e : Ending) (w' : World) : Prop :=
  ∃ A c B d, e = .returned (.tuple #[.agg #[.bool (sg u), .slice A (dig (nu u)).length c, .slice B (dig u.den).length d], .int .i64 0]) ∧ Fc w' A c B d u j ∧ Below w.heap.size w w'
theorem RetQ.toF {w w' : World} {q u : Rat} {e : Ending} {j : Nat} (h : RetQ w q e w') (hu : Hid (q = u)) (hs : Sz u j) : RetG w u j e w' := by
  obtain rfl := hu.out
  obtain ⟨A, c, B, d, h1, h2, h3, h4⟩ := h
  exact ⟨A, c, B, d, h1, ⟨h2, h3, hs⟩, h4⟩
theorem RetQE.toF {w w' : World} {q u : Rat} {e : Ending} {j : Nat} (h : RetQE w q e w') (hu : Hid (q = u)) (hs : Sz u j) : RetGE w u j e w' := by
  obtain rfl := hu.out
  obtain ⟨A, c, B, d, h1, h2, h3, h4⟩ := h
  exact ⟨A, c, B, d, h1, ⟨h2, h3, hs⟩, h4⟩

section
variable {w : World} {s t : Bool} {A B A' B' : Option Addr} {n c m d n' c' m' d' : Nat} {p q u : Rat} {k k' j : Nat}
theorem fadd_h (hu : Hid (p + q = u)) (hs : Sz u j) (h : Fr w s A n c B m d p k) (h' : Fr w t A' n' c' B' m' d' q k') (hk : k ≤ 134217726) (hk' : k' ≤ 134217726) :
    Calls Tryz.prog 37 #[.agg #[.bool s, .slice A n c, .slice B m d], .agg #[.bool t, .slice A' n' c', .slice B' m' d']] w (RetG w u j) := (fadd_any w h h' (by omega) (by omega)).mono fun _ _ h => h.toF hu hs
theorem fsub_h (hu : Hid (p - q = u)) (hs : Sz u j) (h : Fr w s A n c B m d p k) (h' : Fr w t A' n' c' B' m' d' q k') (hk : k ≤ 134217726) (hk' : k' ≤ 134217726) :
    Calls Tryz.prog 70 #[.agg #[.bool s, .slice A n c, .slice B m d], .agg #[.bool t, .slice A' n' c', .slice B' m' d']] w (RetG w u j) := (fsub_any w h h' (by omega) (by omega)).mono fun _ _ h => h.toF hu hs
theorem fmul_h (hu : Hid (p * q = u)) (hs : Sz u j) (h : Fr w s A n c B m d p k) (h' : Fr w t A' n' c' B' m' d' q k') (hk : k ≤ 134217726) (hk' : k' ≤ 134217726) :
    Calls Tryz.prog 69 #[.agg #[.bool s, .slice A n c, .slice B m d], .agg #[.bool t, .slice A' n' c', .slice B' m' d']] w (RetG w u j) := (fmul_any w h h' (by omega) (by omega)).mono fun _ _ h => h.toF hu hs
theorem fnorm_s (hs : Sz p j) (h : Fr w s A n c B m d p k) (hk : k ≤ 134217726) :
    Calls Tryz.prog 74 #[.agg #[.bool s, .slice A n c, .slice B m d]] w (RetG w p j) := (fnorm_any w h (by omega)).mono fun _ _ h => h.toF (Lib.hid rfl) hs
theorem fneg_h (hu : Hid (-p = u)) (hs : Sz u j) (h : Fr w s A n c B m d p k) (hk : k ≤ 134217726) :
    Calls Tryz.prog 79 #[.agg #[.bool s, .slice A n c, .slice B m d]] w (RetG w u j) := (fneg_any w h (by omega)).mono fun _ _ h => h.toF hu hs
theorem fnorm_h (hu : Hid (p = u)) (hs : Sz u j) (h : Fr w s A n c B m d p k) (hk : k ≤ 134217726) :
    Calls Tryz.prog 74 #[.agg #[.bool s, .slice A n c, .slice B m d]] w (RetG w u j) := (fnorm_any w h (by omega)).mono fun _ _ h => h.toF hu hs
theorem fof_h {x y : Int} (hu : Hid (rv (!(decide (x < 0) == decide (y < 0))) x.natAbs y.natAbs = u)) (hs : Sz u j) (h1 : -9223372036854775808 ≤ x) (h2 : x ≤ 9223372036854775807) (h3 : -9223372036854775808 ≤ y) (h4 : y ≤ 9223372036854775807) :
    Calls Tryz.prog 19 #[.int .i64 x, .int .i64 y] w (RetG w u j) := (fof_any x y h1 h2 h3 h4 w).mono fun _ _ h => h.toF hu hs
theorem fsign_h {x : Int} (hu : Hid (sgn p = x)) (h : Fr w s A n c B m d p k) (hk : k ≤ 134217726) :
    Calls Tryz.prog 18 #[.agg #[.bool s, .slice A n c, .slice B m d]] w (RetI w x) := (fsign_any w h (by omega)).mono fun _ _ h => ⟨by rw [h.1, hu.out], h.2⟩
theorem fcmp_h {x : Int} (hu : Hid (cmpQ p q = x)) (h : Fr w s A n c B m d p k) (h' : Fr w t A' n' c' B' m' d' q k') (hk : k ≤ 134217726) (hk' : k' ≤ 134217726) :
    Calls Tryz.prog 17 #[.agg #[.bool s, .slice A n c, .slice B m d], .agg #[.bool t, .slice A' n' c', .slice B' m' d']] w (RetI w x) := (fcmp_any w h h' (by omega) (by omega)).mono fun _ _ h => ⟨by rw [h.1, hu.out], h.2⟩
theorem bfrac_h {b : Bool} (hb : Hid (decide (p = q) = b)) (h : Fc w A c B d p k) (h' : Fc w A' c' B' d' q k') (hk : k ≤ 134217726) (hk' : k' ≤ 134217726) :
    Calls Tryz.prog 14 #[.agg #[.bool (sg p), .slice A (dig (nu p)).length c, .slice B (dig p.den).length d], .agg #[.bool (sg q), .slice A' (dig (nu q)).length c', .slice B' (dig q.den).length d']] w (RetB w b) := (bfrac_q w h.num h.den h'.num h'.den h.sz h'.sz (by omega) (by omega)).mono fun _ _ h => ⟨by rw [h.1, hb.out], h.2⟩
theorem bfrac_s (h : Fc w A c B d p k) (h' : Fc w A' c' B' d' p k') (hk : k ≤ 134217726) (hk' : k' ≤ 134217726) :
    Calls Tryz.prog 14 #[.agg #[.bool (sg p), .slice A (dig (nu p)).length c, .slice B (dig p.den).length d], .agg #[.bool (sg p), .slice A' (dig (nu p)).length c', .slice B' (dig p.den).length d']] w (RetB w true) := bfrac_h (Lib.hid (decide_eq_true rfl)) h h' hk hk'
end
theorem lit_text {q : Rat} {s : Bool} {a b : Nat} {l : List UInt8} (hq : q = rv s a b) (ha : 0 < a) (hb : 0 < b) (h : (if s then [45] else []) ++ Lib.decDigits (a / Nat.gcd a b) ++ (if b / Nat.gcd a b = 1 then [] else 47 :: Lib.decDigits (b / Nat.gcd a b)) = l) : fracText q = l := by
  subst hq
  rw [fracText, sg_rv s ha hb, nu_rv s hb, den_rv s hb, h]
theorem list_beq {l m : List UInt8} (h : l = m) : (l == m) = true := by subst h; exact beq_self_eq_true _
theorem sz_lit (s : Bool) {a b : Nat} (ha : a < 1000000000) (hb : b < 1000000000) : Sz (rv s a b) 1 := Sz.of_rv (dig_len_le (by rw [pw, Nat.pow_one]; exact ha)) (dig_len_le (by rw [pw, Nat.pow_one]; exact hb)) (by omega)
section
variable {w : World} {s t : Bool} {A B A' B' : Option Addr} {n c m d n' c' m' d' : Nat} {p q u : Rat} {k k' j : Nat}
theorem qof_h {x y : Int} (hu : Hid (rv (!(decide (x < 0) == decide (y < 0))) x.natAbs y.natAbs = u)) (hs : Sz u j) (h1 : -9223372036854775808 ≤ x) (h2 : x ≤ 9223372036854775807) (h3 : -9223372036854775808 ≤ y) (h4 : y ≤ 9223372036854775807) :
    Calls Tryz.prog 63 #[.int .i64 x, .int .i64 y] w (RetG w u j) := (qof_any x y h1 h2 h3 h4 w).mono fun _ _ h => h.toF hu hs
/-- no fraction at all, twice -/
theorem bfrac_0 : Calls Tryz.prog 14 #[.agg #[.bool false, .slice none 0 0, .slice none 0 0], .agg #[.bool false, .slice none 0 0, .slice none 0 0]] w (RetB w true) :=
  (bfrac_any (l := []) (r := []) (l' := []) (r' := []) w (Lim.nil _ _ _) (Lim.nil _ _ _) (Lim.nil _ _ _) (Lim.nil _ _ _) rfl rfl rfl rfl (by simp) (by simp) (by simp) (by simp)).mono fun _ _ h => ⟨h.1, h.2⟩
end
end Go.Proofs.YthempimelfmipaaGreatDoor
