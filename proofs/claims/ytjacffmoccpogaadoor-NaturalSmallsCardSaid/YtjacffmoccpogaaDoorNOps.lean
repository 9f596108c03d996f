/- The naturals' contracts (package and reference), their results under a name of the caller's choice. -/
import Derived.Test.YtjacffmoccpogaaDoorNat9
import Derived.Test.YtjacffmoccpogaaDoorRef4
import Derived.Test.YtjacffmoccpogaaDoorNMore
import Derived.Test.YtjacffmoccpogaaDoorRText
import Derived.Test.YtjacffmoccpogaaDoorRPow
import Derived.Test.YtjacffmoccpogaaDoorNParse
import Derived.Test.YtjacffmoccpogaaDoorRParse
namespace Go.Proofs.YtjacffmoccpogaaDoor
open Go.RowKit Go.Proofs Go

/-- a natural at hand: its limbs' value is q; at most k limbs -/
def Nr (w : World) (A : Option Addr) (n c q k : Nat) : Prop := ∃ l, Lim w A c l ∧ n = l.length ∧ q = val l ∧ n ≤ k
/-- the canonical natural of a value -/
structure Nc (w : World) (A : Option Addr) (c u j : Nat) : Prop where
  num : Lim w A c (dig u)
  sz : (dig u).length ≤ j
section
variable {w w' : World} {A B : Option Addr} {n m c d p q u v k k' j i : Nat}
theorem Nr.ext (h : Nr w A n c q k) (hb : Below w.heap.size w w') : Nr w' A n c q k := by
  obtain ⟨l, h1, h2⟩ := h
  exact ⟨l, h1.ext hb, h2⟩
theorem Nr.stay (h : Nr w A n c q k) (hk : Keep w w') : Nr w' A n c q k := by
  obtain ⟨l, h1, h2⟩ := h
  exact ⟨l, h1.stay hk, h2⟩
theorem Nr.len (h : Nr w A n c q k) : (dig q).length ≤ n + 1 := by
  obtain ⟨l, h1, h2, h3, _⟩ := h
  subst h3; exact dig_len_of h1.small h2
theorem Nr.le (h : Nr w A n c q k) : n ≤ k := by
  obtain ⟨l, _, _, _, h4⟩ := h
  exact h4
theorem Nc.ext (h : Nc w A c u j) (hb : Below w.heap.size w w') : Nc w' A c u j := ⟨h.num.ext hb, h.sz⟩
theorem Nc.stay (h : Nc w A c u j) (hk : Keep w w') : Nc w' A c u j := ⟨h.num.stay hk, h.sz⟩
theorem Nc.nr (h : Nc w A c u j) : Nr w A (dig u).length c u j := ⟨_, h.num, rfl, (val_dig u).symm, h.sz⟩
theorem Nc.nil (w : World) (j : Nat) : Nc w none 0 0 j := ⟨Lim.nil _ _ _, by rw [dig_zero]; simp⟩
def RetNc (w : World) (u j : Nat) (e : Ending) (w' : World) : Prop := ∃ A c, e = .returned (.agg #[.slice A (dig u).length c]) ∧ Nc w' A c u j ∧ Below w.heap.size w w'
def RetNcE (w : World) (u j : Nat) (err : Int) (e : Ending) (w' : World) : Prop := ∃ A c, e = .returned (.tuple #[.agg #[.slice A (dig u).length c], .int .i64 err]) ∧ Nc w' A c u j ∧ Below w.heap.size w w'
def RetNcc (w : World) (u j v i : Nat) (err : Int) (e : Ending) (w' : World) : Prop := ∃ A c B d, e = .returned (.tuple #[.agg #[.slice A (dig u).length c], .agg #[.slice B (dig v).length d], .int .i64 err]) ∧ Nc w' A c u j ∧ Nc w' B d v i ∧ Below w.heap.size w w'
theorem RetN.toC {x : Nat} {e : Ending} (h : RetN w x e w') (hu : Hid (x = u)) (hs : (dig u).length ≤ j) : RetNc w u j e w' := by
  obtain rfl := hu.out
  obtain ⟨A, c, h1, h2, h3⟩ := h
  exact ⟨A, c, h1, ⟨h2, hs⟩, h3⟩
theorem RetNE.toC {x : Nat} {r : Int} {e : Ending} (h : RetNE w x r e w') (hu : Hid (x = u)) (hs : (dig u).length ≤ j) : RetNcE w u j r e w' := by
  obtain rfl := hu.out
  obtain ⟨A, c, h1, h2, h3⟩ := h
  exact ⟨A, c, h1, ⟨h2, hs⟩, h3⟩
theorem RetNNE.toC {x y : Nat} {r : Int} {e : Ending} (h : RetNNE w x y r e w') (hu : Hid (x = u)) (hv : Hid (y = v)) (hs : (dig u).length ≤ j) (hs' : (dig v).length ≤ i) : RetNcc w u j v i r e w' := by
  obtain rfl := hu.out
  obtain rfl := hv.out
  obtain ⟨A, c, B, d, h1, h2, h3, h4⟩ := h
  exact ⟨A, c, B, d, h1, ⟨h2, hs⟩, ⟨h3, hs'⟩, h4⟩
theorem nadd_h (hu : Hid (p + q = u)) (hs : (dig u).length ≤ j) (h : Nr w A n c p k) (h' : Nr w B m d q k') (hk : k ≤ 1073741824) (hk' : k' ≤ 1073741824) :
    Calls Tryd.prog 34 #[.agg #[.slice A n c], .agg #[.slice B m d]] w (RetNc w u j) := by
  obtain ⟨l, a1, a2, rfl, a4⟩ := h
  obtain ⟨r, b1, b2, rfl, b4⟩ := h'
  exact (nadd_any A B n m c d l r w a1 b1 a2 b2 (by omega) (by omega)).mono fun _ _ h => h.toC hu hs
theorem nmul_h (hu : Hid (p * q = u)) (hs : (dig u).length ≤ j) (h : Nr w A n c p k) (h' : Nr w B m d q k') (hk : k ≤ 1073741824) (hk' : k' ≤ 1073741824) :
    Calls Tryd.prog 31 #[.agg #[.slice A n c], .agg #[.slice B m d]] w (RetNc w u j) := by
  obtain ⟨l, a1, a2, rfl, a4⟩ := h
  obtain ⟨r, b1, b2, rfl, b4⟩ := h'
  exact (nmul_any A B n m c d l r w a1 b1 a2 b2 (by omega) (by omega)).mono fun _ _ h => h.toC hu hs
theorem ngcd_h (hu : Hid (Nat.gcd p q = u)) (hs : (dig u).length ≤ j) (h : Nr w A n c p k) (h' : Nr w B m d q k') (hk : k ≤ 1073741824) (hk' : k' ≤ 1073741824) :
    Calls Tryd.prog 26 #[.agg #[.slice A n c], .agg #[.slice B m d]] w (RetNc w u j) := by
  obtain ⟨l, a1, a2, rfl, a4⟩ := h
  obtain ⟨r, b1, b2, rfl, b4⟩ := h'
  exact (ngcd_any A B n m c d l r w a1 b1 a2 b2 (by omega) (by omega)).mono fun _ _ h => h.toC hu hs
theorem nsub_h {r : Int} (hu : Hid (p - q = u)) (hr : Hid ((if p < q then 2 else 0) = r)) (hs : (dig u).length ≤ j) (h : Nr w A n c p k) (h' : Nr w B m d q k') (hk : k ≤ 1073741824) (hk' : k' ≤ 1073741824) :
    Calls Tryd.prog 32 #[.agg #[.slice A n c], .agg #[.slice B m d]] w (RetNcE w u j r) := by
  obtain ⟨l, a1, a2, rfl, a4⟩ := h
  obtain ⟨r, b1, b2, rfl, b4⟩ := h'
  obtain rfl := hr.out
  exact (nsub_any A B n m c d l r w a1 b1 a2 b2 (by omega) (by omega)).mono fun _ _ h => h.toC hu hs
theorem ndivmod_h (hu : Hid (p / q = u)) (hv : Hid (p % q = v)) (h0 : Hid (0 < q)) (hs : (dig u).length ≤ j) (hs' : (dig v).length ≤ i) (h : Nr w A n c p k) (h' : Nr w B m d q k') (hk : k ≤ 1073741824) (hk' : k' ≤ 1073741824) :
    Calls Tryd.prog 28 #[.agg #[.slice A n c], .agg #[.slice B m d]] w (RetNcc w u j v i 0) := by
  obtain ⟨l, a1, a2, rfl, a4⟩ := h
  obtain ⟨r, b1, b2, rfl, b4⟩ := h'
  exact (ndivmod_any A B n m c d l r w a1 b1 a2 b2 (by omega) (by omega) h0.out).mono fun _ _ h => h.toC hu hv hs hs'
theorem ndivmodz_h (h0 : Hid (q = 0)) (h : Nr w A n c p k) (h' : Nr w B m d q k') (_ : k ≤ 1073741824) (hk' : k' ≤ 1073741824) :
    Calls Tryd.prog 28 #[.agg #[.slice A n c], .agg #[.slice B m d]] w (RetNcc w 0 0 0 0 12) := by
  obtain ⟨l, a1, a2, rfl, a4⟩ := h
  obtain ⟨r, b1, b2, rfl, b4⟩ := h'
  exact (ndivmod_zero A B n m c d l r w b1 b2 (by omega) h0.out).mono fun _ _ h => h.toC (Lib.hid rfl) (Lib.hid rfl) (by rw [dig_zero]; simp) (by rw [dig_zero]; simp)
theorem nof_h {x : Nat} (hu : Hid (x = u)) (hs : (dig u).length ≤ j) (hx : x < 18446744073709551616) :
    Calls Tryd.prog 25 #[.int .u64 (x : Int)] w (RetNc w u j) := (nof_any x w (by omega)).mono fun _ _ h => h.toC hu hs
theorem ncmp_h {x : Int} (hu : Hid (cmpI p q = x)) (h : Nr w A n c p k) (h' : Nr w B m d q k') (hk : k ≤ 1073741824) (hk' : k' ≤ 1073741824) :
    Calls Tryd.prog 24 #[.agg #[.slice A n c], .agg #[.slice B m d]] w (RetI w x) := by
  obtain ⟨l, a1, a2, rfl, a4⟩ := h
  obtain ⟨r, b1, b2, rfl, b4⟩ := h'
  exact (ncmp_any A B n m c d l r w a1 b1 a2 b2 (by omega) (by omega)).mono fun _ _ h => ⟨by rw [h.1, hu.out], h.2⟩
theorem nnorm_h (hu : Hid (p = u)) (hs : (dig u).length ≤ j) (h : Nr w A n c p k) (hk : k ≤ 1073741824) :
    Calls Tryd.prog 35 #[.agg #[.slice A n c]] w (RetNc w u j) := by
  obtain ⟨l, a1, a2, rfl, a4⟩ := h
  exact (nnorm_any A n c l w a1 a2 (by omega)).mono fun _ _ h => h.toC hu hs
theorem radd_h (hu : Hid (p + q = u)) (hs : (dig u).length ≤ j) (h : Nr w A n c p k) (h' : Nr w B m d q k') (hk : k ≤ 536870910) (hk' : k' ≤ 536870910) :
    Calls Tryd.prog 36 #[.agg #[.slice A n c], .agg #[.slice B m d]] w (RetNc w u j) := by
  obtain ⟨l, a1, a2, rfl, a4⟩ := h
  obtain ⟨r, b1, b2, rfl, b4⟩ := h'
  exact (radd_any A B n m c d l r w a1 b1 a2 b2 (by omega) (by omega)).mono fun _ _ h => h.toC hu hs
theorem rmul_h (hu : Hid (p * q = u)) (hs : (dig u).length ≤ j) (h : Nr w A n c p k) (h' : Nr w B m d q k') (hk : k ≤ 536870910) (hk' : k' ≤ 536870910) :
    Calls Tryd.prog 37 #[.agg #[.slice A n c], .agg #[.slice B m d]] w (RetNc w u j) := by
  obtain ⟨l, a1, a2, rfl, a4⟩ := h
  obtain ⟨r, b1, b2, rfl, b4⟩ := h'
  exact (rmul_any A B n m c d l r w a1 b1 a2 b2 (by omega) (by omega)).mono fun _ _ h => h.toC hu hs
theorem rgcd_h (hu : Hid (Nat.gcd p q = u)) (hs : (dig u).length ≤ j) (h : Nr w A n c p k) (h' : Nr w B m d q k') (hk : k ≤ 536870910) (hk' : k' ≤ 536870910) :
    Calls Tryd.prog 27 #[.agg #[.slice A n c], .agg #[.slice B m d]] w (RetNc w u j) := by
  obtain ⟨l, a1, a2, rfl, a4⟩ := h
  obtain ⟨r, b1, b2, rfl, b4⟩ := h'
  exact (rgcd_any A B n m c d l r w a1 b1 a2 b2 (by omega) (by omega)).mono fun _ _ h => h.toC hu hs
theorem rsub_h {r : Int} (hu : Hid (p - q = u)) (hr : Hid ((if p < q then 2 else 0) = r)) (hs : (dig u).length ≤ j) (h : Nr w A n c p k) (h' : Nr w B m d q k') (hk : k ≤ 536870910) (hk' : k' ≤ 536870910) :
    Calls Tryd.prog 33 #[.agg #[.slice A n c], .agg #[.slice B m d]] w (RetNcE w u j r) := by
  obtain ⟨l, a1, a2, rfl, a4⟩ := h
  obtain ⟨r, b1, b2, rfl, b4⟩ := h'
  obtain rfl := hr.out
  exact (rsub_any A B n m c d l r w a1 b1 a2 b2 (by omega) (by omega)).mono fun _ _ h => h.toC hu hs
theorem rdivmod_h (hu : Hid (p / q = u)) (hv : Hid (p % q = v)) (h0 : Hid (0 < q)) (hs : (dig u).length ≤ j) (hs' : (dig v).length ≤ i) (h : Nr w A n c p k) (h' : Nr w B m d q k') (hk : k ≤ 536870910) (hk' : k' ≤ 536870910) :
    Calls Tryd.prog 53 #[.agg #[.slice A n c], .agg #[.slice B m d]] w (RetNcc w u j v i 0) := by
  obtain ⟨l, a1, a2, rfl, a4⟩ := h
  obtain ⟨r, b1, b2, rfl, b4⟩ := h'
  exact (rdivmod_any A B n m c d l r w a1 b1 a2 b2 (by omega) (by omega) h0.out).mono fun _ _ h => h.toC hu hv hs hs'
theorem rdivmodz_h (h0 : Hid (q = 0)) (h : Nr w A n c p k) (h' : Nr w B m d q k') (hk : k ≤ 536870910) (hk' : k' ≤ 536870910) :
    Calls Tryd.prog 53 #[.agg #[.slice A n c], .agg #[.slice B m d]] w (RetNcc w 0 0 0 0 12) := by
  obtain ⟨l, a1, a2, rfl, a4⟩ := h
  obtain ⟨r, b1, b2, rfl, b4⟩ := h'
  exact (rdivmod_zero A B n m c d l r w a1 b1 a2 b2 (by omega) (by omega) h0.out).mono fun _ _ h => h.toC (Lib.hid rfl) (Lib.hid rfl) (by rw [dig_zero]; simp) (by rw [dig_zero]; simp)
theorem rof_h {x : Nat} (hu : Hid (x = u)) (hs : (dig u).length ≤ j) (hx : x < 18446744073709551616) :
    Calls Tryd.prog 51 #[.int .u64 (x : Int)] w (RetNc w u j) := (rof_any x w (by omega)).mono fun _ _ h => h.toC hu hs
theorem rcmp_h {x : Int} (hu : Hid (cmpI p q = x)) (h : Nr w A n c p k) (h' : Nr w B m d q k') (hk : k ≤ 536870910) (hk' : k' ≤ 536870910) :
    Calls Tryd.prog 38 #[.agg #[.slice A n c], .agg #[.slice B m d]] w (RetI w x) := by
  obtain ⟨l, a1, a2, rfl, a4⟩ := h
  obtain ⟨r, b1, b2, rfl, b4⟩ := h'
  exact (rcmp_any A B n m c d l r w a1 b1 a2 b2 (by omega) (by omega)).mono fun _ _ h => ⟨by rw [h.1, hu.out], h.2⟩
theorem rnorm_h (hu : Hid (p = u)) (hs : (dig u).length ≤ j) (h : Nr w A n c p k) (hk : k ≤ 536870910) :
    Calls Tryd.prog 19 #[.agg #[.slice A n c]] w (RetNc w u j) := by
  obtain ⟨l, a1, a2, rfl, a4⟩ := h
  exact (rnorm_any A n c l w a1 a2 (by omega)).mono fun _ _ h => h.toC hu hs
theorem bnat_h {b : Bool} (hb : Hid (decide (p = q) = b)) (h : Nc w A c p k) (h' : Nc w B d q k') (hk : k ≤ 1099511627776) (hk' : k' ≤ 1099511627776) :
    Calls Tryd.prog 40 #[.agg #[.slice A (dig p).length c], .agg #[.slice B (dig q).length d]] w (RetB w b) := by
  have e1 := h.sz
  have e2 := h'.sz
  exact (bnat_any A B _ _ c d (dig p) (dig q) w h.num h'.num rfl rfl (by omega) (by omega)).mono fun _ _ h => ⟨by rw [h.1, ← hb.out]; simp only [dig_eq_iff], h.2⟩
end
end Go.Proofs.YtjacffmoccpogaaDoor
