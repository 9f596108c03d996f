/- The reference's contracts (fractions), their results under a name of the caller's choice. -/
import Derived.Test.YtfndbmflllmpgaaDoorOps
import Derived.Test.YtfndbmflllmpgaaDoorRfr2
namespace Go.Proofs.YtfndbmflllmpgaaDoor
open Go.RowKit Go.Proofs Go

section
variable {w : World} {s t : Bool} {A B A' B' : Option Addr} {n c m d n' c' m' d' : Nat} {p q u : Rat} {k k' j : Nat}
theorem qadd_h (hu : Hid (p + q = u)) (hs : Sz u j) (h : Fr w s A n c B m d p k) (h' : Fr w t A' n' c' B' m' d' q k') (hk : k ≤ 16777216) (hk' : k' ≤ 16777216) :
    Calls Tryd.prog 30 #[.agg #[.bool s, .slice A n c, .slice B m d], .agg #[.bool t, .slice A' n' c', .slice B' m' d']] w (RetG w u j) := (qadd_any w h h' (by omega) (by omega)).mono fun _ _ h => h.toF hu hs
theorem qsub_h (hu : Hid (p - q = u)) (hs : Sz u j) (h : Fr w s A n c B m d p k) (h' : Fr w t A' n' c' B' m' d' q k') (hk : k ≤ 16777216) (hk' : k' ≤ 16777216) :
    Calls Tryd.prog 31 #[.agg #[.bool s, .slice A n c, .slice B m d], .agg #[.bool t, .slice A' n' c', .slice B' m' d']] w (RetG w u j) := (qsub_any w h h' (by omega) (by omega)).mono fun _ _ h => h.toF hu hs
theorem qmul_h (hu : Hid (p * q = u)) (hs : Sz u j) (h : Fr w s A n c B m d p k) (h' : Fr w t A' n' c' B' m' d' q k') (hk : k ≤ 16777216) (hk' : k' ≤ 16777216) :
    Calls Tryd.prog 32 #[.agg #[.bool s, .slice A n c, .slice B m d], .agg #[.bool t, .slice A' n' c', .slice B' m' d']] w (RetG w u j) := (qmul_any w h h' (by omega) (by omega)).mono fun _ _ h => h.toF hu hs
theorem qdiv_h (hu : Hid (p * q⁻¹ = u)) (h0 : Hid (q ≠ 0)) (hs : Sz u j) (h : Fr w s A n c B m d p k) (h' : Fr w t A' n' c' B' m' d' q k') (hk : k ≤ 16777216) (hk' : k' ≤ 16777216) :
    Calls Tryd.prog 27 #[.agg #[.bool s, .slice A n c, .slice B m d], .agg #[.bool t, .slice A' n' c', .slice B' m' d']] w (RetGE w u j) := (qdiv_any w h h' (by omega) (by omega) h0.out).mono fun _ _ h => h.toF hu hs
theorem qdivz_h (h0 : Hid (q = 0)) (h' : Fr w t A' n' c' B' m' d' q k') (hk' : k' ≤ 16777216) :
    Calls Tryd.prog 27 #[.agg #[.bool s, .slice A n c, .slice B m d], .agg #[.bool t, .slice A' n' c', .slice B' m' d']] w (RetZE w 12) := qdiv_zero w h' (by omega) h0.out
theorem qnorm_s (hs : Sz p j) (h : Fr w s A n c B m d p k) (hk : k ≤ 16777216) :
    Calls Tryd.prog 18 #[.agg #[.bool s, .slice A n c, .slice B m d]] w (RetG w p j) := (qnorm_any w h (by omega)).mono fun _ _ h => h.toF (Lib.hid rfl) hs
theorem qneg_h (hu : Hid (-p = u)) (hs : Sz u j) (h : Fr w s A n c B m d p k) (hk : k ≤ 16777216) :
    Calls Tryd.prog 20 #[.agg #[.bool s, .slice A n c, .slice B m d]] w (RetG w u j) := (qneg_any w h (by omega)).mono fun _ _ h => h.toF hu hs
theorem qnorm_h (hu : Hid (p = u)) (hs : Sz u j) (h : Fr w s A n c B m d p k) (hk : k ≤ 16777216) :
    Calls Tryd.prog 18 #[.agg #[.bool s, .slice A n c, .slice B m d]] w (RetG w u j) := (qnorm_any w h (by omega)).mono fun _ _ h => h.toF hu hs
theorem qfloor_h (hu : Hid (flo p = u)) (hs : Sz u j) (h : Fr w s A n c B m d p k) (hk : k ≤ 16777216) :
    Calls Tryd.prog 29 #[.agg #[.bool s, .slice A n c, .slice B m d]] w (RetG w u j) := (qfloor_any w h (by omega)).mono fun _ _ h => h.toF hu hs
theorem qof_h {x y : Int} (hu : Hid (rv (!(decide (x < 0) == decide (y < 0))) x.natAbs y.natAbs = u)) (hs : Sz u j) (h1 : -9223372036854775808 ≤ x) (h2 : x ≤ 9223372036854775807) (h3 : -9223372036854775808 ≤ y) (h4 : y ≤ 9223372036854775807) :
    Calls Tryd.prog 16 #[.int .i64 x, .int .i64 y] w (RetG w u j) := (qof_any x y h1 h2 h3 h4 w).mono fun _ _ h => h.toF hu hs
theorem qsign_h {x : Int} (hu : Hid (sgn p = x)) (h : Fr w s A n c B m d p k) (hk : k ≤ 16777216) :
    Calls Tryd.prog 22 #[.agg #[.bool s, .slice A n c, .slice B m d]] w (RetI w x) := (qsign_any w h (by omega)).mono fun _ _ h => ⟨by rw [h.1, hu.out], h.2⟩
theorem qcmp_h {x : Int} (hu : Hid (cmpQ p q = x)) (h : Fr w s A n c B m d p k) (h' : Fr w t A' n' c' B' m' d' q k') (hk : k ≤ 16777216) (hk' : k' ≤ 16777216) :
    Calls Tryd.prog 34 #[.agg #[.bool s, .slice A n c, .slice B m d], .agg #[.bool t, .slice A' n' c', .slice B' m' d']] w (RetI w x) := (qcmp_any w h h' (by omega) (by omega)).mono fun _ _ h => ⟨by rw [h.1, hu.out], h.2⟩
/-- no fraction at all, twice -/
theorem bfrac_0 : Calls Tryd.prog 14 #[.agg #[.bool false, .slice none 0 0, .slice none 0 0], .agg #[.bool false, .slice none 0 0, .slice none 0 0]] w (RetB w true) :=
  (bfrac_any (l := []) (r := []) (l' := []) (r' := []) w (Lim.nil _ _ _) (Lim.nil _ _ _) (Lim.nil _ _ _) (Lim.nil _ _ _) rfl rfl rfl rfl (by simp) (by simp) (by simp) (by simp)).mono fun _ _ h => ⟨h.1, h.2⟩
end
end Go.Proofs.YtfndbmflllmpgaaDoor
