/- The reference's contracts (products, quotients), their results under a name of the caller's choice. -/
import Derived.Test.YtajddhkepbnilaaGreatDoorOps
import Derived.Test.YtajddhkepbnilaaGreatDoorRfrD
namespace Go.Proofs.YtajddhkepbnilaaGreatDoor
open Go.RowKit Go.Proofs Go

section
variable {w : World} {s t : Bool} {A B A' B' : Option Addr} {n c m d n' c' m' d' : Nat} {p q u : Rat} {k k' j : Nat}
theorem qmul_h (hu : Hid (p * q = u)) (hs : Sz u j) (h : Fr w s A n c B m d p k) (h' : Fr w t A' n' c' B' m' d' q k') (hk : k ≤ 16777216) (hk' : k' ≤ 16777216) :
    Calls Tryz.prog 108 #[.agg #[.bool s, .slice A n c, .slice B m d], .agg #[.bool t, .slice A' n' c', .slice B' m' d']] w (RetG w u j) := (qmul_any w h h' (by omega) (by omega)).mono fun _ _ h => h.toF hu hs
theorem qdiv_h (hu : Hid (p * q⁻¹ = u)) (h0 : Hid (q ≠ 0)) (hs : Sz u j) (h : Fr w s A n c B m d p k) (h' : Fr w t A' n' c' B' m' d' q k') (hk : k ≤ 16777216) (hk' : k' ≤ 16777216) :
    Calls Tryz.prog 57 #[.agg #[.bool s, .slice A n c, .slice B m d], .agg #[.bool t, .slice A' n' c', .slice B' m' d']] w (RetGE w u j) := (qdiv_any w h h' (by omega) (by omega) h0.out).mono fun _ _ h => h.toF hu hs
theorem qdivz_h (h0 : Hid (q = 0)) (h' : Fr w t A' n' c' B' m' d' q k') (hk' : k' ≤ 16777216) :
    Calls Tryz.prog 57 #[.agg #[.bool s, .slice A n c, .slice B m d], .agg #[.bool t, .slice A' n' c', .slice B' m' d']] w (RetZE w 12) := qdiv_zero w h' (by omega) h0.out
theorem qnorm_s (hs : Sz p j) (h : Fr w s A n c B m d p k) (hk : k ≤ 16777216) :
    Calls Tryz.prog 46 #[.agg #[.bool s, .slice A n c, .slice B m d]] w (RetG w p j) := (qnorm_any w h (by omega)).mono fun _ _ h => h.toF (Lib.hid rfl) hs
theorem qnorm_h (hu : Hid (p = u)) (hs : Sz u j) (h : Fr w s A n c B m d p k) (hk : k ≤ 16777216) :
    Calls Tryz.prog 46 #[.agg #[.bool s, .slice A n c, .slice B m d]] w (RetG w u j) := (qnorm_any w h (by omega)).mono fun _ _ h => h.toF hu hs
theorem qof_h {x y : Int} (hu : Hid (rv (!(decide (x < 0) == decide (y < 0))) x.natAbs y.natAbs = u)) (hs : Sz u j) (h1 : -9223372036854775808 ≤ x) (h2 : x ≤ 9223372036854775807) (h3 : -9223372036854775808 ≤ y) (h4 : y ≤ 9223372036854775807) :
    Calls Tryz.prog 109 #[.int .i64 x, .int .i64 y] w (RetG w u j) := (qof_any x y h1 h2 h3 h4 w).mono fun _ _ h => h.toF hu hs
/-- no fraction at all, twice -/
theorem bfrac_0 : Calls Tryz.prog 12 #[.agg #[.bool false, .slice none 0 0, .slice none 0 0], .agg #[.bool false, .slice none 0 0, .slice none 0 0]] w (RetB w true) :=
  (bfrac_any (l := []) (r := []) (l' := []) (r' := []) w (Lim.nil _ _ _) (Lim.nil _ _ _) (Lim.nil _ _ _) (Lim.nil _ _ _) rfl rfl rfl rfl (by simp) (by simp) (by simp) (by simp)).mono fun _ _ h => ⟨h.1, h.2⟩
end
end Go.Proofs.YtajddhkepbnilaaGreatDoor
