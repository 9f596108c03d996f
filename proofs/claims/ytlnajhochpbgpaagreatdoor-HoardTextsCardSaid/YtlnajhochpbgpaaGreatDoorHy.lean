/- The common years of two. -/
import Derived.Test.YtlnajhochpbgpaaGreatDoorHown
namespace Go.Proofs.YtlnajhochpbgpaaGreatDoor
open Go.RowKit Go.Proofs Go

/-- F and T are the first and the last common year -/
def Com (fa ta fb tb F T : Int) : Prop := (if fa < fb then fb else fa) = F ∧ (if ta < tb then ta else tb) = T
theorem Com.ex (fa ta fb tb : Int) : ∃ F T, Com fa ta fb tb F T := ⟨_, _, rfl, rfl⟩
theorem Com.yv {fa ta fb tb F T : Int} (h : Com fa ta fb tb F T) (ha : YV fa ta) (hb : YV fb tb) : YV F T ↔ F ≤ T := by
  obtain ⟨h1, h2⟩ := h
  unfold YV at *
  split at h1 <;> split at h2 <;> subst h1 h2 <;> omega
set_option maxRecDepth 100000 in
theorem rvalid4_any {f t : Int} {b : Bool} (w : World) (hb : Tells b (YV f t)) :
    Calls Tryz.prog 55 #[.agg #[.int .i64 f, .int .i64 t]] w (RetB w b) := by
  go_enter Tryz.func55, Tryz.ntmps55
  go_wp2_with fail
  have HX := BL.one w #[.int .i64 f, .int .i64 t] 24
  refine (byears_any _ hb).mono ?_
  rintro e w1 ⟨rfl, hb2⟩
  replace HX := HX.ext hb2
  go_wp2
  go_ret
  exact ⟨rfl, HX.below⟩
end Go.Proofs.YtlnajhochpbgpaaGreatDoor
