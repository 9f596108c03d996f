/- An argument that is a fraction, opened. -/
import Derived.Test.YtfndbmflllmpgaaDoorOps
import Derived.Test.YtfndbmflllmpgaaDoorCard0
namespace Go.Proofs.YtfndbmflllmpgaaDoor
open Go.Joins Go.ChangeShapes Go.WideShapes Go.ChangeAt Go.WideMaps Go.WideElems Go.RowKit Go.Proofs Go

section
variable {H : Type} {enc : TypeId × Value → H}
set_option maxRecDepth 100000 in
theorem open_frac {W : World} {base : Nat} {v : Value} {d : DataW H} {p : List MemPlace} (hv : Value.okWide Tryd.prog W .any base 26 v) (h : DataW.Trod enc Tryd.prog W 0 (fun _ => true) true 26 v d p) :
    ∃ s A n c B m d', v = .agg #[.bool s, .slice A n c, .slice B m d'] ∧ Arg W s A n c B m d' := by
  obtain ⟨v0, v1, v2, y0, y1, y2, n, rfl, _, _, h0, h1, h2⟩ := open_agg3 Tryd.underlying26 (by kernel_rfl) (by kernel_rfl) hv h
  obtain ⟨s, e0, _⟩ := DataW.trod_bool Tryd.underlying4 h0
  obtain rfl : v0 = .bool s := by simpa using e0
  obtain ⟨A, n1, c1, l, rfl, HA, hn1, hb1⟩ := open_limbs h1
  obtain ⟨B, n2, c2, r, rfl, HB, hn2, hb2⟩ := open_limbs h2
  exact ⟨s, A, n1, c1, B, n2, c2, rfl, ⟨⟨l, r, HA, HB, hn1, hn2⟩, hb1, hb2⟩⟩
end
end Go.Proofs.YtfndbmflllmpgaaDoor
