/- An argument that is a natural, opened. -/
import Derived.Test.YtjacffmoccpogaaDoorNCom
import Derived.Test.YtjacffmoccpogaaDoorCard0
namespace Go.Proofs.YtjacffmoccpogaaDoor
open Go.Joins Go.ChangeShapes Go.WideShapes Go.ChangeAt Go.WideMaps Go.WideElems Go.RowKit Go.Proofs Go

theorem u64_nat {n : Int} (h : (Lit.int .u64 n).wf = true) : ∃ k : Nat, n = k ∧ k < 18446744073709551616 := by
  simp only [Lit.wf, Bool.and_eq_true, decide_eq_true_eq] at h
  have e1 : IntKind.u64.min = 0 := rfl
  have e2 : IntKind.u64.max = 18446744073709551615 := rfl
  rw [e1, e2] at h
  exact ⟨n.toNat, by omega, by omega⟩
section
variable {H : Type} {enc : TypeId × Value → H}
set_option maxRecDepth 100000 in
theorem open_nat {W : World} {base : Nat} {v : Value} {d : DataW H} {p : List MemPlace} (hv : Value.okWide Tryd.prog W .any base 24 v) (h : DataW.Trod enc Tryd.prog W 0 (fun _ => true) true 24 v d p) :
    ∃ A n c, v = .agg #[.slice A n c] ∧ NArg W A n c := by
  obtain ⟨cs, rfl, hsz⟩ := okWide_struct Tryd.underlying24 hv
  obtain ⟨l⟩ := cs
  have hC : Tryd.prog.cellsOf 24 = 1 := by kernel_rfl
  rw [hC] at hsz
  match l, hsz with
  | [c0], _ =>
    obtain ⟨fuel, hf⟩ := h
    have hf2 : DataW.trod enc Tryd.prog W 0 (fun _ => true) true fuel 24 [c0] = some (d, p) := hf
    obtain ⟨A, n, c, l, rfl, HA, hn, hb⟩ := open_limbs hf2
    exact ⟨A, n, c, rfl, ⟨⟨l, HA, hn⟩, hb⟩⟩
end
end Go.Proofs.YtjacffmoccpogaaDoor
