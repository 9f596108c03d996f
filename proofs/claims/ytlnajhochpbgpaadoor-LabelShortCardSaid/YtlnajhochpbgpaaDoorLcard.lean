/- The world of a label statement: the library's variables; arguments that are labels and lists of numbers, opened. -/
import Derived.Test.YtlnajhochpbgpaaDoorLb10
import Derived.Test.YtlnajhochpbgpaaDoorCard0
import Derived.Deep.Slices
import Derived.ChangeSame
import Derived.Stop.LaidErr
namespace Go.Proofs.YtlnajhochpbgpaaDoor
open Go.Joins Go.ChangeShapes Go.WideShapes Go.ChangeAt Go.WideMaps Go.WideElems Go.RowKit Go.Proofs Go Go.Deep

theorem star : "*" ++ "errors.errorString" = "*errors.errorString" := by decide
theorem row_star (u : TypeId) (h : Tryd.prog.typeName? 3 u = some "*errors.errorString") : u = 115 :=
  typeName_ptr_named (nm := "errors.errorString") (by rw [star]; kernel_rfl) (by kernel_rfl) (by decide) u (by rw [star]; exact h)
theorem evar_of_laid {n : String} {text : List UInt8} {r : List (String × DataW Unit)} {W : World} {g : Nat}
    (h : laidMet Tryd.prog ((n, .iface "*errors.errorString" (.ptr (.agg [.lit (.string text)]))) :: r) W) (hg : Tryd.prog.globalNamed n = some g) (ht : (Tryd.prog.globals[g]?).map (·.type) = some 51) : Evar W g := by
  obtain ⟨a, s, hv, _, _, _⟩ := laid_sentinel h hg ht Tryd.underlying51 row_star Tryd.underlying115 Tryd.underlying117 rfl rfl Tryd.underlying9 (by kernel_rfl) (by kernel_rfl)
  exact ⟨_, by simpa using World.var?_cell hg hv 0, .inr ⟨_, _, rfl⟩⟩
theorem env_of {w : World} {x0 x1 x2 x3 : String × DataW Unit} {t1 t2 : List UInt8} {r : List (String × DataW Unit)} (hT : Tab w) (h : w.ShapedOpen Tryd.prog)
    (hL : laidMetH Tryd.prog (x0 :: x1 :: x2 :: x3 :: ("strconv.ErrRange", .iface "*errors.errorString" (.ptr (.agg [.lit (.string t1)]))) :: ("strconv.ErrSyntax", .iface "*errors.errorString" (.ptr (.agg [.lit (.string t2)]))) :: r) w)
    (hp : laidMetH Tryd.prog (x0 :: x1 :: x2 :: x3 :: ("strconv.ErrRange", .iface "*errors.errorString" (.ptr (.agg [.lit (.string t1)]))) :: ("strconv.ErrSyntax", .iface "*errors.errorString" (.ptr (.agg [.lit (.string t2)]))) :: r) w → laidMet Tryd.prog (x0 :: x1 :: x2 :: x3 :: ("strconv.ErrRange", .iface "*errors.errorString" (.ptr (.agg [.lit (.string t1)]))) :: ("strconv.ErrSyntax", .iface "*errors.errorString" (.ptr (.agg [.lit (.string t2)]))) :: r) w) : Env w where
  tab := hT
  mx := cell_of_shapedOpen_int (g := 0) (zero := #[.int .i64 0]) (t := 3) h (of_decide_eq_true (by kernel_rfl)) (by kernel_rfl) rfl (by kernel_rfl) (by kernel_rfl) Tryd.underlying3
  e2 := evar_of_laid (hp hL).tail.tail.tail.tail (by kernel_rfl) (by kernel_rfl)
  e1 := evar_of_laid (hp hL).tail.tail.tail.tail.tail (by kernel_rfl) (by kernel_rfl)
theorem u16_bd {n : Int} (h : (Lit.int .u16 n).wf = true) : 0 ≤ n ∧ n ≤ 65535 := by
  simp only [Lit.wf, Bool.and_eq_true, decide_eq_true_eq] at h
  have e1 : IntKind.u16.min = 0 := rfl
  have e2 : IntKind.u16.max = 65535 := rfl
  rw [e1, e2] at h
  exact h
theorem u8_bd {n : Int} (h : (Lit.int .u8 n).wf = true) : 0 ≤ n ∧ n ≤ 255 := by
  simp only [Lit.wf, Bool.and_eq_true, decide_eq_true_eq] at h
  have e1 : IntKind.u8.min = 0 := rfl
  have e2 : IntKind.u8.max = 255 := rfl
  rw [e1, e2] at h
  exact h
section
variable {H : Type} {enc : TypeId × Value → H}
set_option maxRecDepth 100000 in
theorem open_label {W : World} {base : Nat} {v : Value} {d : DataW H} {p : List MemPlace} (hv : Value.okWide Tryd.prog W .any base 23 v) (h : DataW.Trod enc Tryd.prog W 0 (fun _ => true) true 23 v d p) :
    ∃ a b c : Int, v = .agg #[.int .i64 a, .int .i64 b, .int .i64 c] := by
  obtain ⟨cs, rfl, hsz⟩ := okWide_struct Tryd.underlying23 hv
  obtain ⟨cl⟩ := cs
  have hC : Tryd.prog.cellsOf 23 = 3 := by kernel_rfl
  rw [hC] at hsz
  match cl, hsz with
  | [c0, c1, c2], _ =>
    obtain ⟨fuel, hf⟩ := h
    obtain ⟨xs, m, rfl, _, _, hxl, hall⟩ := DataW.trod_struct Tryd.underlying23 hf
    have hx : ∀ j, j < 3 → ∃ y, xs[j]? = some y := fun j hj => ⟨_, List.getElem?_eq_getElem (show j < xs.length by rw [hxl]; exact hj)⟩
    obtain ⟨y0, e0⟩ := hx 0 (by omega)
    obtain ⟨y1, e1⟩ := hx 1 (by omega)
    obtain ⟨y2, e2⟩ := hx 2 (by omega)
    have h0 : DataW.trod enc Tryd.prog W 0 (fun _ => true) true m 3 [c0] = some y0 := (hall 0 _ rfl).trans e0
    have h1 : DataW.trod enc Tryd.prog W 0 (fun _ => true) true m 3 [c1] = some y1 := (hall 1 _ rfl).trans e1
    have h2 : DataW.trod enc Tryd.prog W 0 (fun _ => true) true m 3 [c2] = some y2 := (hall 2 _ rfl).trans e2
    obtain ⟨a, q0, _⟩ := DataW.trod_int Tryd.underlying3 h0
    obtain rfl : c0 = .int .i64 a := by simpa using q0
    obtain ⟨b, q1, _⟩ := DataW.trod_int Tryd.underlying3 h1
    obtain rfl : c1 = .int .i64 b := by simpa using q1
    obtain ⟨c, q2, _⟩ := DataW.trod_int Tryd.underlying3 h2
    obtain rfl : c2 = .int .i64 c := by simpa using q2
    exact ⟨a, b, c, rfl⟩
set_option maxRecDepth 100000 in
theorem open_il {W : World} {base : Nat} {v : Value} {d : DataW H} {p : List MemPlace} (hv : Value.okWide Tryd.prog W .any base 34 v) (h : DataW.Trod enc Tryd.prog W 0 (fun _ => true) true 34 v d p) :
    ∃ (A : Option Addr) (l : List Int) (c : Nat), v = .slice A l.length c ∧ IEs W A l ∧ l.length ≤ 9223372036854775807 := by
  obtain ⟨a0, len0, cap0, rfl⟩ := okWide_slice Tryd.underlying34 hv
  obtain ⟨fuel, hf⟩ := h
  rcases open_ints Tryd.underlying34 Tryd.underlying3 (by kernel_rfl) hf with ⟨h2, _⟩ | ⟨a, len, cap, zs, h2, _, hl, hm, hz, _, hc, _⟩
  · injection h2 with h3 _
    rw [h3]
    exact ⟨none, [], 0, rfl, IEs.nil _ _, by simp⟩
  · injection h2 with h3 _
    rw [h3]
    simp only [if_true] at hz
    have hlen : (zs.take len).length = len := by rw [List.length_take]; omega
    refine ⟨some a, zs.take len, cap, by rw [hlen], fun h0 => ⟨a, rfl, ?_, fun i x hx => ?_⟩, by rw [hlen]; unfold maxLen at hm; omega⟩
    · rw [hlen] at h0
      have h4 := hc 0 (by omega)
      have h5 := cell_lt h4
      rw [addr_add_block] at h5
      exact h5
    · have hi := (List.getElem?_eq_some_iff.1 hx).1
      rw [hlen] at hi
      rw [List.getElem?_take, if_pos hi] at hx
      rw [hc i (by omega), List.getD, hx]; rfl
end
end Go.Proofs.YtlnajhochpbgpaaDoor
