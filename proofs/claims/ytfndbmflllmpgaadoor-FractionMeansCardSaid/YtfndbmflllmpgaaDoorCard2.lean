/- An argument that is a list of fractions, opened. -/
import Derived.Test.YtfndbmflllmpgaaDoorCard
import Derived.Deep.Slices
import Derived.Deep.Fields
import Derived.ChangeSame
namespace Go.Proofs.YtfndbmflllmpgaaDoor
open Go.Joins Go.ChangeShapes Go.WideShapes Go.ChangeAt Go.WideMaps Go.WideElems Go.RowKit Go.Proofs Go Go.Deep

section
variable {H : Type} {enc : TypeId × Value → H} {P : Program} {w : World} {base : Nat} {spare : Nat → Bool} {held : Bool}
/-- a slice of structs of one-cell fields: its elements' cells and their readings -/
theorem open_elems {t e : TypeId} {fs : Array Field} {fuel : Nat} {cs : List Value} {x : DataW H × List MemPlace} (ht : P.underlying t = some (.slice e)) (he : P.underlying e = some (.struct fs))
    (hone : oneCellFields P fs = true) (hC : P.cellsOf e = fs.size) (h : DataW.trod enc P w base spare held fuel t cs = some x) :
    (cs = [.slice none 0 0] ∧ x = (.nil, [])) ∨
    ∃ (a : Addr) (len cap m : Nat), cs = [.slice (some a) len cap] ∧ len ≤ cap ∧ cap ≤ maxLen ∧ len ≤ m ∧
      ∀ i, i < m → ∃ (n : Nat), ∀ (j : Nat) (f : Field), fs[j]? = some f → ∃ (v : Value) (y : DataW H × List MemPlace), w.cell? (a.add (i * fs.size + j)) = some v ∧ DataW.trod enc P w base spare held n f.type [v] = some y := by
  rcases open_slice ht h with h0 | ⟨a, len, cap, m, n, D, Pl, hcs, _, hl, hm, hmm, _, hi⟩
  · exact .inl h0
  · refine .inr ⟨a, len, cap, m, hcs, hl, hm, by rw [hmm]; split <;> omega, fun i him => ?_⟩
    obtain ⟨cs', hc, ht'⟩ := hi i him
    rw [hC] at hc
    obtain ⟨ys, n', _, _, hlen, hyl, hf⟩ := DataW.trod_struct he ht'
    obtain ⟨_, hcl, hat⟩ := World.cells?_some hc
    refine ⟨n', fun j f hj => ?_⟩
    obtain ⟨ho, hk⟩ := hone_of hone j f hj
    have hjl : j < fs.size := (Array.getElem?_eq_some_iff.1 hj).1
    have hcell := hat j hjl
    have hv : cs'[j]? = some (cs'[j]'(by omega)) := List.getElem?_eq_getElem (by omega)
    have h1 := hf j f hj
    rw [ho, hk] at h1
    have hone' : (cs'.drop j).take 1 = [cs'[j]'(by omega)] := by
      rw [List.drop_eq_getElem_cons (by omega)]
      rfl
    rw [hone'] at h1
    have hys : ys[j]? = some (ys[j]'(by omega)) := List.getElem?_eq_getElem (by omega)
    refine ⟨_, _, ?_, h1.trans hys⟩
    rw [← Go.Deep.add_add, hcell, hv]
end
/-- a list whose entries have what each place wants -/
theorem list_of {α : Type} {P : Nat → α → Prop} : ∀ n : Nat, (∀ i, i < n → ∃ x, P i x) → ∃ l : List α, l.length = n ∧ ∀ i x, l[i]? = some x → P i x
  | 0, _ => ⟨[], rfl, fun i x h => by simp at h⟩
  | n + 1, h => by
    obtain ⟨l, hl, hp⟩ := list_of n (fun i hi => h i (by omega))
    obtain ⟨y, hy⟩ := h n (by omega)
    refine ⟨l ++ [y], by simp [hl], fun i x hx => ?_⟩
    by_cases hi : i < l.length
    · rw [List.getElem?_append_left hi] at hx; exact hp i x hx
    · have : i < n + 1 := by
        have := (List.getElem?_eq_some_iff.1 hx).1
        simp [hl] at this; omega
      obtain rfl : i = n := by omega
      rw [← hl] at hx
      simp at hx
      subst hx; exact hy
section
variable {H : Type} {enc : TypeId × Value → H}
set_option maxRecDepth 100000 in
theorem open_fracs {W : World} {base : Nat} {v : Value} {d : DataW H} {p : List MemPlace} (hv : Value.okWide Tryd.prog W .any base 43 v) (h : DataW.Trod enc Tryd.prog W 0 (fun _ => true) true 43 v d p) :
    ∃ (A : Option Addr) (fs : List FE) (c : Nat), v = .slice A fs.length c ∧ FS W A fs ∧ (∀ x ∈ fs, Arg W x.s x.A x.n x.c x.B x.m x.d) ∧ fs.length ≤ 9223372036854775807 := by
  obtain ⟨a, len, cap, rfl⟩ := okWide_slice Tryd.underlying43 hv
  obtain ⟨fuel, hf⟩ := h
  rcases open_elems Tryd.underlying43 Tryd.underlying26 (by kernel_rfl) (by kernel_rfl) hf with ⟨hc, _⟩ | ⟨b, len', cap', m, hc, hl, hm, hmm, hi⟩
  · obtain ⟨rfl, rfl, rfl⟩ : a = none ∧ len = 0 ∧ cap = 0 := by simpa [Value.cells] using hc
    exact ⟨none, [], 0, rfl, fun h => by simp at h, by simp, by simp⟩
  · obtain ⟨rfl, rfl, rfl⟩ : a = some b ∧ len = len' ∧ cap = cap' := by simpa [Value.cells] using hc
    have key : ∀ i, i < len → ∃ x : FE, (W.cell? (b.add (i * 3)) = some (.bool x.s) ∧ W.cell? ⟨(b.add (i * 3)).block, (b.add (i * 3)).off + 1, none⟩ = some (.slice x.A x.n x.c) ∧ W.cell? ⟨(b.add (i * 3)).block, (b.add (i * 3)).off + 2, none⟩ = some (.slice x.B x.m x.d)) ∧ Arg W x.s x.A x.n x.c x.B x.m x.d := by
      intro i hil
      obtain ⟨n, hat⟩ := hi i (by omega)
      obtain ⟨v0, y0, c0, r0⟩ := hat 0 _ rfl
      obtain ⟨v1, y1, c1, r1⟩ := hat 1 _ rfl
      obtain ⟨v2, y2, c2, r2⟩ := hat 2 _ rfl
      obtain ⟨s, e0, _⟩ := DataW.trod_bool Tryd.underlying4 r0
      obtain rfl : v0 = .bool s := by simpa using e0
      obtain ⟨A, n1, q1, l, rfl, HA, hn1, hb1⟩ := open_limbs r1
      obtain ⟨B, n2, q2, r, rfl, HB, hn2, hb2⟩ := open_limbs r2
      have c1' : W.cell? (b.add (i * 3 + 1)) = some (.slice A n1 q1) := c1
      have c2' : W.cell? (b.add (i * 3 + 2)) = some (.slice B n2 q2) := c2
      rw [← addr_add_add] at c1' c2'
      exact ⟨⟨s, A, n1, q1, B, n2, q2⟩, ⟨c0, c1', c2'⟩, ⟨⟨l, r, HA, HB, hn1, hn2⟩, hb1, hb2⟩⟩
    obtain ⟨fs, hfl, hp⟩ := list_of len key
    refine ⟨some b, fs, cap, by rw [hfl], fun h0 => ⟨b, rfl, ?_, fun i x hx => (hp i x hx).1⟩, fun x hx => ?_, ?_⟩
    · have := (hp 0 _ (List.getElem?_eq_getElem h0)).1.1
      exact cell_lt this
    · obtain ⟨i, hi'⟩ := List.getElem?_of_mem hx
      exact (hp i x hi').2
    · unfold maxLen at hm; omega
end
end Go.Proofs.YtfndbmflllmpgaaDoor
