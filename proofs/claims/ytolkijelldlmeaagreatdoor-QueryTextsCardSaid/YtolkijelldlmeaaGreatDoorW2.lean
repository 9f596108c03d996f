/- Rows of numbers of the call's own; the tables of weights. -/
import Derived.Test.YtolkijelldlmeaaGreatDoorW1
namespace Go.Proofs.YtolkijelldlmeaaGreatDoor
open Go.RowKit Go.Proofs Go

theorem IOwn.lit (W : World) {B : Nat} (hB : B ≤ W.heap.size) (l : List Int) (cs : Array Value) (hcs : cs.toList = icells l) (hl : l.length ≤ 1000000) : IOwn (W.alloc (.cells cs 3)) B (some ⟨W.heap.size, 0, none⟩) l.length l := by
  have h1 : cs.size = l.length := by rw [← Array.length_toList, hcs, icells, List.length_map]
  refine ⟨by rw [icells, List.length_map, Nat.mul_one], .inr ⟨W.heap.size, l.length, cs, rfl, hB, heap_alloc_new W _, Nat.le_refl _, by unfold maxLen; omega, by omega, ?_⟩⟩
  rw [hcs, Nat.mul_one, List.take_of_length_le (by rw [icells, List.length_map]; exact Nat.le_refl _)]
/-- append(s, x...): s a row of the call's own, x any numbers -/
theorem op_pushes {P : Program} {o : Oper} {a : Act} {K : Act → World → Prop} {Q : Exit → Act → World → Prop} {t e : TypeId} (E : Elt P t e (.int .i64 0) 8) (w : World) (s x : Operand) (hop : o.op = Op.call { callee := Callee.builtin Builtin.append, args := #[s, x], argTypes := #[t, t] })
    {B : Nat} {A X : Option Addr} {n m c cx : Nat} {xs : List Value} {l : List Int} (hs : a.eval s = .slice A n c) (hx : a.eval x = .slice X m cx) (hown : Own w B e A n c xs) (HX : IEs w X l) (hm : m = l.length) (hb : n + m ≤ 1000000) (hB : B ≤ w.heap.size)
    (hK : ∀ A' c' w', Own w' B e A' (n + m) c' (xs ++ icells l) → Below B w w' → K (a.put o.dst (.slice A' (n + m) c')) w') : Oper.wp P o a w K Q := by
  subst hm
  obtain ⟨i, hi, hz, h1, h2⟩ := info_parts E.info
  by_cases h0 : l.length = 0
  · have hr : l = [] := List.eq_nil_of_length_eq_zero h0
    subst hr
    have hnc : ¬ c < n := by
      rcases hown.2 with ⟨hv, h2⟩ | ⟨g, cap, cur, hv, _, _, hnc, _⟩
      · omega
      · injection hv with _ _ hc
        omega
    have hrun : (Builtin.append_ #[t, t] o.type #[.slice A n c, .slice X 0 cx]).run P w = .ok (.slice A n c) w := by
      cases A <;> cases X <;> simp [hnc, Builtin.append_, run_underlying E.und, sizeOf, typeInfo, hi, Builtin.lenOf, Builtin.firstCells, loadCells, loadCellsFrom, storeCells]
    have hk := hK A c w (by rw [show icells [] = [] from rfl, List.append_nil]; exact hown) (Below.refl _ _)
    unfold Oper.wp
    simp [execOp, hop, resolve, invoke, builtin, hs, hx, hrun, Result.andThen]
    exact hk
  · obtain ⟨xd, rfl, hxb, hxc⟩ := HX (by omega)
    have hcells : ∀ j u, (icells l)[j]? = some u → w.cell? (xd.add j) = some u := by
      intro j u hu
      have hj : j < l.length := by have := (List.getElem?_eq_some_iff.1 hu).1; rwa [icells, List.length_map] at this
      rw [icells, List.getElem?_map, List.getElem?_eq_getElem hj] at hu
      obtain rfl := Option.some.inj hu
      exact hxc j _ (List.getElem?_eq_getElem hj)
    refine wp_append_own w s x t hop B e i (.int .i64 0) 1 8 E.und hi hz h1 h2 rfl (by decide) _ n xs hs hown xd l.length cx (icells l) hx (by rw [icells, List.length_map, Nat.mul_one]) hcells ?_ (by unfold maxLen; omega) (by omega) hB ?_
    · intro u hu
      obtain ⟨y, _, rfl⟩ := List.mem_map.1 hu
      rfl
    · intro v' w' h3 h4 h5
      obtain ⟨A', c', rfl⟩ : ∃ A' c', v' = .slice A' (n + l.length) c' := by
        rcases h3.2 with ⟨_, h0⟩ | ⟨g, cap, cur, hv, _⟩
        · omega
        · exact ⟨_, _, hv⟩
      exact hK A' c' w' h3 (below_of_grown h4 hB fun k hk => ((World.ownsRow.lt hown) k hk).1)
theorem wp_pushes {P : Program} {ops : Array Oper} {rest : List Oper} {o : Oper} {a : Act} {Q : Exit → Act → World → Prop} {t e : TypeId} (E : Elt P t e (.int .i64 0) 8) (w : World) (hg : o.guard = none) (s x : Operand) (hop : o.op = Op.call { callee := Callee.builtin Builtin.append, args := #[s, x], argTypes := #[t, t] })
    {B : Nat} {A X : Option Addr} {n m c cx : Nat} {xs : List Value} {l : List Int} (hs : a.eval s = .slice A n c) (hx : a.eval x = .slice X m cx) (hown : Own w B e A n c xs) (HX : IEs w X l) (hm : m = l.length) (hb : n + m ≤ 1000000) (hB : B ≤ w.heap.size)
    (hK : ∀ A' c' w', Own w' B e A' (n + m) c' (xs ++ icells l) → Below B w w' → wpList P ops Q rest (a.put o.dst (.slice A' (n + m) c')) w') : wpList P ops Q (o :: rest) a w :=
  wpList_plain hg fun _ hK' => op_pushes E w s x hop hs hx hown HX hm hb hB fun A' c' w' h1 h2 => hK' _ _ (hK A' c' w' h1 h2)
theorem IOwn.all {w : World} {B c n : Nat} {A : Option Addr} {l : List Int} (h : Own w B 3 A n c ([] ++ icells l)) (hn : n = l.length) : IOwn w B A c l := by
  subst hn; rw [List.nil_append] at h; exact h
/-- the slice l[k:k+m], as the model spells its address -/
theorem IEs.sub {w : World} {A : Option Addr} {l : List Int} (h : IEs w A l) {c k m : Nat} (hc : l.length ≤ c) (hk : k + m ≤ l.length) : IEs w (if c = k then A else A.map (·.add k)) ((l.drop k).take m) := fun h0 => by
  rw [List.length_take, List.length_drop] at h0
  obtain ⟨ad, rfl, hb, hx⟩ := h (by omega)
  rw [if_neg (by omega)]
  refine ⟨ad.add k, rfl, by rw [addr_add_block]; exact hb, fun i x hi => ?_⟩
  have hil := (List.getElem?_eq_some_iff.1 hi).1
  rw [List.length_take, List.length_drop] at hil
  rw [List.getElem?_take_of_lt (by omega), List.getElem?_drop] at hi
  rw [addr_add_add]
  exact hx _ _ hi
/-- a list of numbers and an error -/
def RetLw (w : World) (L : List Int) (E : Int) (e : Ending) (w' : World) : Prop := ∃ A c, e = .returned (.tuple #[.slice A L.length c, .int .i64 E]) ∧ IEs w' A L ∧ Below w.heap.size w w'
/-- what Table returns -/
def BadT (low step n : Int) : Prop := low < 0 ∨ 200000 < low ∨ step < 1 ∨ 10000 < step ∨ n < 1 ∨ 64 < n
instance (low step n : Int) : Decidable (BadT low step n) := inferInstanceAs (Decidable (_ ∨ _))
def tabR (l : List Int) (low step n : Int) : List Int × Int := if chkE l = 0 then (if BadT low step n then ([], 2) else (tabF l low step n.toNat, 0)) else ([], chkE l)
theorem mul_bd {k s : Int} (h1 : 0 ≤ k) (h2 : k ≤ 65) (h3 : 1 ≤ s) (h4 : s ≤ 10000) : 0 ≤ k * s ∧ k * s ≤ 650000 := by
  refine ⟨Int.mul_nonneg h1 (by omega), ?_⟩
  have h5 := Int.mul_le_mul_of_nonneg_right h2 (show 0 ≤ s by omega)
  omega
end Go.Proofs.YtolkijelldlmeaaGreatDoor
