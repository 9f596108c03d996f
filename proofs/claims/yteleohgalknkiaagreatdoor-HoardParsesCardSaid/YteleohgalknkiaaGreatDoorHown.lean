/- Entries that a call owns; boxes of two and four cells. -/
import Derived.Test.YteleohgalknkiaaGreatDoorHq
import Derived.Test.YteleohgalknkiaaGreatDoorHoist
namespace Go.Proofs.YteleohgalknkiaaGreatDoor
open Go.RowKit Go.Proofs Go

section
variable {w W W' : World} {L : List (Nat × Array Value × TypeId)}
theorem BL.put2 (h : BL w W L) (i : Nat) {g : Nat} {u0 u1 : Value} {T : TypeId} (hp : L[i]? = some (g, #[u0, u1], T)) (hg : w.heap.size ≤ g) (hne : ∀ (k : Nat) (p : Nat × Array Value × TypeId), L[k]? = some p → k ≠ i → p.1 ≠ g) (v0 v1 : Value) :
    BL w ((W.setCell ⟨g, 0, none⟩ v0).setCell ⟨g, 1, none⟩ v1) (L.set i (g, #[v0, v1], T)) := by
  have hi := (List.getElem?_eq_some_iff.1 hp).1
  have n2 : ∀ {x : Nat × Array Value × TypeId}, ∀ (k : Nat) (p : Nat × Array Value × TypeId), (L.set i x)[k]? = some p → k ≠ i → p.1 ≠ g := fun {x} k p hk hki => by
    rw [List.getElem?_set_ne (Ne.symm hki)] at hk; exact hne k p hk hki
  have h1 := h.set1 i hp hg hne 0 v0
  have h2 := h1.set1 i (by rw [List.getElem?_set_self hi]) hg n2 1 v1
  rw [List.set_set] at h2
  exact h2
theorem BL.put4 (h : BL w W L) (i : Nat) {g : Nat} {u0 u1 u2 u3 : Value} {T : TypeId} (hp : L[i]? = some (g, #[u0, u1, u2, u3], T)) (hg : w.heap.size ≤ g) (hne : ∀ (k : Nat) (p : Nat × Array Value × TypeId), L[k]? = some p → k ≠ i → p.1 ≠ g) (v0 v1 v2 v3 : Value) :
    BL w ((((W.setCell ⟨g, 0, none⟩ v0).setCell ⟨g, 1, none⟩ v1).setCell ⟨g, 2, none⟩ v2).setCell ⟨g, 3, none⟩ v3) (L.set i (g, #[v0, v1, v2, v3], T)) := by
  have hi := (List.getElem?_eq_some_iff.1 hp).1
  have n2 : ∀ {x : Nat × Array Value × TypeId}, ∀ (k : Nat) (p : Nat × Array Value × TypeId), (L.set i x)[k]? = some p → k ≠ i → p.1 ≠ g := fun {x} k p hk hki => by
    rw [List.getElem?_set_ne (Ne.symm hki)] at hk; exact hne k p hk hki
  have h1 := h.set1 i hp hg hne 0 v0
  have h2 := h1.set1 i (by rw [List.getElem?_set_self hi]) hg n2 1 v1
  rw [List.set_set] at h2
  have h3 := h2.set1 i (by rw [List.getElem?_set_self hi]) hg n2 2 v2
  rw [List.set_set] at h3
  have h4 := h3.set1 i (by rw [List.getElem?_set_self hi]) hg n2 3 v3
  rw [List.set_set] at h4
  exact h4
end

def ecells (l : List (Int × Int)) : List Value := l.flatMap fun x => [.int .i64 x.1, .int .i64 x.2]
theorem ecells_len (l : List (Int × Int)) : (ecells l).length = l.length * 2 := by
  induction l with
  | nil => rfl
  | cons x l ih =>
    have : ecells (x :: l) = .int .i64 x.1 :: .int .i64 x.2 :: ecells l := rfl
    rw [this, List.length_cons, List.length_cons, ih, List.length_cons]; omega
theorem ecells_snoc (l : List (Int × Int)) (x : Int × Int) : ecells (l ++ [x]) = ecells l ++ [.int .i64 x.1, .int .i64 x.2] := by simp [ecells]
theorem ecells_at {x : Int × Int} : ∀ {l : List (Int × Int)} {i : Nat}, l[i]? = some x → (ecells l)[i * 2]? = some (.int .i64 x.1) ∧ (ecells l)[i * 2 + 1]? = some (.int .i64 x.2)
  | [], i, h => by simp at h
  | y :: l, 0, h => by simp at h; subst h; exact ⟨rfl, rfl⟩
  | y :: l, i + 1, h => by
    have e : ecells (y :: l) = .int .i64 y.1 :: .int .i64 y.2 :: ecells l := rfl
    obtain ⟨a, b⟩ := ecells_at (l := l) (i := i) (by simpa using h)
    rw [e, show (i + 1) * 2 = i * 2 + 1 + 1 by omega]
    exact ⟨by simpa using a, by simpa using b⟩
theorem ecells_one (l : List (Int × Int)) : ∀ u ∈ ecells l, u.oneCell' = true := by
  intro u hu
  rw [ecells, List.mem_flatMap] at hu
  obtain ⟨x, _, hx⟩ := hu
  simp at hx
  rcases hx with rfl | rfl <;> rfl
/-- the call owns a row of entries -/
def EOwn (w : World) (B : Nat) (A : Option Addr) (c : Nat) (l : List (Int × Int)) : Prop := w.ownsRow B 77 2 (.slice A l.length c) l.length (ecells l)
section
variable {w w' : World} {B c : Nat} {A : Option Addr} {l : List (Int × Int)}
theorem EOwn.nil (w : World) (B : Nat) : EOwn w B none 0 [] := World.ownsRow_nil w B _ 2
theorem EOwn.alloc (h : EOwn w B A c l) (o : Obj) : EOwn (w.alloc o) B A c l := World.ownsRow.alloc h o
theorem EOwn.ext (h : EOwn w B A c l) (hb : Below w.heap.size w w') : EOwn w' B A c l :=
  World.ownsRow.kept h (grown_of_below hb none) (by cases A <;> simp [Value.ownBlock])
theorem EOwn.far (h : EOwn w B A c l) {p : Addr} (hp : p.block < B) (v : Value) : EOwn (w.setCell p v) B A c l := by
  refine World.ownsRow.kept h (row := some p.block) ⟨rfl, rfl, rfl, by simp [World.setCell], fun i _ hne => Below.heap_setCell w p v i fun e => hne (by rw [e])⟩ ?_
  cases A with
  | none => left; rfl
  | some a =>
    right
    intro e
    have := (World.ownsRow.lt h _ e).1
    omega
theorem EOwn.es (h : EOwn w B A c l) : Es w A l := fun h0 => by
  have h1 := h
  rcases h1.2 with ⟨_, h2⟩ | ⟨g, cap, cur, hv, _, hg, _⟩
  · omega
  · injection hv with hA _ _
    subst hA
    refine ⟨_, rfl, (Array.getElem?_eq_some_iff.1 hg).1, fun i x hx => ?_⟩
    obtain ⟨a, b⟩ := ecells_at hx
    have ca := World.ownsRow.cells h rfl _ _ a
    have cb := World.ownsRow.cells h rfl _ _ b
    rw [Addr.add_lit, Nat.zero_add] at ca cb ⊢
    exact ⟨ca, cb⟩
end
theorem undEntry : Tryz.prog.underlying 22 = some (.slice 77) := Tryz.underlying22
theorem infoEntry : (Tryz.prog.info? 77).map (fun i => (i.zero, i.size, i.bytes)) = some (some (.agg #[.int .i64 0, .int .i64 0]), 2, 16) := by kernel_rfl
/-- append of one entry, behind the operation that laid it in a block of its own -/
theorem wp_epush {ops : Array Oper} {rest : List Oper} {o : Oper} {a : Act} {Q : Exit → Act → World → Prop} (w : World) (hg : o.guard = none) (s x : Operand) (hop : o.op = Op.call { callee := Callee.builtin Builtin.append, args := #[s, x], argTypes := #[22, 22] })
    {B c : Nat} {A : Option Addr} {l : List (Int × Int)} {k v : Int} (hs : a.eval s = .slice A l.length c) (hx : a.eval x = .slice (some ⟨w.heap.size, 0, none⟩) 1 1) (hown : EOwn w B A c l)
    (hl : l.length ≤ 1000000) (hB : B ≤ w.heap.size)
    (hK : ∀ A' c' w', EOwn w' B A' c' (l ++ [(k, v)]) → Below B w w' → w.heap.size < w'.heap.size → wpList Tryz.prog ops Q rest (a.put o.dst (.slice A' (l.length + 1) c')) w') :
    wpList Tryz.prog ops Q (o :: rest) a (w.alloc (.cells #[.int .i64 k, .int .i64 v] 77)) := by
  obtain ⟨i, hi, hz, h1, h2⟩ := info_parts infoEntry
  refine wpList_append_own _ hg s x _ hop B _ i _ 2 16 undEntry hi hz h1 h2 (by rfl) (by decide) _ l.length (ecells l) hs (World.ownsRow.alloc hown _) ⟨w.heap.size, 0, none⟩ 1 1 [.int .i64 k, .int .i64 v] hx rfl ?_ ?_ (by unfold maxLen; omega) (by omega) (by simp; omega) ?_
  · intro j u hj
    match j, hj with
    | 0, hj => simp at hj; subst hj; exact al_at (by simp) _ rfl
    | 1, hj => simp at hj; subst hj; exact al_at (by simp) _ rfl
    | j + 2, hj => simp at hj
  · intro u hu
    simp at hu
    rcases hu with rfl | rfl <;> rfl
  · intro v' w' h3 h4 h5
    have hb : w.grownBy w' (Value.slice A l.length c).ownBlock := ⟨h4.os, h4.tape, h4.output, Nat.le_trans (by simp) h4.size, fun k hk hne => (h4.block k (by simp; omega) hne).trans (Below.heap_alloc w _ k hk)⟩
    have hlt : w.heap.size < w'.heap.size := by have := h4.size; simp at this; omega
    obtain ⟨A', c', rfl⟩ : ∃ A' c', v' = .slice A' (l.length + 1) c' := by
      rcases h3.2 with ⟨_, h0⟩ | ⟨g, cap, cur, hv, _⟩
      · omega
      · exact ⟨_, _, hv⟩
    refine hK A' c' w' ?_ (below_of_grown hb hB fun k hk => ((World.ownsRow.lt hown) k hk).1) hlt
    rw [EOwn, ecells_snoc, List.length_append]
    exact h3
end Go.Proofs.YteleohgalknkiaaGreatDoor
