/- Slices of numbers in the model's memory: what a slice reads as, what the call itself owns, and the laws on make, append and stores in one form. No function of the program. -/
import Derived.Test.YtolkijelldlmeaaGreatDoorMath
import Derived.Deep.Draws
import Derived.Deep.OwnRows
import Derived.Deep.QuietTactic
import Derived.BigQuiet
namespace Go.Proofs.YtolkijelldlmeaaGreatDoor
open Go.RowKit

/-- the cells of a list of naturals, as numbers of a kind -/
def ints (k : IntKind) (l : List Nat) : List Value := l.map fun (x : Nat) => .int k (x : Int)
theorem ints_len (k : IntKind) (l : List Nat) : (ints k l).length = l.length := by simp [ints]
theorem ints_at {k : IntKind} {l : List Nat} {j : Nat} (h : j < l.length) : (ints k l)[j]? = some (.int k (at_ l j : Nat)) := by
  simp [ints, at_get? h]
theorem ints_snoc (k : IntKind) (l : List Nat) (x : Nat) : ints k (l ++ [x]) = ints k l ++ [.int k (x : Int)] := by simp [ints]
theorem ints_append (k : IntKind) (l m : List Nat) : ints k (l ++ m) = ints k l ++ ints k m := by simp [ints]
theorem ints_set (k : IntKind) (l : List Nat) (j x : Nat) : (ints k l).set j (.int k (x : Int)) = ints k (l.set j x) := by simp [ints, List.map_set]
theorem ints_one (k : IntKind) (l : List Nat) : ∀ u ∈ ints k l, u.oneCell' = true := by
  intro u hu
  obtain ⟨_, _, rfl⟩ := List.mem_map.1 hu
  rfl
theorem ints_replicate (k : IntKind) (n : Nat) : List.replicate n (Value.int k 0) = ints k (List.replicate n 0) := by simp [ints]

/-- The slice at A with capacity c reads, in w, as the numbers l (of kind u32), all of them below 2^32. -/
structure Lim (w : World) (A : Option Addr) (c : Nat) (l : List Nat) : Prop where
  cap : l.length ≤ c
  small : ∀ j, at_ l j < 4294967296
  cell : 0 < l.length → ∃ ad, A = some ad ∧ ad.block < w.heap.size ∧ ∀ j, j < l.length → w.cell? (ad.add j) = some (.int .u32 (at_ l j : Nat))

theorem addr_add_block (a : Addr) (n : Nat) : (a.add n).block = a.block := by unfold Addr.add; split <;> rfl
theorem addr_add_add (a : Addr) (i j : Nat) : (a.add i).add j = a.add (i + j) := by
  unfold Addr.add
  by_cases hi : i = 0 <;> by_cases hj : j = 0 <;> simp [hi, hj, Nat.add_assoc]

section
variable {w w' : World} {A : Option Addr} {c : Nat} {l : List Nat}
theorem Lim.nil (w : World) (A : Option Addr) (c : Nat) : Lim w A c [] := ⟨by simp, fun j => by rw [at_nil]; omega, fun h => absurd h (by simp)⟩
theorem Lim.keep (h : Lim w A c l) (hs : w.heap.size ≤ w'.heap.size) (hk : ∀ p : Addr, p.block < w.heap.size → w'.cell? p = w.cell? p) : Lim w' A c l :=
  ⟨h.cap, h.small, fun hn => by
    obtain ⟨ad, e, hb, hc⟩ := h.cell hn
    exact ⟨ad, e, by omega, fun j hj => (hk _ (by rw [addr_add_block]; exact hb)).trans (hc j hj)⟩⟩
theorem Lim.below {B : Nat} (h : Lim w A c l) (hb : Below B w w') (hB : w.heap.size ≤ B) : Lim w' A c l :=
  h.keep hb.size fun _ hp => hb.cell (Nat.lt_of_lt_of_le hp hB)
theorem Lim.ext (h : Lim w A c l) (hb : Below w.heap.size w w') : Lim w' A c l := h.below hb (Nat.le_refl _)
theorem Lim.take (h : Lim w A c l) {k : Nat} : Lim w A c (l.take k) :=
  ⟨Nat.le_trans (by simp; omega) h.cap, fun j => by
    by_cases hj : j < k
    · rw [at_take hj]; exact h.small j
    · rw [at_take_ge (by omega)]; omega, fun hn => by
    obtain ⟨ad, e, hb, hc⟩ := h.cell (by simp at hn; omega)
    refine ⟨ad, e, hb, fun j hj => ?_⟩
    simp at hj
    rw [at_take (by omega)]
    exact hc j (by omega)⟩
theorem Lim.trimL (h : Lim w A c l) : Lim w A c (trimL l) :=
  ⟨Nat.le_trans (trimL_len l) h.cap, fun j => by rw [trimL_at]; exact h.small j, fun hn => by
    have hl := trimL_len l
    obtain ⟨ad, e, hb, hc⟩ := h.cell (by omega)
    refine ⟨ad, e, hb, fun j hj => ?_⟩
    rw [trimL_at]
    exact hc j (by omega)⟩
/-- the slice l[k:], as the model spells its address -/
theorem Lim.drop (h : Lim w A c l) {k : Nat} (hk : k ≤ l.length) : Lim w (if c = k then A else A.map (·.add k)) (c - k) (l.drop k) :=
  ⟨by rw [List.length_drop]; have := h.cap; omega, fun j => by rw [at_drop]; exact h.small _, fun hn => by
    rw [List.length_drop] at hn
    obtain ⟨ad, rfl, hb, hc⟩ := h.cell (by omega)
    have := h.cap
    rw [if_neg (by omega)]
    refine ⟨ad.add k, rfl, by rw [addr_add_block]; exact hb, fun j hj => ?_⟩
    rw [List.length_drop] at hj
    rw [addr_add_add, at_drop]
    exact hc _ (by omega)⟩
theorem Lim.cellAt (h : Lim w A c l) {j : Nat} (hj : j < l.length) : ∃ ad, A = some ad ∧ ad.block < w.heap.size ∧ w.cell? (ad.add j) = some (.int .u32 (at_ l j : Nat)) := by
  obtain ⟨ad, e, hb, hc⟩ := h.cell (by omega)
  exact ⟨ad, e, hb, hc j hj⟩
end

/-- the call owns a row (blocks from B on, element type T of one cell) whose cells are xs -/
def Own (w : World) (B T : Nat) (A : Option Addr) (n c : Nat) (xs : List Value) : Prop := w.ownsRow B T 1 (.slice A n c) n xs

theorem drew_below {B : Nat} {a w : World} (h : Below B a w) (n : Nat) : Below B a (w.drewN n) := ⟨h.os, h.tape, h.output, h.size, h.block⟩
theorem grown_of_below {a w : World} (h : Below a.heap.size a w) (row : Option Nat) : a.grownBy w row := ⟨h.os, h.tape, h.output, h.size, fun i hi _ => h.block i hi⟩
theorem below_of_grown {B : Nat} {a w : World} {row : Option Nat} (hg : a.grownBy w row) (hB : B ≤ a.heap.size) (hr : ∀ k, row = some k → B ≤ k) : Below B a w := (Below.refl B a).grown hg hB hr

section
variable {w w' : World} {B T : Nat} {A : Option Addr} {n c : Nat} {xs : List Value}
theorem Own.len (h : Own w B T A n c xs) : xs.length = n := by have := h.1; omega
theorem Own.ext (h : Own w B T A n c xs) (hb : Below w.heap.size w w') : Own w' B T A n c xs :=
  World.ownsRow.kept h (grown_of_below hb none) (by cases A <;> simp [Value.ownBlock])
theorem Own.alloc (h : Own w B T A n c xs) (o : Obj) : Own (w.alloc o) B T A n c xs := World.ownsRow.alloc h o
theorem Own.lim {l : List Nat} (h : Own w B T A l.length c (ints .u32 l)) (hs : ∀ j, at_ l j < 4294967296) : Lim w A c l := by
  rcases h.2 with ⟨hv, h0⟩ | ⟨g, cap, cur, hv, _, hg, hnc, _⟩
  · injection hv with _ _ hc
    exact ⟨by omega, hs, fun hn => absurd hn (by omega)⟩
  · injection hv with hA _ hc
    subst hA hc
    refine ⟨hnc, hs, fun hn => ⟨_, rfl, (Array.getElem?_eq_some_iff.1 hg).1, fun j hj => ?_⟩⟩
    exact World.ownsRow.cells h rfl j _ (ints_at hj)
end

/-- a slice type t of elements e of one cell, zero value z, b bytes each -/
structure Elt (P : Program) (t e : TypeId) (z : Value) (b : Nat) : Prop where
  und : P.underlying t = some (.slice e)
  info : (P.info? e).map (fun i => (i.zero, i.size, i.bytes)) = some (some z, 1, b)
  one : z.cells = #[z]

section
variable {P : Program} {ops : Array Oper} {rest : List Oper} {o : Oper} {a : Act} {Q : Exit → Act → World → Prop} {t e : TypeId} {z : Value} {b : Nat}

/-- make([]T, 0, n) -/
theorem wp_make0 (E : Elt P t e z b) (w : World) (hg : o.guard = none) (l c : Operand) (hop : o.op = Op.makeSlice t l c) (C : Int) (n : Nat) (hl : a.eval l = .int .i64 0) (hc : a.eval c = .int .i64 C) (hC : C = (n : Int))
    (hn : b * n ≤ 281474976710656) (hm : n ≤ 9223372036854775807)
    (hK : ∀ w', Own w' w.heap.size e (some ⟨w.heap.size, 0, none⟩) 0 n [] → Below w.heap.size w w' → w.heap.size < w'.heap.size → wpList P ops Q rest (a.put o.dst (.slice (some ⟨w.heap.size, 0, none⟩) 0 n)) w') :
    wpList P ops Q (o :: rest) a w := by
  obtain ⟨i, hi, hz, h1, h2⟩ := info_parts E.info
  refine wpList_make_own w hg l c t hop w.heap.size e i z 1 E.und hi hz h1 .i64 .i64 C n hl hc hC (by rw [h2]; exact hn) (by unfold maxLen; omega) (Nat.le_refl _) fun w' hown hgr => ?_
  exact hK w' hown (below_of_grown hgr (Nat.le_refl _) (by simp)) (World.ownsRow.lt hown _ rfl).2

/-- make([]T, n) -/
theorem wp_make (E : Elt P t e z b) (w : World) (hg : o.guard = none) (l c : Operand) (hop : o.op = Op.makeSlice t l c) (L C : Int) (n : Nat) (hl : a.eval l = .int .i64 L) (hc : a.eval c = .int .i64 C) (hL : L = (n : Int)) (hC : C = (n : Int))
    (hn : b * n ≤ 281474976710656) (hm : n ≤ 9223372036854775807)
    (hK : ∀ w', Own w' w.heap.size e (some ⟨w.heap.size, 0, none⟩) n n (List.replicate n z) → Below w.heap.size w w' → w.heap.size < w'.heap.size → wpList P ops Q rest (a.put o.dst (.slice (some ⟨w.heap.size, 0, none⟩) n n)) w') :
    wpList P ops Q (o :: rest) a w := by
  obtain ⟨i, hi, hz, h1, h2⟩ := info_parts E.info
  refine wpList_make_full w hg l c t hop w.heap.size e i z 1 E.und hi hz h1 .i64 .i64 L C n hl hc hL hC (by rw [h2]; exact hn) (by unfold maxLen; omega) (Nat.le_refl _) fun w' hown hgr => ?_
  rw [E.one, Nat.mul_one, toList_madeCells_one] at hown
  exact hK w' hown (below_of_grown hgr (Nat.le_refl _) (by simp)) (World.ownsRow.lt hown _ rfl).2

/-- append(s, x), behind the operation that laid x in a block of its own -/
theorem wp_push (E : Elt P t e z b) (w : World) (hg : o.guard = none) (s x : Operand) (hop : o.op = Op.call { callee := Callee.builtin Builtin.append, args := #[s, x], argTypes := #[t, t] })
    {B : Nat} {A : Option Addr} {n c : Nat} {xs : List Value} {u : Value} (hs : a.eval s = .slice A n c) (hx : a.eval x = .slice (some ⟨w.heap.size, 0, none⟩) 1 1) (hown : Own w B e A n c xs) (hu : u.oneCell' = true)
    (hn : (n + 1) * b ≤ 140737488355328) (hm : n < 9223372036854775807) (hB : B ≤ w.heap.size)
    (hK : ∀ A' c' w', Own w' B e A' (n + 1) c' (xs ++ [u]) → w.grownBy w' (Value.slice A n c).ownBlock → Below B w w' → w.heap.size < w'.heap.size → wpList P ops Q rest (a.put o.dst (.slice A' (n + 1) c')) w') :
    wpList P ops Q (o :: rest) a (w.alloc (.cells #[u] e)) := by
  obtain ⟨i, hi, hz, h1, h2⟩ := info_parts E.info
  refine wpList_append_own _ hg s x t hop B e i z 1 b E.und hi hz h1 h2 (by rw [E.one]; rfl) (by decide) _ n xs hs (World.ownsRow.alloc hown _) ⟨w.heap.size, 0, none⟩ 1 1 [u] hx rfl ?_ ?_ (by unfold maxLen; omega) hn (by simp; omega) ?_
  · intro j v hj
    match j, hj with
    | 0, hj => simp at hj; subst hj; simp [Addr.add, World.cell?_alloc_at]
  · intro v hv; simp at hv; subst hv; exact hu
  · intro v' w' h3 h4 h5
    have hb : w.grownBy w' (Value.slice A n c).ownBlock := ⟨h4.os, h4.tape, h4.output, Nat.le_trans (by simp) h4.size, fun k hk hne => (h4.block k (by simp; omega) hne).trans (Below.heap_alloc w _ k hk)⟩
    have hlt : w.heap.size < w'.heap.size := by have := h4.size; simp at this; omega
    obtain ⟨A', c', rfl⟩ : ∃ A' c', v' = .slice A' (n + 1) c' := by
      rcases h3.2 with ⟨_, h0⟩ | ⟨g, cap, cur, hv, _⟩
      · omega
      · exact ⟨_, _, hv⟩
    exact hK A' c' w' h3 hb (below_of_grown hb hB fun k hk => ((World.ownsRow.lt hown) k hk).1) hlt
end

/-- the cells of the block that was laid first, in a later world -/
theorem box_at {w w1 : World} {cs : Array Value} {T : TypeId} {B : Nat} (hb : Below B (w.alloc (.cells cs T)) w1) (hB : w.heap.size < B) (j : Nat) : w1.cell? ⟨w.heap.size, j, none⟩ = cs[j]? := by
  rw [hb.cell hB]
  exact World.cell?_alloc_at _ _ _ _ rfl
theorem below_alloc (w : World) (o : Obj) : Below w.heap.size w (w.alloc o) := (Below.refl _ _).alloc (Nat.le_refl _) o
theorem below_box {w w1 : World} {o : Obj} {B : Nat} (hb : Below B (w.alloc o) w1) (hB : w.heap.size ≤ B) : Below w.heap.size w w1 := (below_alloc w o).trans (hb.mono hB)

/-- the slice does not lie in block g -/
def Avoid (g : Nat) (A : Option Addr) (n : Nat) : Prop := 0 < n → ∃ ad, A = some ad ∧ ad.block ≠ g
theorem Avoid.mono {g n m : Nat} {A : Option Addr} (h : Avoid g A n) (hm : m ≤ n) : Avoid g A m := fun h0 => h (by omega)
theorem Lim.avoid {w : World} {A : Option Addr} {c g : Nat} {l : List Nat} (h : Lim w A c l) (hg : w.heap.size ≤ g) : Avoid g A l.length := fun h0 => by
  obtain ⟨ad, e, hb, _⟩ := h.cell h0
  exact ⟨ad, e, by omega⟩
theorem Lim.setCell {w : World} {A : Option Addr} {c : Nat} {l : List Nat} {p : Addr} (h : Lim w A c l) (ha : Avoid p.block A l.length) (v : Value) : Lim (w.setCell p v) A c l :=
  ⟨h.cap, h.small, fun hn => by
    obtain ⟨ad, e, hb, hc⟩ := h.cell hn
    obtain ⟨ad', e', hne⟩ := ha hn
    rw [e] at e'
    obtain rfl := Option.some.inj e'
    refine ⟨ad, e, by simpa [World.setCell] using hb, fun j hj => ?_⟩
    rw [World.cell?_of_block (w := w) (Below.heap_setCell _ _ _ _ (by rw [addr_add_block]; exact hne))]
    exact hc j hj⟩
theorem Own.avoid {w : World} {B T g : Nat} {A : Option Addr} {n c : Nat} {xs : List Value} (h : Own w B T A n c xs) (hg : g < B) : Avoid g A n := fun hn => by
  rcases h.2 with ⟨_, h0⟩ | ⟨b, cap, cur, hv, hb, _⟩
  · omega
  · injection hv with hA _ _
    exact ⟨_, hA, by simp; omega⟩
/-- what a function hands back: the canonical limbs of n as a slice, as a Natural; nothing that was there has changed -/
def RetF (w : World) (n : Nat) (e : Ending) (w' : World) : Prop := ∃ A c, e = .returned (.slice A (dig n).length c) ∧ Lim w' A c (dig n) ∧ Below w.heap.size w w' ∧ ∀ g, g < w.heap.size → Avoid g A (dig n).length
def RetS (w : World) (n : Nat) (e : Ending) (w' : World) : Prop := ∃ A c, e = .returned (.slice A (dig n).length c) ∧ Lim w' A c (dig n) ∧ Below w.heap.size w w'
def RetN (w : World) (n : Nat) (e : Ending) (w' : World) : Prop := ∃ A c, e = .returned (.agg #[.slice A (dig n).length c]) ∧ Lim w' A c (dig n) ∧ Below w.heap.size w w'
/-- the same world, but for draws -/
def Drawn (w w' : World) : Prop := ∃ n, w' = w.drewN n
theorem Drawn.below {w w' : World} (h : Drawn w w') (B : Nat) : Below B w w' := by
  obtain ⟨n, rfl⟩ := h
  exact drew_below (Below.refl _ _) n
/-- -1, 0, 1 -/
def cmpI (a b : Nat) : Int := if a < b then -1 else if b < a then 1 else 0
theorem cmpI_lt {a b : Nat} (h : a < b) : cmpI a b = -1 := by rw [cmpI, if_pos h]
theorem cmpI_gt {a b : Nat} (h : b < a) : cmpI a b = 1 := by rw [cmpI, if_neg (by omega), if_pos h]
theorem cmpI_eq {a b : Nat} (h : a = b) : cmpI a b = 0 := by rw [cmpI, if_neg (by omega), if_neg (by omega)]
theorem ret_slice {A : Option Addr} {n m c : Nat} (h : n = m) : Ending.returned (.slice A n c) = .returned (.slice A m c) := by rw [h]
theorem ret_nat {A : Option Addr} {n m c : Nat} (h : n = m) : Ending.returned (.agg #[.slice A n c]) = .returned (.agg #[.slice A m c]) := by rw [h]
theorem ret_int {k : IntKind} {a b : Int} (h : a = b) : Ending.returned (.int k a) = .returned (.int k b) := by rw [h]
theorem ret_bool {a b : Bool} (h : a = b) : Ending.returned (.bool a) = .returned (.bool b) := by rw [h]
theorem ret_of {v v' : Value} (h : v = v') : Ending.returned v = .returned v' := by rw [h]

theorem own_snoc {w : World} {B T : Nat} {A : Option Addr} {n c : Nat} {k : IntKind} {o : List Nat} {e : Int} {x : Nat} (h : Own w B T A n c (ints k o ++ [.int k e])) (he : e = (x : Int)) : Own w B T A n c (ints k (o ++ [x])) := by
  subst he; rw [ints_snoc]; exact h
/-- a cell of an owned row at a known place -/
theorem Own.cellAt {w : World} {B T g n c j : Nat} {k : IntKind} {o : List Nat} (h : Own w B T (some ⟨g, 0, none⟩) n c (ints k o)) (hj : j < o.length) : w.cell? ⟨g, j, none⟩ = some (.int k (at_ o j : Nat)) := by
  have hl := h.len
  rw [ints_len] at hl
  rw [World.ownsRow.cellAt h j (by omega)]
  exact ints_at hj
theorem Own.freeAt {w : World} {B T g n c : Nat} {xs : List Value} (h : Own w B T (some ⟨g, 0, none⟩) n c xs) (j : Nat) : w.frozen? ⟨g, j, none⟩ = false := World.ownsRow.frozenAt h j
theorem Own.stored {w : World} {B T g n c j : Nat} {k : IntKind} {o : List Nat} (h : Own w B T (some ⟨g, 0, none⟩) n c (ints k o)) {e : Int} {x : Nat} (he : e = (x : Int)) :
    Own (w.setCell ⟨g, j, none⟩ (.int k e)) B T (some ⟨g, 0, none⟩) n c (ints k (o.set j x)) := by
  subst he; rw [← ints_set]; exact (World.ownsRow.stored h j _).1

/-- append(s, x...) where s has no room: s and x are slices of u32 that lie anywhere; behind it a slice that reads as both. -/
theorem op_append_full {P : Program} {o : Oper} {a : Act} {K : Act → World → Prop} {Q : Exit → Act → World → Prop} {t e : TypeId} (E : Elt P t e (.int .u32 0) 4) (w : World) (s x : Operand) (hop : o.op = Op.call { callee := Callee.builtin Builtin.append, args := #[s, x], argTypes := #[t, t] })
    {A X : Option Addr} {n m cx : Nat} {l r : List Nat} (hs : a.eval s = .slice A n n) (hx : a.eval x = .slice X m cx) (H : Lim w A n l) (HX : Lim w X cx r) (hn : n = l.length) (hm : m = r.length) (hb : n + m ≤ 34359738368)
    (hK : ∀ A' c' w', Lim w' A' c' (l ++ r) → Below w.heap.size w w' → (∀ g, g < w.heap.size → Avoid g A n → Avoid g A' (n + m)) → K (a.put o.dst (.slice A' (n + m) c')) w') : Oper.wp P o a w K Q := by
  subst hn hm
  obtain ⟨i, hi, hz, h1, h2⟩ := info_parts E.info
  by_cases h0 : r.length = 0
  · have hr : r = [] := List.eq_nil_of_length_eq_zero h0
    subst hr
    have hrun : (Builtin.append_ #[t, t] o.type #[.slice A l.length l.length, .slice X 0 cx]).run P w = .ok (.slice A l.length l.length) w := by
      cases A <;> cases X <;> simp [Builtin.append_, run_underlying E.und, sizeOf, typeInfo, hi, Builtin.lenOf, Builtin.firstCells, loadCells, loadCellsFrom, storeCells]
    have hk := hK A l.length w (by rw [List.append_nil]; exact H) (Below.refl _ _) (fun _ _ h => h)
    unfold Oper.wp
    simp [execOp, hop, resolve, invoke, builtin, hs, hx, hrun, Result.andThen]
    exact hk
  · obtain ⟨xd, rfl, hxb, hxc⟩ := HX.cell (by omega)
    have hcells : ∀ j u, (ints .u32 r)[j]? = some u → w.cell? (xd.add j) = some u := by
      intro j u hu
      have hj : j < r.length := by have := (List.getElem?_eq_some_iff.1 hu).1; rwa [ints_len] at this
      rw [ints_at hj] at hu
      rw [hxc j hj, hu]
    have fin : ∀ v' w', w'.ownsRow w.heap.size e 1 v' (l.length + r.length) (ints .u32 l ++ ints .u32 r) → w.grownBy w' none → K (a.put o.dst v') w' := by
      intro v' w' hown hgr
      obtain ⟨A', c', rfl⟩ : ∃ A' c', v' = .slice A' (l.length + r.length) c' := by
        rcases hown.2 with ⟨_, h0⟩ | ⟨g, cap, cur, hv, _⟩
        · omega
        · exact ⟨_, _, hv⟩
      refine hK A' c' w' ?_ (below_of_grown hgr (Nat.le_refl _) (by simp)) (fun g hg _ => Own.avoid (T := e) (xs := ints .u32 l ++ ints .u32 r) hown hg)
      have hown2 : Own w' w.heap.size e A' (l ++ r).length c' (ints .u32 (l ++ r)) := by rw [ints_append, List.length_append]; exact hown
      refine Own.lim hown2 fun j => ?_
      by_cases hj : j < l.length
      · rw [at_append_l hj]; exact H.small j
      · rw [at_append_r (by omega)]; exact HX.small _
    have hkl : ∀ b, A = some b → ∀ j u, (ints .u32 l)[j]? = some u → w.cell? (b.add j) = some u := by
      intro b hb' j u hu
      have hj : j < l.length := by have := (List.getElem?_eq_some_iff.1 hu).1; rwa [ints_len] at this
      obtain ⟨ad, e1, _, hc⟩ := H.cell (by omega)
      rw [hb'] at e1
      obtain rfl := Option.some.inj e1
      rw [ints_at hj] at hu
      rw [hc j hj, hu]
    cases A with
    | some b =>
      obtain ⟨v', w', hrun, r1, r2⟩ := run_append_arg_grows (P := P) w t o.type e i (.int .u32 0) 1 4 E.und hi hz h1 h2 rfl (by decide) b l.length l.length (ints .u32 l) (by rw [ints_len]; omega) (hkl b rfl) xd r.length cx (ints .u32 r) (by rw [ints_len]; omega) hcells (by omega) (by unfold maxLen; omega) (by omega)
      unfold Oper.wp
      simp [execOp, hop, resolve, invoke, builtin, hs, hx, hrun, Result.andThen]
      exact fin v' w' r1 r2
    | none =>
      have hl0 : l = [] := by
        rcases Nat.eq_zero_or_pos l.length with h | h
        · exact List.eq_nil_of_length_eq_zero h
        · obtain ⟨_, e1, _⟩ := H.cell h; cases e1
      subst hl0
      obtain ⟨v', w', hrun, r1, r2, _⟩ := run_append_own (P := P) w w.heap.size t o.type e i (.int .u32 0) 1 4 E.und hi hz h1 h2 rfl (by decide) (.slice none 0 0) 0 [] (World.ownsRow_nil w _ e 1) xd r.length cx (ints .u32 r) (by rw [ints_len]; omega) hcells (ints_one _ _) (by unfold maxLen; omega) (by omega) (Nat.le_refl _)
      unfold Oper.wp
      simp [execOp, hop, resolve, invoke, builtin, hs, hx, hrun, Result.andThen]
      exact fin v' w' (by simpa [ints] using r1) r2
theorem wp_append_full {P : Program} {ops : Array Oper} {rest : List Oper} {o : Oper} {a : Act} {Q : Exit → Act → World → Prop} {t e : TypeId} (E : Elt P t e (.int .u32 0) 4) (w : World) (hg : o.guard = none) (s x : Operand) (hop : o.op = Op.call { callee := Callee.builtin Builtin.append, args := #[s, x], argTypes := #[t, t] })
    {A X : Option Addr} {n m cx : Nat} {l r : List Nat} (hs : a.eval s = .slice A n n) (hx : a.eval x = .slice X m cx) (H : Lim w A n l) (HX : Lim w X cx r) (hn : n = l.length) (hm : m = r.length) (hb : n + m ≤ 34359738368)
    (hK : ∀ A' c' w', Lim w' A' c' (l ++ r) → Below w.heap.size w w' → (∀ g, g < w.heap.size → Avoid g A n → Avoid g A' (n + m)) → wpList P ops Q rest (a.put o.dst (.slice A' (n + m) c')) w') : wpList P ops Q (o :: rest) a w :=
  wpList_plain hg fun _ hK' => op_append_full E w s x hop hs hx H HX hn hm hb fun A' c' w' h1 h2 h3 => hK' _ _ (hK A' c' w' h1 h2 h3)
theorem step_append_full {P : Program} {ops : Array Oper} {o : Oper} {a : Act} {K : Act → World → Prop} {Q : Exit → Act → World → Prop} {F : Prop} {t e : TypeId} (E : Elt P t e (.int .u32 0) 4) (w : World) (hg : o.guard = none) (s x : Operand) (hop : o.op = Op.call { callee := Callee.builtin Builtin.append, args := #[s, x], argTypes := #[t, t] })
    {A X : Option Addr} {n m cx : Nat} {l r : List Nat} (hs : a.eval s = .slice A n n) (hx : a.eval x = .slice X m cx) (H : Lim w A n l) (HX : Lim w X cx r) (hn : n = l.length) (hm : m = r.length) (hb : n + m ≤ 34359738368)
    (hK : ∀ A' c' w', Lim w' A' c' (l ++ r) → Below w.heap.size w w' → (∀ g, g < w.heap.size → Avoid g A n → Avoid g A' (n + m)) → K (a.put o.dst (.slice A' (n + m) c')) w') :
    if Region.wanted o (yielded ops a.tmps) = true then Oper.wp P o a w K Q else F := by
  rw [if_pos (by simp [Region.wanted, hg])]
  exact op_append_full E w s x hop hs hx H HX hn hm hb hK

/-- a slice literal of one number -/
theorem Lim.lit1 (w : World) (T : TypeId) {x : Nat} (hx : x < 4294967296) : Lim (w.alloc (.cells #[.int .u32 (x : Int)] T)) (some ⟨w.heap.size, 0, none⟩) 1 [x] := by
  refine ⟨by simp, fun j => ?_, fun _ => ⟨_, rfl, by simp, fun j hj => ?_⟩⟩
  · cases j with
    | zero => rw [at_zero]; exact hx
    | succ j => rw [at_succ, at_nil]; omega
  · obtain rfl : j = 0 := by simp at hj; omega
    rw [at_zero]
    simp [Addr.add, World.cell?_alloc_at]

/-- x[lo:] -/
theorem wp_slice_low {P : Program} {ops : Array Oper} {rest : List Oper} {o : Oper} {a : Act} {Q : Exit → Act → World → Prop} {t e : TypeId} {z : Value} {b : Nat} (E : Elt P t e z b) (hel : P.elem t = e) (w : World) (hg : o.guard = none) (x lo : Operand) (hop : o.op = Op.slice t x (some lo) none none)
    {A : Option Addr} {n c k : Nat} {K : Int} {l : List Nat} (hx : a.eval x = .slice A n c) (hlo : a.eval lo = .int .i64 K) (hK : K = (k : Int)) (H : Lim w A c l) (hn : n = l.length) (hk : k ≤ n)
    (hW : ∀ A' c', Lim w A' c' (l.drop k) → wpList P ops Q rest (a.put o.dst (.slice A' (n - k) c')) w) : wpList P ops Q (o :: rest) a w := by
  refine wpList_plain hg fun _ hK' => ?_
  obtain ⟨i, hi, hz, h1, h2⟩ := info_parts E.info
  subst hn hK
  have hc := H.cap
  have hr : (Instr.slice t (.slice A l.length c) (some (.int .i64 (k : Int))) none none).run P w = .ok (.slice (if c = k then A else A.map (·.add k)) (l.length - k) (c - k)) w := by
    rw [run_slice_l w t A l.length c (by rw [hel]; exact E.und) .i64 (k : Int) (by omega) (by omega)]
    simp [hel, sizeOf, typeInfo, hi, h1, sliced, Result.andThen]
  unfold Oper.wp
  simp [execOp, hop, hx, hlo, Instr.sliceAt, run_underlying E.und, hr, Result.andThen]
  exact hK' _ _ (hW _ _ (H.drop hk))
end Go.Proofs.YtolkijelldlmeaaGreatDoor
