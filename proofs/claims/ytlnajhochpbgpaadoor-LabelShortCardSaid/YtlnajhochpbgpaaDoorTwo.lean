/- Two slices that a call owns, side by side: an append to the one leaves the other, and they stay apart. -/
import Derived.Test.YtlnajhochpbgpaaDoorBase
import Derived.ArgAppend
namespace Go.Proofs.YtlnajhochpbgpaaDoor
open Go.RowKit Go.Proofs Go

section
variable {P : Program} (w : World)
/-- append to a row of one's own: the new slice lies in the old block or in a new one -/
theorem run_append_far (base : Nat) (t ty e : TypeId) (i : TypeInfo) (z : Value) (size bytes : Nat) (ht : P.underlying t = some (.slice e)) (hi : P.info? e = some i) (hz : i.zero = some z)
    (hsize : i.size = size) (hby : i.bytes = bytes) (hzs : z.cells.size = size) (hsz : 0 < size)
    (v : Value) (n : Nat) (xs : List Value) (hown : w.ownsRow base e size v n xs)
    (a : Addr) (m c : Nat) (news : List Value) (hl : news.length = m * size) (hnews : ∀ j u, news[j]? = some u → w.cell? (a.add j) = some u) (h1 : ∀ u ∈ news, u.oneCell' = true)
    (h63 : n + m ≤ maxLen) (hbytes : (n + m) * bytes ≤ 140737488355328) (hbase : base ≤ w.heap.size) :
    ∃ v' w', (Builtin.append_ #[t, t] ty #[v, .slice (some a) m c]).run P w = .ok v' w' ∧ w'.ownsRow base e size v' (n + m) (xs ++ news) ∧ w.grownBy w' v.ownBlock ∧
      (∀ g, g < w.heap.size → v.ownBlock ≠ some g → v'.ownBlock ≠ some g) := by
  obtain ⟨v', w', hr, h2, h3, _⟩ := run_append_own w base t ty e i z size bytes ht hi hz hsize hby hzs hsz v n xs hown a m c news hl hnews h1 h63 hbytes hbase
  refine ⟨v', w', hr, h2, h3, fun g hg hne => ?_⟩
  rcases hown.2 with ⟨rfl, rfl⟩ | ⟨k, cap, cur, rfl, _, hk, _, _, hcs, _⟩
  · have hx : xs = [] := List.eq_nil_of_length_eq_zero (by simpa using hown.1)
    subst hx
    obtain ⟨v2, w2, hr2, h4, _, _⟩ := run_append_own w w.heap.size t ty e i z size bytes ht hi hz hsize hby hzs hsz (.slice none 0 0) 0 [] (World.ownsRow_nil w _ e size) a m c news hl hnews h1 h63 hbytes (Nat.le_refl _)
    have he := hr2.symm.trans hr
    injection he with he1 he2
    subst he1 he2
    intro hb
    have := (World.ownsRow.lt h4 g hb).1
    omega
  · by_cases hroom : n + m ≤ cap
    · subst hsize
      have hfit : n * i.size + news.length ≤ cur.size := by rw [hl, hcs, ← Nat.add_mul]; exact Nat.mul_le_mul_right _ hroom
      have hr2 := run_append_room (P := P) w t ty e i ht hi k n cap cur hk a m c news hl hnews h1 hroom hfit
      have he := hr2.symm.trans hr
      injection he with he1 he2
      subst he1
      exact hne
    · obtain ⟨v2, w2, hr2, h4, _⟩ := run_append_arg_grows (P := P) w t ty e i z size bytes ht hi hz hsize hby hzs hsz ⟨k, 0, none⟩ n cap xs hown.1 (World.ownsRow.cells hown rfl) a m c news hl hnews (by omega) h63 hbytes
      have he := hr2.symm.trans hr
      injection he with he1 he2
      subst he1 he2
      intro hb
      have := (World.ownsRow.lt h4 g hb).1
      omega
end
/-- two slices lie in different blocks -/
def Far (A C : Option Addr) : Prop := ∀ a c : Addr, A = some a → C = some c → a.block ≠ c.block
theorem Far.symm {A C : Option Addr} (h : Far A C) : Far C A := fun c a hc ha e => h a c ha hc e.symm
theorem Far.nil (A : Option Addr) : Far A none := fun _ _ _ h => by cases h
section
variable {P : Program} {ops : Array Oper} {rest : List Oper} {o : Oper} {a : Act} {Q : Exit → Act → World → Prop} {t e : TypeId} {z : Value} {b : Nat}
/-- append(s, x), behind the operation that laid x in a block of its own; what another slice of the call's own is stays, and lies apart -/
theorem wp_push2 (E : Elt P t e z b) (w : World) (hg : o.guard = none) (s x : Operand) (hop : o.op = Op.call { callee := Callee.builtin Builtin.append, args := #[s, x], argTypes := #[t, t] })
    {B : Nat} {A : Option Addr} {n c : Nat} {xs : List Value} {u : Value} (hs : a.eval s = .slice A n c) (hx : a.eval x = .slice (some ⟨w.heap.size, 0, none⟩) 1 1) (hown : Own w B e A n c xs) (hu : u.oneCell' = true)
    (hn : (n + 1) * b ≤ 140737488355328) (hm : n < 9223372036854775807) (hB : B ≤ w.heap.size)
    {C : Option Addr} {n2 c2 : Nat} {ys : List Value} (hown2 : Own w B e C n2 c2 ys) (hfar : Far A C)
    (hK : ∀ A' c' w', Own w' B e A' (n + 1) c' (xs ++ [u]) → Own w' B e C n2 c2 ys → Far A' C → Below B w w' → w.heap.size < w'.heap.size → wpList P ops Q rest (a.put o.dst (.slice A' (n + 1) c')) w') :
    wpList P ops Q (o :: rest) a (w.alloc (.cells #[u] e)) := by
  obtain ⟨i, hi, hz, h1, h2⟩ := info_parts E.info
  have hnews : ∀ j v, ([u] : List Value)[j]? = some v → (w.alloc (.cells #[u] e)).cell? ((⟨w.heap.size, 0, none⟩ : Addr).add j) = some v := by
    intro j v hj
    match j, hj with
    | 0, hj => simp at hj; subst hj; simp [Addr.add, World.cell?_alloc_at]
  have hone : ∀ v ∈ [u], v.oneCell' = true := by intro v hv; simp at hv; subst hv; exact hu
  obtain ⟨v', w', hrun, h3, h4, h5⟩ := run_append_far (P := P) (w.alloc (.cells #[u] e)) B t o.type e i z 1 b E.und hi hz h1 h2 (by rw [E.one]; rfl) (by decide) _ n xs (World.ownsRow.alloc hown _) ⟨w.heap.size, 0, none⟩ 1 1 [u] rfl hnews hone (by unfold maxLen; omega) hn (by simp; omega)
  have hb : w.grownBy w' (Value.slice A n c).ownBlock := ⟨h4.os, h4.tape, h4.output, Nat.le_trans (by simp) h4.size, fun k hk hne => (h4.block k (by simp; omega) hne).trans (Below.heap_alloc w _ k hk)⟩
  have hlt : w.heap.size < w'.heap.size := by have := h4.size; simp at this; omega
  obtain ⟨A', c', rfl⟩ : ∃ A' c', v' = .slice A' (n + 1) c' := by
    rcases h3.2 with ⟨_, h0⟩ | ⟨g, cap, cur, hv, _⟩
    · omega
    · exact ⟨_, _, hv⟩
  have hC : ∀ c : Addr, C = some c → c.block < w.heap.size := fun c hc => (World.ownsRow.lt hown2 c.block (by rw [hc]; rfl)).2
  have hkeep : Own w' B e C n2 c2 ys := World.ownsRow.kept hown2 hb (by
    cases hCc : C with
    | none => exact .inl rfl
    | some q =>
      right
      cases hAa : A with
      | none => intro h; cases h
      | some p =>
        intro h
        injection h with h
        exact hfar p q hAa hCc h.symm)
  have hfar' : Far A' C := fun p q hp hq he => by
    have := hC q hq
    refine h5 q.block (by simp; omega) (fun h => ?_) (by rw [hp]; show some p.block = _; rw [he])
    cases hAa : A with
    | none => rw [hAa] at h; cases h
    | some r =>
      rw [hAa] at h
      injection h with h
      exact hfar r q hAa hq h
  refine wpList_plain hg fun K hK' => ?_
  unfold Oper.wp
  simp [execOp, hop, resolve, invoke, builtin, hs, hx, hrun, Result.andThen]
  exact hK' _ _ (hK A' c' w' h3 hkeep hfar' (below_of_grown hb hB fun k hk => ((World.ownsRow.lt hown) k hk).1) hlt)
end
end Go.Proofs.YtlnajhochpbgpaaDoor
