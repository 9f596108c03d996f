/- Numbers that stay where they were, under stores into boxes. -/
import Derived.Test.YtolkijelldlmeaaGreatDoorNat9
namespace Go.Proofs.YtolkijelldlmeaaGreatDoor
open Go.RowKit Go.Proofs

/-- numbers stay where they were -/
structure Keep (w w' : World) : Prop where
  size : w.heap.size ≤ w'.heap.size
  ints : ∀ p k n, w.cell? p = some (.int k n) → w'.cell? p = some (.int k n)
theorem cell_lt {w : World} {p : Addr} {v : Value} (h : w.cell? p = some v) : p.block < w.heap.size := by
  rcases Nat.lt_or_ge p.block w.heap.size with h' | h'
  · exact h'
  · simp [World.cell?, Array.getElem?_eq_none h'] at h
section
variable {w W w' : World}
theorem Keep.refl (w : World) : Keep w w := ⟨Nat.le_refl _, fun _ _ _ h => h⟩
theorem Keep.trans (h : Keep w W) (k : Keep W w') : Keep w w' := ⟨Nat.le_trans h.size k.size, fun p i n e => k.ints p i n (h.ints p i n e)⟩
theorem Keep.of_below (h : Below w.heap.size w w') : Keep w w' := ⟨h.size, fun p i n e => by rw [h.cell (cell_lt e)]; exact e⟩
theorem Keep.ext (h : Keep w W) (k : Below W.heap.size W w') : Keep w w' := h.trans (Keep.of_below k)
theorem Keep.alloc (h : Keep w W) (o : Obj) : Keep w (W.alloc o) := h.ext (below_alloc W o)
theorem Keep.drewN (h : Keep w W) (n : Nat) : Keep w (W.drewN n) := ⟨h.size, h.ints⟩
theorem Keep.drew (h : Keep w W) : Keep w W.drew := ⟨h.size, h.ints⟩
theorem Keep.set (h : Keep w W) {p : Addr} (hp : ∀ k n, W.cell? p ≠ some (.int k n)) (v : Value) : Keep w (W.setCell p v) :=
  ⟨by simpa [World.setCell] using h.size, fun q i n e => by
    have e2 := h.ints q i n e
    by_cases hq : p = q
    · subst hq; exact absurd e2 (hp i n)
    · rw [World.cell?_setCell_other _ _ _ _ hq]; exact e2⟩
theorem Keep.box (h : Keep w W) {p : Addr} {u : Value} (hp : W.cell? p = some u) (hu : Value.noInt u = true) (v : Value) : Keep w (W.setCell p v) :=
  h.set (fun k n e => by rw [hp] at e; obtain rfl := Option.some.inj e; cases hu) v
theorem Lim.stay {A : Option Addr} {c : Nat} {l : List Nat} (H : Lim w A c l) (K : Keep w w') : Lim w' A c l :=
  ⟨H.cap, H.small, fun hn => by
    obtain ⟨ad, e, hb, hc⟩ := H.cell hn
    exact ⟨ad, e, Nat.lt_of_lt_of_le hb K.size, fun j hj => K.ints _ _ _ (hc j hj)⟩⟩
end
theorem cell_of {W : World} {g : Nat} {cs : Array Value} {T : TypeId} {fr : Nat × Nat} (h : W.heap[g]? = some (.cells cs T fr)) (j : Nat) : W.cell? ⟨g, j, none⟩ = cs[j]? := by simp [World.cell?, h]
/-- a store of a struct of three cells into a box -/
theorem set3 {w W : World} {g : Nat} {T : TypeId} {u0 u1 u2 : Value} (hb : W.heap[g]? = some (.cells #[u0, u1, u2] T (0, 0))) (h0 : Value.noInt u0 = true) (h1 : Value.noInt u1 = true) (h2 : Value.noInt u2 = true) (hB : Below w.heap.size w W) (hg : w.heap.size ≤ g) (v0 v1 v2 : Value) :
    (W.setCell ⟨g, 0, none⟩ v0).cell? ⟨g, 0, none⟩ = some v0 ∧ ((W.setCell ⟨g, 0, none⟩ v0).setCell ⟨g, 1, none⟩ v1).cell? ⟨g, 1, none⟩ = some v1 ∧ (((W.setCell ⟨g, 0, none⟩ v0).setCell ⟨g, 1, none⟩ v1).setCell ⟨g, 2, none⟩ v2).cell? ⟨g, 2, none⟩ = some v2 ∧
    (((W.setCell ⟨g, 0, none⟩ v0).setCell ⟨g, 1, none⟩ v1).setCell ⟨g, 2, none⟩ v2).heap[g]? = some (.cells #[v0, v1, v2] T (0, 0)) ∧ Keep W (((W.setCell ⟨g, 0, none⟩ v0).setCell ⟨g, 1, none⟩ v1).setCell ⟨g, 2, none⟩ v2) ∧ Below w.heap.size w (((W.setCell ⟨g, 0, none⟩ v0).setCell ⟨g, 1, none⟩ v1).setCell ⟨g, 2, none⟩ v2) := by
  have e1 : (W.setCell ⟨g, 0, none⟩ v0).heap[g]? = some (.cells #[v0, u1, u2] T (0, 0)) := heap_setCell_same W g 0 _ T v0 hb
  have e2 : ((W.setCell ⟨g, 0, none⟩ v0).setCell ⟨g, 1, none⟩ v1).heap[g]? = some (.cells #[v0, v1, u2] T (0, 0)) := heap_setCell_same _ g 1 _ T v1 e1
  have e3 : (((W.setCell ⟨g, 0, none⟩ v0).setCell ⟨g, 1, none⟩ v1).setCell ⟨g, 2, none⟩ v2).heap[g]? = some (.cells #[v0, v1, v2] T (0, 0)) := heap_setCell_same _ g 2 _ T v2 e2
  refine ⟨cell_of e1 0, cell_of e2 1, cell_of e3 2, e3, ?_, ((hB.setCell hg _).setCell hg _).setCell hg _⟩
  exact (((Keep.refl W).box (p := ⟨g, 0, none⟩) (cell_of hb 0) h0 v0).box (p := ⟨g, 1, none⟩) (cell_of e1 1) h1 v1).box (p := ⟨g, 2, none⟩) (cell_of e2 2) h2 v2

/-- a store of three cells into box i -/
theorem Bx.put3 {w W : World} {os : List (Array Value × TypeId)} (h : Bx w W os) (i : Nat) {u0 u1 u2 : Value} {T : TypeId} (hp : os[i]? = some (#[u0, u1, u2], T)) (v0 v1 v2 : Value) :
    Bx w (((W.setCell ⟨w.heap.size + i, 0, none⟩ v0).setCell ⟨w.heap.size + i, 1, none⟩ v1).setCell ⟨w.heap.size + i, 2, none⟩ v2) (os.set i (#[v0, v1, v2], T)) := by
  have hi := (List.getElem?_eq_some_iff.1 hp).1
  have h1 := h.set i 0 hp v0
  have h2 := h1.set i 1 (List.getElem?_set_self hi) v1
  rw [List.set_set] at h2
  have h3 := h2.set i 2 (List.getElem?_set_self hi) v2
  rw [List.set_set] at h3
  exact h3
theorem Bx.put3_keep {w W : World} {os : List (Array Value × TypeId)} (h : Bx w W os) (i : Nat) {u0 u1 u2 : Value} {T : TypeId} (hp : os[i]? = some (#[u0, u1, u2], T)) (h0 : Value.noInt u0 = true) (h1 : Value.noInt u1 = true) (h2 : Value.noInt u2 = true) (v0 v1 v2 : Value) :
    Keep W (((W.setCell ⟨w.heap.size + i, 0, none⟩ v0).setCell ⟨w.heap.size + i, 1, none⟩ v1).setCell ⟨w.heap.size + i, 2, none⟩ v2) :=
  (set3 (w := w) (h.blk i hp) h0 h1 h2 h.below (Nat.le_add_right _ _) v0 v1 v2).2.2.2.2.1
theorem Bx.put1_keep {w W : World} {os : List (Array Value × TypeId)} (h : Bx w W os) (i : Nat) {u0 : Value} {T : TypeId} (hp : os[i]? = some (#[u0], T)) (h0 : Value.noInt u0 = true) (v0 : Value) :
    Keep W (W.setCell ⟨w.heap.size + i, 0, none⟩ v0) := (Keep.refl W).box (cell_of (h.blk i hp) 0) h0 v0
theorem bel_al {a W : World} (h : Below a.heap.size a W) (o : Obj) : Below a.heap.size a (W.alloc o) := h.alloc h.size o
theorem bel_set {a W : World} {p : Addr} (h : Below a.heap.size a W) (hp : a.heap.size ≤ p.block) (v : Value) : Below a.heap.size a (W.setCell p v) := h.setCell hp v
theorem bel_dr {a W : World} (h : Below a.heap.size a W) : Below a.heap.size a W.drew := drew_below h 1
theorem lim_al {W : World} {A : Option Addr} {c : Nat} {l : List Nat} (h : Lim W A c l) (o : Obj) : Lim (W.alloc o) A c l := h.ext (below_alloc W o)
theorem lim_set {W : World} {A : Option Addr} {c : Nat} {l : List Nat} {p : Addr} (h : Lim W A c l) (hp : W.cell? p = some (.slice none 0 0)) (v : Value) : Lim (W.setCell p v) A c l := h.stay ((Keep.refl W).box hp rfl v)
theorem set_ne {W : World} {p q : Addr} {u v : Value} (h : W.cell? q = some u) (hn : p.block ≠ q.block) : (W.setCell p v).cell? q = some u := by
  rw [World.cell?_setCell_other _ _ _ _ (fun e => hn (congrArg Addr.block e))]; exact h
theorem al_old {W : World} {q : Addr} {u : Value} {o : Obj} (h : W.cell? q = some u) : (W.alloc o).cell? q = some u := by
  rw [(below_alloc W o).cell (cell_lt h)]; exact h
theorem al_new {W : World} {g : Nat} (h : g = W.heap.size) (v : Value) (T : TypeId) : (W.alloc (.cells #[v] T)).cell? ⟨g, 0, none⟩ = some v := by subst h; simp
theorem bel_trans {a W w' : World} (h : Below a.heap.size a W) (hb : Below W.heap.size W w') : Below a.heap.size a w' := h.trans (hb.mono h.size)
end Go.Proofs.YtolkijelldlmeaaGreatDoor
