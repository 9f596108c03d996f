/- Blocks that are known whole, wherever they lie. -/
import Derived.Test.YtolkijelldlmeaaGreatDoorKeep
namespace Go.Proofs.YtolkijelldlmeaaGreatDoor
open Go.RowKit Go.Proofs Go

/-- blocks that are known whole, wherever they lie -/
structure BL (w0 W : World) (L : List (Nat × Array Value × TypeId)) : Prop where
  below : Below w0.heap.size w0 W
  blk : ∀ (i : Nat) (p : Nat × Array Value × TypeId), L[i]? = some p → W.heap[p.1]? = some (.cells p.2.1 p.2.2 (0, 0))
section
variable {w0 W W' : World} {L : List (Nat × Array Value × TypeId)}
theorem BL.nil (w0 : World) : BL w0 w0 [] := ⟨Below.refl _ _, fun i p h => by simp at h⟩
theorem BL.lt (h : BL w0 W L) (i : Nat) {p : Nat × Array Value × TypeId} (hp : L[i]? = some p) : p.1 < W.heap.size := (Array.getElem?_eq_some_iff.1 (h.blk i p hp)).1
theorem BL.ext (h : BL w0 W L) (hb : Below W.heap.size W W') : BL w0 W' L :=
  ⟨bel_trans h.below hb, fun i p hp => by rw [hb.block _ (h.lt i hp)]; exact h.blk i p hp⟩
theorem BL.new (h : BL w0 W L) (c : Array Value) (T : TypeId) : BL w0 (W.alloc (.cells c T)) (L ++ [(W.heap.size, c, T)]) := by
  refine ⟨bel_al h.below _, fun i p hp => ?_⟩
  by_cases hi : i < L.length
  · rw [List.getElem?_append_left hi] at hp
    rw [Below.heap_alloc _ _ _ (h.lt i hp)]
    exact h.blk i p hp
  · have hi2 : i = L.length := by
      have := (List.getElem?_eq_some_iff.1 hp).1
      simp at this
      omega
    subst hi2
    simp at hp
    subst hp
    exact heap_alloc_new W _
theorem BL.cell (h : BL w0 W L) (i j : Nat) {p : Nat × Array Value × TypeId} {v : Value} (hp : L[i]? = some p) (hv : p.2.1[j]? = some v) : W.cell? ⟨p.1, j, none⟩ = some v := by
  simp [World.cell?, h.blk i p hp, hv]
theorem BL.free (h : BL w0 W L) (i j : Nat) {p : Nat × Array Value × TypeId} (hp : L[i]? = some p) : W.frozen? ⟨p.1, j, none⟩ = false := by
  simp [World.frozen?, h.blk i p hp]
theorem BL.one (w : World) (c : Array Value) (T : TypeId) : BL w (w.alloc (.cells c T)) [(w.heap.size, c, T)] := (BL.nil w).new c T
theorem BL.two (w : World) (c c' : Array Value) (T T' : TypeId) : BL w ((w.alloc (.cells c T)).alloc (.cells c' T')) [(w.heap.size, c, T), (w.heap.size + 1, c', T')] := by
  have := (BL.one w c T).new c' T'
  simpa using this
theorem BL.three (w : World) (c c' c2 : Array Value) (T T' T2 : TypeId) : BL w (((w.alloc (.cells c T)).alloc (.cells c' T')).alloc (.cells c2 T2)) [(w.heap.size, c, T), (w.heap.size + 1, c', T'), (w.heap.size + 2, c2, T2)] := by
  have := (BL.two w c c' T T').new c2 T2
  simpa using this
/-- what lies below B stays, where only blocks from B on have turned -/
theorem BL.low {w : World} (h : BL w W L) {B : Nat} (hB : w.heap.size ≤ B) (hL : ∀ (i : Nat) (p : Nat × Array Value × TypeId), L[i]? = some p → p.1 < B) (hb : Below B W W') : BL w W' L :=
  ⟨h.below.trans (hb.mono hB), fun i p hp => by rw [hb.block _ (hL i p hp)]; exact h.blk i p hp⟩
end
/-- three cells of a block -/
structure CB (W : World) (g : Nat) (v0 v1 v2 : Value) : Prop where
  c0 : W.cell? ⟨g, 0, none⟩ = some v0
  c1 : W.cell? ⟨g, 1, none⟩ = some v1
  c2 : W.cell? ⟨g, 2, none⟩ = some v2
theorem CB.ext {W W' : World} {g : Nat} {v0 v1 v2 : Value} (h : CB W g v0 v1 v2) (hb : Below W.heap.size W W') : CB W' g v0 v1 v2 :=
  ⟨by rw [hb.cell (cell_lt h.c0)]; exact h.c0, by rw [hb.cell (cell_lt h.c1)]; exact h.c1, by rw [hb.cell (cell_lt h.c2)]; exact h.c2⟩
theorem al_at {W : World} {g : Nat} (h : g = W.heap.size) {cs : Array Value} (T : TypeId) {j : Nat} {v : Value} (hv : cs[j]? = some v) : (W.alloc (.cells cs T)).cell? ⟨g, j, none⟩ = some v := by
  subst h; rw [World.cell?_alloc_at _ _ _ _ rfl]; exact hv
theorem set_off {W : World} {g : Nat} {i j : Nat} {u v : Value} (h : W.cell? ⟨g, j, none⟩ = some u) (hn : i ≠ j) : (W.setCell ⟨g, i, none⟩ v).cell? ⟨g, j, none⟩ = some u := by
  rw [World.cell?_setCell_other _ _ _ _ (fun e => hn (congrArg Addr.off e))]; exact h
theorem lim_set3 {W : World} {A : Option Addr} {c : Nat} {l : List Nat} {p : Addr} {u : Value} (h : Lim W A c l) (hp : W.cell? p = some u) (hu : Value.noInt u = true) (v : Value) : Lim (W.setCell p v) A c l := h.stay ((Keep.refl W).box hp hu v)
end Go.Proofs.YtolkijelldlmeaaGreatDoor
