/- Boxes: the blocks that a call lays first (its parameters that are structs, its results); they stay as they are while other functions are called. -/
import Derived.Test.YtolkijelldlmeaaGreatDoorBase
import Derived.Deep.RegionHeld3
import Derived.Deep.RegionLaw
import Derived.Deep.DeepCutAuto
import Derived.Deep.CutBlock
import Derived.Lib.SliceRun
namespace Go.Proofs.YtolkijelldlmeaaGreatDoor
open Go.RowKit

/-- the blocks from w's end on, in W -/
structure Bx (w W : World) (os : List (Array Value × TypeId)) : Prop where
  below : Below w.heap.size w W
  at_ : ∀ i p, os[i]? = some p → W.heap[w.heap.size + i]? = some (.cells p.1 p.2 (0, 0))

section
variable {w W W' : World} {os : List (Array Value × TypeId)}
theorem Bx.size (h : Bx w W os) : w.heap.size + os.length ≤ W.heap.size := by
  rcases Nat.eq_zero_or_pos os.length with h0 | h0
  · have := h.below.size; omega
  · have := h.at_ (os.length - 1) _ (List.getElem?_eq_getElem (by omega))
    have := (Array.getElem?_eq_some_iff.1 this).1
    omega
theorem Bx.ext (h : Bx w W os) (hb : Below W.heap.size W W') : Bx w W' os :=
  ⟨h.below.trans (hb.mono h.below.size), fun i p hp => by
    have hi := (List.getElem?_eq_some_iff.1 hp).1
    have := h.size
    rw [hb.block _ (by omega)]
    exact h.at_ i p hp⟩
theorem Bx.blk (h : Bx w W os) (i : Nat) {p : Array Value × TypeId} (hp : os[i]? = some p) : W.heap[w.heap.size + i]? = some (.cells p.1 p.2 (0, 0)) := h.at_ i p hp
theorem Bx.cell (h : Bx w W os) (i j : Nat) {p : Array Value × TypeId} {v : Value} (hp : os[i]? = some p) (hv : p.1[j]? = some v) : W.cell? ⟨w.heap.size + i, j, none⟩ = some v := by
  simp [World.cell?, h.at_ i p hp, hv]
theorem Bx.cell_set (h : Bx w W os) (i j : Nat) {p : Array Value × TypeId} {v : Value} (hp : os[i]? = some p) (hv : p.1[j]? = some v) {q : Addr} (hne : q.block ≠ w.heap.size + i) (u : Value) : (W.setCell q u).cell? ⟨w.heap.size + i, j, none⟩ = some v := by
  rw [World.cell?_of_block (w := W) (Below.heap_setCell _ _ _ _ (Ne.symm hne))]
  exact h.cell i j hp hv
theorem Bx.free (h : Bx w W os) (i j : Nat) {p : Array Value × TypeId} (hp : os[i]? = some p) : W.frozen? ⟨w.heap.size + i, j, none⟩ = false := by
  simp [World.frozen?, h.at_ i p hp]
theorem Bx.cell0 (h : Bx w W os) (j : Nat) {p : Array Value × TypeId} {v : Value} (hp : os[0]? = some p) (hv : p.1[j]? = some v) : W.cell? ⟨w.heap.size, j, none⟩ = some v := h.cell 0 j hp hv
theorem Bx.free0 (h : Bx w W os) (j : Nat) {p : Array Value × TypeId} (hp : os[0]? = some p) : W.frozen? ⟨w.heap.size, j, none⟩ = false := h.free 0 j hp
theorem Bx.blk0 (h : Bx w W os) {p : Array Value × TypeId} (hp : os[0]? = some p) : W.heap[w.heap.size]? = some (.cells p.1 p.2 (0, 0)) := h.blk 0 hp
/-- a store into box i -/
theorem Bx.set (h : Bx w W os) (i j : Nat) {c : Array Value} {T : TypeId} (hp : os[i]? = some (c, T)) (v : Value) : Bx w (W.setCell ⟨w.heap.size + i, j, none⟩ v) (os.set i (c.setIfInBounds j v, T)) := by
  have hi := (List.getElem?_eq_some_iff.1 hp).1
  refine ⟨h.below.setCell (by simp) v, fun k p hk => ?_⟩
  by_cases hki : i = k
  · subst hki
    rw [List.getElem?_set_self hi] at hk
    obtain rfl := Option.some.inj hk
    exact heap_setCell_same W _ j c T v (h.at_ i _ hp)
  · rw [List.getElem?_set_ne hki] at hk
    rw [Below.heap_setCell _ _ _ _ (by simp; omega)]
    exact h.at_ k p hk
theorem Bx.nil (w : World) : Bx w w [] := ⟨Below.refl _ _, fun i p hp => by simp at hp⟩
theorem Bx.push (h : Bx w W os) (hs : W.heap.size = w.heap.size + os.length) (c : Array Value) (T : TypeId) : Bx w (W.alloc (.cells c T)) (os ++ [(c, T)]) := by
  refine ⟨h.below.trans ((below_alloc W _).mono (by omega)), fun i p hp => ?_⟩
  by_cases hi : i < os.length
  · rw [List.getElem?_append_left hi] at hp
    rw [Below.heap_alloc _ _ _ (by omega)]
    exact h.at_ i p hp
  · have hi2 : i = os.length := by
      have := (List.getElem?_eq_some_iff.1 hp).1
      simp at this
      omega
    subst hi2
    simp at hp
    subst hp
    rw [← hs]
    exact heap_alloc_new W _
theorem Bx.one (w : World) (c : Array Value) (T : TypeId) : Bx w (w.alloc (.cells c T)) [(c, T)] := (Bx.nil w).push rfl c T
theorem Bx.two (w : World) (c1 c2 : Array Value) (T1 T2 : TypeId) : Bx w ((w.alloc (.cells c1 T1)).alloc (.cells c2 T2)) [(c1, T1), (c2, T2)] := (Bx.one w c1 T1).push (by simp) c2 T2
theorem Bx.three (w : World) (c1 c2 c3 : Array Value) (T1 T2 T3 : TypeId) : Bx w (((w.alloc (.cells c1 T1)).alloc (.cells c2 T2)).alloc (.cells c3 T3)) [(c1, T1), (c2, T2), (c3, T3)] := (Bx.two w c1 c2 T1 T2).push (by simp) c3 T3
theorem Bx.four (w : World) (c1 c2 c3 c4 : Array Value) (T1 T2 T3 T4 : TypeId) : Bx w ((((w.alloc (.cells c1 T1)).alloc (.cells c2 T2)).alloc (.cells c3 T3)).alloc (.cells c4 T4)) [(c1, T1), (c2, T2), (c3, T3), (c4, T4)] := (Bx.three w c1 c2 c3 T1 T2 T3).push (by simp) c4 T4
theorem Bx.five (w : World) (c1 c2 c3 c4 c5 : Array Value) (T1 T2 T3 T4 T5 : TypeId) : Bx w (((((w.alloc (.cells c1 T1)).alloc (.cells c2 T2)).alloc (.cells c3 T3)).alloc (.cells c4 T4)).alloc (.cells c5 T5)) [(c1, T1), (c2, T2), (c3, T3), (c4, T4), (c5, T5)] := (Bx.four w c1 c2 c3 c4 T1 T2 T3 T4).push (by simp) c5 T5
end

def Value.noInt : Value → Bool
  | .int _ _ => false
  | _ => true
/-- limbs never lie in a block that holds no number -/
theorem Lim.avoid_blk {W : World} {A : Option Addr} {c g : Nat} {l : List Nat} {cs : Array Value} {T : TypeId} {fr : Nat × Nat} (h : Lim W A c l) (hg : W.heap[g]? = some (.cells cs T fr)) (hn : cs.all Value.noInt = true) : Avoid g A l.length := by
  intro h0
  obtain ⟨ad, e, hb, hc⟩ := h.cell h0
  refine ⟨ad, e, fun hne => ?_⟩
  have h1 := hc 0 h0
  rw [show ad.add 0 = ad from rfl] at h1
  subst hne
  simp only [World.cell?, hg] at h1
  split at h1
  · cases h1
  · obtain ⟨hlt, he⟩ := Array.getElem?_eq_some_iff.1 h1
    have := Array.all_eq_true.1 hn ad.off hlt
    rw [he] at this
    cases this
theorem set_same {W : World} {a : Addr} {v u : Value} (h : W.cell? a = some u) : (W.setCell a v).cell? a = some v := World.cell?_setCell_same _ _ _ h
/-- a slice literal -/
theorem Lim.lit (w : World) (T : TypeId) {l : List Nat} {cs : Array Value} (hcs : cs.toList = ints .u32 l) (hs : ∀ j, at_ l j < 4294967296) (c : Nat) (hc : l.length ≤ c) : Lim (w.alloc (.cells cs T)) (some ⟨w.heap.size, 0, none⟩) c l :=
  ⟨hc, hs, fun _ => ⟨_, rfl, by simp, fun j hj => by
    rw [Addr.add_lit, Nat.zero_add, World.cell?_alloc_at _ _ _ _ rfl, ← Array.getElem?_toList, hcs]
    exact ints_at hj⟩⟩
theorem drew_own {w : World} {B T : Nat} {A : Option Addr} {n c : Nat} {xs : List Value} (h : Own w B T A n c xs) (k : Nat) : Own (w.drewN k) B T A n c xs := h
end Go.Proofs.YtolkijelldlmeaaGreatDoor
