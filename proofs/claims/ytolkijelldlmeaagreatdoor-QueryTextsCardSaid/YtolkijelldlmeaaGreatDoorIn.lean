/- Slices of numbers of type int: what a slice reads as, what the call owns; coinagebase.Ints. -/
import Derived.Test.YtolkijelldlmeaaGreatDoorHb
namespace Go.Proofs.YtolkijelldlmeaaGreatDoor
open Go.RowKit Go.Proofs Go

/-- the slice at A reads as numbers -/
def IEs (w : World) (A : Option Addr) (l : List Int) : Prop :=
  0 < l.length → ∃ ad, A = some ad ∧ ad.block < w.heap.size ∧ ∀ i x, l[i]? = some x → w.cell? (ad.add i) = some (.int .i64 x)
theorem IEs.nil (w : World) (A : Option Addr) : IEs w A [] := fun h => absurd h (by simp)
theorem IEs.ext {w w' : World} {A : Option Addr} {l : List Int} (h : IEs w A l) (hb : Below w.heap.size w w') : IEs w' A l := fun h0 => by
  obtain ⟨ad, h1, h2, h3⟩ := h h0
  exact ⟨ad, h1, Nat.lt_of_lt_of_le h2 hb.size, fun i x hx => by rw [hb.cell (cell_lt (h3 i x hx))]; exact h3 i x hx⟩
theorem IEs.at_ {w : World} {A : Option Addr} {l : List Int} (h : IEs w A l) {i : Nat} {x : Int} (hx : l[i]? = some x) : ∃ ad, A = some ad ∧ ad.block < w.heap.size ∧ w.cell? (ad.add i) = some (.int .i64 x) := by
  have hi := (List.getElem?_eq_some_iff.1 hx).1
  obtain ⟨ad, h1, h2, h3⟩ := h (by omega)
  exact ⟨ad, h1, h2, h3 i x hx⟩
def icells (l : List Int) : List Value := l.map (.int .i64 ·)
theorem IEs.lit (W : World) (T : TypeId) (l : List Int) (cs : Array Value) (hcs : cs.toList = icells l) : IEs (W.alloc (.cells cs T)) (some ⟨W.heap.size, 0, none⟩) l := fun _ => by
  refine ⟨_, rfl, by simp, fun i x hx => ?_⟩
  rw [Addr.add_lit, Nat.zero_add, World.cell?_alloc_at _ _ _ _ rfl, ← Array.getElem?_toList, hcs, icells, List.getElem?_map, hx]; rfl
def IOwn (w : World) (B : Nat) (A : Option Addr) (c : Nat) (l : List Int) : Prop := Own w B 3 A l.length c (icells l)
theorem IOwn.es {w : World} {B c : Nat} {A : Option Addr} {l : List Int} (h : IOwn w B A c l) : IEs w A l := fun h0 => by
  have h1 := h
  rcases h1.2 with ⟨_, h2⟩ | ⟨g, cap, cur, hv, _, hg, _⟩
  · omega
  · injection hv with hA _ _
    subst hA
    refine ⟨_, rfl, (Array.getElem?_eq_some_iff.1 hg).1, fun i x hx => ?_⟩
    exact World.ownsRow.cells h rfl i _ (by simp [icells, hx])
theorem IOwn.ext {w w' : World} {B c : Nat} {A : Option Addr} {l : List Int} (h : IOwn w B A c l) (hb : Below w.heap.size w w') : IOwn w' B A c l := Own.ext h hb
theorem IOwn.nil (w : World) (B : Nat) : IOwn w B none 0 [] := World.ownsRow_nil w B _ 1
theorem IOwn.cap {w : World} {B c : Nat} {A : Option Addr} {l : List Int} (h : IOwn w B A c l) : l.length ≤ c := by
  rcases h.2 with ⟨_, h2⟩ | ⟨g, cap, cur, hv, _, _, hnc, _⟩
  · omega
  · injection hv with _ _ hc
    omega
theorem EI : Elt Tryz.prog 59 3 (.int .i64 0) 8 := ⟨Tryz.underlying59, by kernel_rfl, rfl⟩
theorem IOwn.snoc {w : World} {B c n : Nat} {A : Option Addr} {l : List Int} {x : Int} (h : Own w B 3 A n c (icells l ++ [.int .i64 x])) (hn : n = l.length + 1) : IOwn w B A c (l ++ [x]) := by
  subst hn
  unfold IOwn
  rw [List.length_append, icells, List.map_append]
  exact h
set_option maxHeartbeats 1000000 in
set_option maxRecDepth 100000 in
theorem bints_any {b : Bool} (A A' : Option Addr) (c c' : Nat) (l m : List Int) (w : World) (H : IEs w A l) (H' : IEs w A' m) (_hl : l.length ≤ 9223372036854775807) (hm : m.length ≤ 9223372036854775807) (hb : Tells b (l = m)) :
    Calls Tryz.prog 28 #[.slice A l.length c, .slice A' m.length c'] w (RetB w b) := by
  by_cases hlen : l.length = m.length
  · have hlenb : ((l.length : Int) != (m.length : Int)) = false := by rw [bne_eq_false_iff_eq]; omega
    have HL := Lib.hid hlen
    clear hlen
    go_enter Tryz.func28, Tryz.ntmps28
    go_wp2
    go_loopg [5] l.length (fun k i wr => ∃ j : Nat, j + k = l.length ∧ i = .int .i64 (j : Int) ∧ Hid (∀ i, i < j → l[i]? = m[i]?) ∧ Below w.heap.size w wr)
    case atStart => exact ⟨0, by omega, rfl, Lib.hid (fun i h => absurd h (by omega)), Below.refl _ _⟩
    case round =>
      obtain ⟨j, hj, rfl, hok, hbw⟩ := hrel
      by_cases hj0 : j < l.length
      · have hj1 : j < m.length := by have := HL.out; omega
        have hx := Lib.hid (List.getElem?_eq_getElem hj0)
        have hy := Lib.hid (List.getElem?_eq_getElem hj1)
        obtain ⟨ad, rfl, hbk, c0⟩ := (H.ext hbw).at_ hx.out
        obtain ⟨ad2, rfl, hbk2, p0⟩ := (H'.ext hbw).at_ hy.out
        generalize l[j] = x at *
        generalize m[j] = y at *
        by_cases hxy : x = y
        · subst hxy
          have hnx := Lib.hid (show ∀ i, i < j + 1 → l[i]? = m[i]? from fun i hi => by
            by_cases hij : i < j
            · exact hok.out i hij
            · obtain rfl : i = j := by omega
              rw [hx.out, hy.out])
          have hs : (x != x) = false := by rw [bne_eq_false_iff_eq]
          go_upto_region 6 with fail
          go_quiet (fail)
          go_wp2
          go_roundg (l.length - (j + 1))
          case measure => omega
          case rel => exact ⟨j + 1, by omega, by go_num, hnx, drew_below hbw _⟩
        · obtain rfl : b = false := hb.f fun h => by
            subst h
            exact hxy (Option.some.inj (hx.out.symm.trans hy.out))
          have hd : (x != y) = true := by rw [bne_iff_ne]; exact hxy
          clear hxy
          go_upto_region 6 with fail
          go_quiet (fail)
          go_wp2
          go_ret
          exact ⟨rfl, drew_below hbw _⟩
      · obtain rfl : b = true := hb.t (List.ext_getElem? fun i => by
          by_cases hi : i < j
          · exact hok.out i hi
          · rw [List.getElem?_eq_none (by omega), List.getElem?_eq_none (by have := HL.out; omega)])
        go_wp2
        go_ret
        exact ⟨rfl, hbw⟩
  · have hlenb : ((l.length : Int) != (m.length : Int)) = true := by rw [bne_iff_ne]; omega
    obtain rfl : b = false := hb.f fun h => hlen (by rw [h])
    clear hlen
    go_enter Tryz.func28, Tryz.ntmps28
    go_wp2
    go_ret
    exact ⟨rfl, Below.refl _ _⟩
end Go.Proofs.YtolkijelldlmeaaGreatDoor
