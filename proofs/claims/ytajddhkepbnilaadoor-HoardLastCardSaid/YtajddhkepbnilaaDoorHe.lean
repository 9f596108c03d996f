/- Entries, hoards and numbers, held against one another. -/
import Derived.Test.YtajddhkepbnilaaDoorHown
namespace Go.Proofs.YtajddhkepbnilaaDoor
open Go.RowKit Go.Proofs Go

set_option maxHeartbeats 1000000 in
set_option maxRecDepth 100000 in
theorem bentries_any {b : Bool} (A A' : Option Addr) (c c' : Nat) (l m : List (Int × Int)) (w : World) (H : Es w A l) (H' : Es w A' m) (_ : l.length ≤ 9223372036854775807) (hm : m.length ≤ 9223372036854775807) (hb : Tells b (l = m)) :
    Calls Tryd.prog 42 #[.slice A l.length c, .slice A' m.length c'] w (RetB w b) := by
  by_cases hlen : l.length = m.length
  · have hlenb : ((l.length : Int) != (m.length : Int)) = false := by rw [bne_eq_false_iff_eq]; omega
    have HL := Lib.hid hlen
    clear hlen
    go_enter Tryd.func42, Tryd.ntmps42
    go_wp2
    go_loopg [5] l.length (fun k i wr => ∃ j : Nat, j + k = l.length ∧ i = .int .i64 (j : Int) ∧ Hid (∀ i, i < j → l[i]? = m[i]?) ∧ Below w.heap.size w wr)
    case atStart => exact ⟨0, by omega, rfl, Lib.hid (fun i h => absurd h (by omega)), Below.refl _ _⟩
    case round =>
      obtain ⟨j, hj, rfl, hok, hbw⟩ := hrel
      by_cases hj0 : j < l.length
      · have hj1 : j < m.length := by have := HL.out; omega
        have hx := Lib.hid (List.getElem?_eq_getElem hj0)
        have hy := Lib.hid (List.getElem?_eq_getElem hj1)
        obtain ⟨ad, rfl, hbk, c0, c1⟩ := (H.ext hbw).at_ hx.out
        obtain ⟨ad2, rfl, hbk2, p0, p1⟩ := (H'.ext hbw).at_ hy.out
        generalize l[j] = x at *
        generalize m[j] = y at *
        obtain ⟨k, v⟩ := x
        obtain ⟨k', v'⟩ := y
        simp only [] at c0 c1 p0 p1
        by_cases hxy : k = k' ∧ v = v'
        · obtain ⟨rfl, rfl⟩ := hxy
          have hnx := Lib.hid (show ∀ i, i < j + 1 → l[i]? = m[i]? from fun i hi => by
            by_cases hij : i < j
            · exact hok.out i hij
            · obtain rfl : i = j := by omega
              rw [hx.out, hy.out])
          go_upto_region 6 with fail
          go_quiet (fail)
          go_wp2
          go_roundg (l.length - (j + 1))
          case measure => omega
          case rel => exact ⟨j + 1, by omega, by go_num, hnx, drew_below hbw _⟩
        · obtain rfl : b = false := hb.f fun h => by
            subst h
            have := hx.out.symm.trans hy.out
            simp at this
            exact hxy this
          have hd : (k == k') = false ∨ (v == v') = false := by
            by_cases h1 : k = k'
            · right; rw [beq_eq_false_iff_ne]; exact fun h2 => hxy ⟨h1, h2⟩
            · left; rw [beq_eq_false_iff_ne]; exact h1
          clear hxy
          rcases hd with hd | hd
          · go_upto_region 6 with fail
            go_quiet (fail)
            go_wp2
            go_ret
            exact ⟨rfl, drew_below hbw _⟩
          · cases hkk : (k == k')
            · go_upto_region 6 with fail
              go_quiet (fail)
              go_wp2
              go_ret
              exact ⟨rfl, drew_below hbw _⟩
            · go_upto_region 6 with fail
              go_quiet (fail)
              go_wp2
              go_ret
              exact ⟨rfl, drew_below hbw _⟩
      · obtain rfl : b = true := hb.t (List.ext_getElem? fun i => by
          by_cases hi : i < j
          · exact hok.out i hi
          · rw [List.getElem?_eq_none (by omega), List.getElem?_eq_none (by have := HL.out; omega)])
        go_wp2
        go_ret
        exact ⟨rfl, hbw⟩
  · have hlenb : ((l.length : Int) != (m.length : Int)) = true := by rw [bne_iff_ne]; omega
    obtain rfl : b = false := hb.f fun h => hlen (by rw [h])
    clear hlen
    go_enter Tryd.func42, Tryd.ntmps42
    go_wp2
    go_ret
    exact ⟨rfl, Below.refl _ _⟩
/-- the same hoard -/
def SameH (ia : Int) (l : List (Int × Int)) (fa ta ib : Int) (m : List (Int × Int)) (fb tb : Int) : Prop := ia = ib ∧ (fa = fb ∧ ta = tb) ∧ l = m
set_option maxHeartbeats 1000000 in
set_option maxRecDepth 100000 in
theorem bhoards_any {ia fa ta ib fb tb : Int} {b : Bool} (A A' : Option Addr) (c c' : Nat) (l m : List (Int × Int)) (w : World) (H : Es w A l) (H' : Es w A' m) (hl : l.length ≤ 9223372036854775807) (hm : m.length ≤ 9223372036854775807) (hb : Tells b (SameH ia l fa ta ib m fb tb)) :
    Calls Tryd.prog 22 #[.agg #[.int .i64 ia, .slice A l.length c, .int .i64 fa, .int .i64 ta], .agg #[.int .i64 ib, .slice A' m.length c', .int .i64 fb, .int .i64 tb]] w (RetB w b) := by
  by_cases h1 : ia = ib
  · have h1b : (ia == ib) = true := beq_iff_eq.2 h1
    by_cases h2 : fa = fb ∧ ta = tb
    · obtain ⟨rfl, rfl⟩ := h2
      have hb3 : Tells b (l = m) := by
        cases b
        · exact no fun h => by have := hb.2 ⟨h1, ⟨rfl, rfl⟩, h⟩; cases this
        · exact yes (hb.1 rfl).2.2
      clear h1 hb
      go_enter Tryd.func22, Tryd.ntmps22
      have HX := BL.two w #[.int .i64 ia, .slice A l.length c, .int .i64 fa, .int .i64 ta] #[.int .i64 ib, .slice A' m.length c', .int .i64 fa, .int .i64 ta] 26 26
      go_wp2_with fail
      refine (bentries_any A A' c c' l m _ (H.ext HX.below) (H'.ext HX.below) hl hm hb3).mono ?_
      rintro e w1 ⟨rfl, hb⟩
      replace HX := HX.ext hb
      go_wp2
      go_ret
      exact ⟨by first | rfl | simp, HX.below⟩
    · obtain rfl : b = false := hb.f fun h => h2 h.2.1
      have hd : (fa == fb) = false ∨ (ta == tb) = false := by
        by_cases h1 : fa = fb
        · right; rw [beq_eq_false_iff_ne]; exact fun h3 => h2 ⟨h1, h3⟩
        · left; rw [beq_eq_false_iff_ne]; exact h1
      clear h1 h2 hb
      rcases hd with hd | hd
      · go_enter Tryd.func22, Tryd.ntmps22
        have HX := BL.two w #[.int .i64 ia, .slice A l.length c, .int .i64 fa, .int .i64 ta] #[.int .i64 ib, .slice A' m.length c', .int .i64 fb, .int .i64 tb] 26 26
        go_wp2
        go_ret
        exact ⟨by first | rfl | simp [hd], HX.below⟩
      · go_enter Tryd.func22, Tryd.ntmps22
        have HX := BL.two w #[.int .i64 ia, .slice A l.length c, .int .i64 fa, .int .i64 ta] #[.int .i64 ib, .slice A' m.length c', .int .i64 fb, .int .i64 tb] 26 26
        go_wp2
        go_ret
        exact ⟨by first | rfl | simp [hd], HX.below⟩
  · obtain rfl : b = false := hb.f fun h => h1 h.1
    have h1b : (ia == ib) = false := beq_eq_false_iff_ne.2 h1
    clear h1 hb
    go_enter Tryd.func22, Tryd.ntmps22
    have HX := BL.two w #[.int .i64 ia, .slice A l.length c, .int .i64 fa, .int .i64 ta] #[.int .i64 ib, .slice A' m.length c', .int .i64 fb, .int .i64 tb] 26 26
    go_wp2
    go_ret
    exact ⟨by first | rfl | simp, HX.below⟩
end Go.Proofs.YtajddhkepbnilaaDoor
