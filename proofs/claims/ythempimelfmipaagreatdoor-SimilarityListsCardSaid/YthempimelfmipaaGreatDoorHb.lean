/- Entries in memory; ranges of numbers and years; lists of entries that are in order. -/
import Derived.Test.YthempimelfmipaaGreatDoorBnat
import Derived.Test.YthempimelfmipaaGreatDoorBL
import Derived.Test.YthempimelfmipaaGreatDoorHMath
namespace Go.Proofs.YthempimelfmipaaGreatDoor
open Go.RowKit Go.Proofs Go

/-- b tells whether p holds -/
def Tells (b : Bool) (p : Prop) : Prop := b = true ↔ p
def Rng (n lo hi : Int) : Prop := lo ≤ n ∧ n ≤ hi
theorem yes {p : Prop} (h : p) : Tells true p := ⟨fun _ => h, fun _ => rfl⟩
theorem no {p : Prop} (h : ¬ p) : Tells false p := ⟨fun e => (by cases e), fun e => absurd e h⟩
theorem Tells.t {b : Bool} {p : Prop} (h : Tells b p) (hp : p) : b = true := h.2 hp
theorem Tells.f {b : Bool} {p : Prop} (h : Tells b p) (hp : ¬ p) : b = false := by
  cases b
  · rfl
  · exact absurd (h.1 rfl) hp
/-- the slice at A reads as entries -/
def Es (w : World) (A : Option Addr) (l : List (Int × Int)) : Prop :=
  0 < l.length → ∃ ad, A = some ad ∧ ad.block < w.heap.size ∧ ∀ i x, l[i]? = some x → w.cell? (ad.add (i * 2)) = some (.int .i64 x.1) ∧ w.cell? ⟨(ad.add (i * 2)).block, (ad.add (i * 2)).off + 1, none⟩ = some (.int .i64 x.2)
section
variable {w w' : World} {A : Option Addr} {l : List (Int × Int)}
theorem Es.nil (w : World) (A : Option Addr) : Es w A [] := fun h => absurd h (by simp)
theorem Es.ext (h : Es w A l) (hb : Below w.heap.size w w') : Es w' A l := fun h0 => by
  obtain ⟨ad, h1, h2, h3⟩ := h h0
  refine ⟨ad, h1, Nat.lt_of_lt_of_le h2 hb.size, fun i x hx => ?_⟩
  obtain ⟨a, b⟩ := h3 i x hx
  exact ⟨by rw [hb.cell (cell_lt a)]; exact a, by rw [hb.cell (cell_lt b)]; exact b⟩
theorem Es.at_ (h : Es w A l) {i : Nat} {x : Int × Int} (hx : l[i]? = some x) : ∃ ad, A = some ad ∧ ad.block < w.heap.size ∧ w.cell? (ad.add (i * 2)) = some (.int .i64 x.1) ∧ w.cell? ⟨(ad.add (i * 2)).block, (ad.add (i * 2)).off + 1, none⟩ = some (.int .i64 x.2) := by
  have hi := (List.getElem?_eq_some_iff.1 hx).1
  obtain ⟨ad, h1, h2, h3⟩ := h (by omega)
  exact ⟨ad, h1, h2, h3 i x hx⟩
end
set_option maxRecDepth 100000 in
theorem hwithin_any {n lo hi : Int} {b : Bool} (w : World) (hb : Tells b (Rng n lo hi)) :
    Calls Tryz.prog 43 #[.int .i64 n, .int .i64 lo, .int .i64 hi] w fun e w' => e = .returned (.bool b) ∧ w' = w := by
  by_cases h1 : lo ≤ n
  · by_cases h2 : n ≤ hi
    · obtain rfl : b = true := hb.t ⟨h1, h2⟩
      go_enter Tryz.func43, Tryz.ntmps43
      go_wp2
      go_ret
      exact ⟨by first | rfl | simp, rfl⟩
    · obtain rfl : b = false := hb.f (by unfold Rng; omega)
      have h2b : decide (n ≤ hi) = false := decide_eq_false h2
      go_enter Tryz.func43, Tryz.ntmps43
      go_wp2
      go_ret
      exact ⟨by first | rfl | simp, rfl⟩
  · obtain rfl : b = false := hb.f (by unfold Rng; omega)
    have h1b : decide (lo ≤ n) = false := decide_eq_false h1
    go_enter Tryz.func43, Tryz.ntmps43
    go_wp2
    go_ret
    exact ⟨by first | rfl | simp, rfl⟩
set_option maxRecDepth 100000 in
theorem ywithin_any {n : Int} {b : Bool} (w : World) (hb : Tells b (Rng n (-9999) 9999)) :
    Calls Tryz.prog 80 #[.int .i64 n] w fun e w' => e = .returned (.bool b) ∧ w' = w := by
  by_cases h1 : -9999 ≤ n
  · by_cases h2 : n ≤ 9999
    · obtain rfl : b = true := hb.t ⟨h1, h2⟩
      go_enter Tryz.func80, Tryz.ntmps80
      go_wp2
      go_ret
      exact ⟨by first | rfl | simp, rfl⟩
    · obtain rfl : b = false := hb.f (by unfold Rng; omega)
      have h2b : decide (n ≤ 9999) = false := decide_eq_false h2
      go_enter Tryz.func80, Tryz.ntmps80
      go_wp2
      go_ret
      exact ⟨by first | rfl | simp, rfl⟩
  · obtain rfl : b = false := hb.f (by unfold Rng; omega)
    have h1b : decide (-9999 ≤ n) = false := decide_eq_false h1
    go_enter Tryz.func80, Tryz.ntmps80
    go_wp2
    go_ret
    exact ⟨by first | rfl | simp, rfl⟩
set_option maxHeartbeats 1000000 in
set_option maxRecDepth 100000 in
theorem listed_any {lo hi : Int} {b : Bool} (A : Option Addr) (c : Nat) (l : List (Int × Int)) (w : World) (H : Es w A l) (hl : l.length ≤ 9223372036854775807) (hb : Tells b (Listed lo hi l)) :
    Calls Tryz.prog 44 #[.slice A l.length c, .int .i64 lo, .int .i64 hi] w (RetB w b) := by
  go_enter Tryz.func44, Tryz.ntmps44
  go_wp2
  go_loopg [11] l.length (fun k i wr => ∃ j : Nat, j + k = l.length ∧ i = .int .i64 (j : Int) ∧ Hid (∀ i, i < j → OkAt lo hi l i) ∧ Below w.heap.size w wr)
  case atStart => exact ⟨0, by omega, rfl, Lib.hid (fun i h => absurd h (by omega)), Below.refl _ _⟩
  case round =>
    obtain ⟨j, hj, rfl, hok, hbw⟩ := hrel
    by_cases hj0 : j < l.length
    · have hx := Lib.hid (List.getElem?_eq_getElem hj0)
      obtain ⟨ad, rfl, hbk, c0, c1⟩ := (H.ext hbw).at_ hx.out
      generalize l[j] = x at *
      go_upto_region 4 with fail
      have hb4 := below_alloc wr (.cells #[.int .i64 x.1, .int .i64 x.2] 46)
      have n0 : (wr.alloc (.cells #[.int .i64 x.1, .int .i64 x.2] 46)).cell? ⟨wr.heap.size, 0, none⟩ = some (.int .i64 x.1) := al_at rfl _ rfl
      have n1 : (wr.alloc (.cells #[.int .i64 x.1, .int .i64 x.2] 46)).cell? ⟨wr.heap.size, 1, none⟩ = some (.int .i64 x.2) := al_at rfl _ rfl
      replace hbw := bel_trans hbw hb4
      clear c0 c1 hb4 hbk
      generalize wr.alloc (.cells #[.int .i64 x.1, .int .i64 x.2] 46) = W4 at *
      generalize wr.heap.size = g4 at *
      by_cases ha : 1 ≤ x.1 ∧ x.1 ≤ 99
      · by_cases hv : lo ≤ x.2 ∧ x.2 ≤ hi
        · have Ha := yes (show Rng x.1 1 99 from ha)
          have Hv := yes (show Rng x.2 lo hi from hv)
          by_cases h0 : j = 0
          · subst h0
            have hnx := Lib.hid (show ∀ i, i < 0 + 1 → OkAt lo hi l i from fun i hi y hy => by
              obtain rfl : i = 0 := by omega
              rw [hx.out] at hy
              obtain rfl := Option.some.inj hy
              exact ⟨ha, hv, fun j y h => absurd h (by omega)⟩)
            clear ha hv
            go_quiet ((go_at_call 43; first | exact Calls.quiet_of_same (hwithin_any (b := true) _ Ha) | exact Calls.quiet_of_same (hwithin_any (b := true) _ Hv)))
            go_wp2
            go_roundg (l.length - (0 + 1))
            case measure => omega
            case rel => exact ⟨0 + 1, by omega, by go_num, hnx, drew_below hbw _⟩
          · obtain ⟨k, rfl⟩ : ∃ k, j = k + 1 := ⟨j - 1, by omega⟩
            have hk0 : k < l.length := by omega
            have hy := Lib.hid (List.getElem?_eq_getElem hk0)
            obtain ⟨ad2, he2, hbk, p0, p1⟩ := (H.ext hbw).at_ hy.out
            obtain rfl := Option.some.inj he2
            generalize l[k] = y at *
            clear p1 h0
            have hk1 : (0 : Int) < ((k + 1 : Nat) : Int) := by omega
            by_cases hlt : y.1 < x.1
            · have hnx := Lib.hid (show ∀ i, i < k + 1 + 1 → OkAt lo hi l i from fun i hi => by
                by_cases hik : i < k + 1
                · exact hok.out i hik
                · obtain rfl : i = k + 1 := by omega
                  intro z hz
                  rw [hx.out] at hz
                  obtain rfl := Option.some.inj hz
                  refine ⟨ha, hv, fun j z hj hz => ?_⟩
                  obtain rfl : j = k := by omega
                  rw [hy.out] at hz
                  obtain rfl := Option.some.inj hz
                  exact hlt)
              have hltb : decide (x.1 ≤ y.1) = false := decide_eq_false (by omega)
              clear ha hv
              go_quiet ((go_at_call 43; first | exact Calls.quiet_of_same (hwithin_any (b := true) _ Ha) | exact Calls.quiet_of_same (hwithin_any (b := true) _ Hv)))
              go_wp2
              go_roundg (l.length - (k + 1 + 1))
              case measure => omega
              case rel => exact ⟨k + 1 + 1, by omega, by go_num, hnx, drew_below hbw _⟩
            · have hltb : decide (x.1 ≤ y.1) = true := decide_eq_true (by omega)
              obtain rfl : b = false := hb.f <| by
                intro hL
                exact hlt ((hL (k + 1) x hx.out).2.2 k y rfl hy.out)
              clear ha hv
              go_quiet ((go_at_call 43; first | exact Calls.quiet_of_same (hwithin_any (b := true) _ Ha) | exact Calls.quiet_of_same (hwithin_any (b := true) _ Hv)))
              go_wp2
              go_ret
              exact ⟨rfl, drew_below hbw _⟩
        · obtain rfl : b = false := hb.f <| by
            intro hL
            exact hv (hL.at_ hx.out).2
          have Ha := yes (show Rng x.1 1 99 from ha)
          have Hv := no (show ¬ Rng x.2 lo hi from hv)
          clear ha hv
          go_quiet ((go_at_call 43; first | exact Calls.quiet_of_same (hwithin_any (b := true) _ Ha) | exact Calls.quiet_of_same (hwithin_any (b := false) _ Hv)))
          go_wp2
          go_ret
          exact ⟨rfl, drew_below hbw _⟩
      · obtain rfl : b = false := hb.f <| by
          intro hL
          exact ha (hL.at_ hx.out).1
        have Ha := no (show ¬ Rng x.1 1 99 from ha)
        clear ha
        go_quiet ((go_at_call 43; first | exact Calls.quiet_of_same (hwithin_any (b := false) _ Ha)))
        go_wp2
        go_ret
        exact ⟨rfl, drew_below hbw _⟩
    · obtain rfl : b = true := hb.t fun i => by
        by_cases hi : i < l.length
        · exact hok.out i (by omega)
        · intro x hx; rw [List.getElem?_eq_none (by omega)] at hx; cases hx
      go_wp2
      go_ret
      exact ⟨rfl, hbw⟩
end Go.Proofs.YthempimelfmipaaGreatDoor
