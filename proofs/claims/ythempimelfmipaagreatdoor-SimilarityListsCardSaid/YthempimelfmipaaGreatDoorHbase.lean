/- The same of the base: ranges, years, entries in order, hoards. -/
import Derived.Test.YthempimelfmipaaGreatDoorHv
namespace Go.Proofs.YthempimelfmipaaGreatDoor
open Go.RowKit Go.Proofs Go

/-- the types ascend -/
def Asc (l : List (Int × Int)) : Prop := ∀ i x y, l[i]? = some x → l[i + 1]? = some y → x.1 < y.1
theorem listed_iff {lo hi : Int} {l : List (Int × Int)} : Listed lo hi l ↔ Asc l ∧ ∀ (i : Nat) (x : Int × Int), l[i]? = some x → Rng x.1 1 99 ∧ Rng x.2 lo hi := by
  constructor
  · intro h
    exact ⟨fun i x y hx hy => (h (i + 1) y hy).2.2 i x rfl hx, fun i x hx => h.at_ hx⟩
  · rintro ⟨h1, h2⟩ i x hx
    exact ⟨(h2 i x hx).1, (h2 i x hx).2, fun j y hj hy => by subst hj; exact h1 j y x hy hx⟩
set_option maxRecDepth 100000 in
theorem bin_any {n lo hi : Int} {b : Bool} (w : World) (hb : Tells b (Rng n lo hi)) :
    Calls Tryz.prog 21 #[.int .i64 n, .int .i64 lo, .int .i64 hi] w fun e w' => e = .returned (.bool b) ∧ w' = w := by
  by_cases h1 : lo ≤ n
  · by_cases h2 : n ≤ hi
    · obtain rfl : b = true := hb.t ⟨h1, h2⟩
      go_enter Tryz.func21, Tryz.ntmps21
      go_wp2
      go_ret
      exact ⟨by first | rfl | simp, rfl⟩
    · obtain rfl : b = false := hb.f (by unfold Rng; omega)
      have h2b : decide (n ≤ hi) = false := decide_eq_false h2
      go_enter Tryz.func21, Tryz.ntmps21
      go_wp2
      go_ret
      exact ⟨by first | rfl | simp, rfl⟩
  · obtain rfl : b = false := hb.f (by unfold Rng; omega)
    have h1b : decide (lo ≤ n) = false := decide_eq_false h1
    go_enter Tryz.func21, Tryz.ntmps21
    go_wp2
    go_ret
    exact ⟨by first | rfl | simp, rfl⟩
set_option maxRecDepth 100000 in
theorem bsize_any {n : Int} {b : Bool} (w : World) (hb : Tells b (Rng n (-9999) 9999)) :
    Calls Tryz.prog 115 #[.int .i64 n, .int .i64 9999] w fun e w' => e = .returned (.bool b) ∧ w' = w := by
  by_cases h1 : -9999 ≤ n
  · by_cases h2 : n ≤ 9999
    · obtain rfl : b = true := hb.t ⟨h1, h2⟩
      go_enter Tryz.func115, Tryz.ntmps115
      go_wp2
      go_ret
      exact ⟨by first | rfl | simp, rfl⟩
    · obtain rfl : b = false := hb.f (by unfold Rng; omega)
      have h2b : decide (n ≤ 9999) = false := decide_eq_false h2
      go_enter Tryz.func115, Tryz.ntmps115
      go_wp2
      go_ret
      exact ⟨by first | rfl | simp, rfl⟩
  · obtain rfl : b = false := hb.f (by unfold Rng; omega)
    have h1b : decide (-9999 ≤ n) = false := decide_eq_false h1
    go_enter Tryz.func115, Tryz.ntmps115
    go_wp2
    go_ret
    exact ⟨by first | rfl | simp, rfl⟩
set_option maxRecDepth 100000 in
theorem byears_any {f t : Int} {b : Bool} (w : World) (hb : Tells b (YV f t)) :
    Calls Tryz.prog 93 #[.agg #[.int .i64 f, .int .i64 t]] w (RetB w b) := by
  by_cases h1 : f ≤ t
  · have d1 : decide (f ≤ t) = true := decide_eq_true h1
    by_cases h2 : -9999 ≤ f ∧ f ≤ 9999
    · by_cases h3 : -9999 ≤ t ∧ t ≤ 9999
      · obtain rfl : b = true := hb.t ⟨h1, h2, h3⟩
        have H2 := yes (show Rng f (-9999) 9999 from h2)
        have H3 := yes (show Rng t (-9999) 9999 from h3)
        clear h2 h3
        go_enter Tryz.func93, Tryz.ntmps93
        go_wp2_with fail
        refine (bsize_any (b := true) _ H2).mono ?_
        rintro e w1 ⟨rfl, rfl⟩
        go_wp2_with fail
        refine (bsize_any (b := true) _ H3).mono ?_
        rintro e w1 ⟨rfl, rfl⟩
        go_wp2
        go_ret
        exact ⟨by first | rfl | simp, below_alloc _ _⟩
      · obtain rfl : b = false := hb.f fun h => h3 h.2.2
        have H2 := yes (show Rng f (-9999) 9999 from h2)
        have H3 := no (show ¬ Rng t (-9999) 9999 from h3)
        clear h2 h3
        go_enter Tryz.func93, Tryz.ntmps93
        go_wp2_with fail
        refine (bsize_any (b := true) _ H2).mono ?_
        rintro e w1 ⟨rfl, rfl⟩
        go_wp2_with fail
        refine (bsize_any (b := false) _ H3).mono ?_
        rintro e w1 ⟨rfl, rfl⟩
        go_wp2
        go_ret
        exact ⟨by first | rfl | simp, below_alloc _ _⟩
    · obtain rfl : b = false := hb.f fun h => h2 h.2.1
      have H2 := no (show ¬ Rng f (-9999) 9999 from h2)
      clear h2
      go_enter Tryz.func93, Tryz.ntmps93
      go_wp2_with fail
      refine (bsize_any (b := false) _ H2).mono ?_
      rintro e w1 ⟨rfl, rfl⟩
      go_wp2
      go_ret
      exact ⟨by first | rfl | simp, below_alloc _ _⟩
  · obtain rfl : b = false := hb.f fun h => h1 h.1
    have d1 : decide (f ≤ t) = false := decide_eq_false h1
    go_enter Tryz.func93, Tryz.ntmps93
    go_wp2
    go_ret
    exact ⟨by first | rfl | simp, below_alloc _ _⟩
set_option maxHeartbeats 1000000 in
set_option maxRecDepth 100000 in
theorem ordered_any {m : Int} {b : Bool} (A : Option Addr) (c : Nat) (l : List (Int × Int)) (w : World) (H : Es w A l) (hl : l.length ≤ 9223372036854775807) (hb : Tells b (Asc l ∧ (l.length : Int) ≤ m)) :
    Calls Tryz.prog 92 #[.slice A l.length c, .int .i64 m] w (RetB w b) := by
  go_enter Tryz.func92, Tryz.ntmps92
  go_wp2
  go_loopg [5] l.length (fun k i wr => ∃ j : Nat, j + k = l.length + 1 ∧ 1 ≤ j ∧ i = .int .i64 (j : Int) ∧ Hid (∀ i x y, i + 1 < j → l[i]? = some x → l[i + 1]? = some y → x.1 < y.1) ∧ Below w.heap.size w wr)
  case atStart => exact ⟨1, by omega, by omega, rfl, Lib.hid (fun i x y h => absurd h (by omega)), Below.refl _ _⟩
  case round =>
    obtain ⟨j, hj, hj1, rfl, hok, hbw⟩ := hrel
    by_cases hj0 : j < l.length
    · obtain ⟨k, rfl⟩ : ∃ k, j = k + 1 := ⟨j - 1, by omega⟩
      have hk0 : k < l.length := by omega
      have hx := Lib.hid (List.getElem?_eq_getElem hj0)
      have hy := Lib.hid (List.getElem?_eq_getElem hk0)
      obtain ⟨ad, rfl, hbk, c0, c1⟩ := (H.ext hbw).at_ hx.out
      obtain ⟨ad2, he2, _, p0, p1⟩ := (H.ext hbw).at_ hy.out
      obtain rfl := Option.some.inj he2
      generalize l[k + 1] = x at *
      generalize l[k] = y at *
      clear c1 p1
      by_cases hlt : y.1 < x.1
      · have hnx := Lib.hid (show ∀ i x y, i + 1 < k + 1 + 1 → l[i]? = some x → l[i + 1]? = some y → x.1 < y.1 from fun i u v hi hu hv => by
          by_cases hik : i + 1 < k + 1
          · exact hok.out i u v hik hu hv
          · obtain rfl : i = k := by omega
            rw [hy.out] at hu
            rw [hx.out] at hv
            obtain rfl := Option.some.inj hu
            obtain rfl := Option.some.inj hv
            exact hlt)
        have hltb : decide (x.1 ≤ y.1) = false := decide_eq_false (by omega)
        go_upto_region 4 with fail
        go_quiet (fail)
        go_wp2
        go_roundg (l.length + 1 - (k + 1 + 1))
        case measure => omega
        case rel => exact ⟨k + 1 + 1, by omega, by omega, by go_num, hnx, drew_below hbw _⟩
      · have hltb : decide (x.1 ≤ y.1) = true := decide_eq_true (by omega)
        obtain rfl : b = false := hb.f <| by
          intro hL
          exact hlt (hL.1 k y x hy.out hx.out)
        go_upto_region 4 with fail
        go_quiet (fail)
        go_wp2
        go_ret
        exact ⟨rfl, drew_below hbw _⟩
    · have hA : Asc l := fun i x y hx hy => hok.out i x y (by have := (List.getElem?_eq_some_iff.1 hy).1; omega) hx hy
      by_cases hm : (l.length : Int) ≤ m
      · obtain rfl : b = true := hb.t ⟨hA, hm⟩
        have hmb : decide ((l.length : Int) ≤ m) = true := decide_eq_true hm
        go_wp2
        go_ret
        exact ⟨by first | rfl | simp, hbw⟩
      · obtain rfl : b = false := hb.f fun h => hm h.2
        have hmb : decide ((l.length : Int) ≤ m) = false := decide_eq_false hm
        go_wp2
        go_ret
        exact ⟨by first | rfl | simp, hbw⟩
set_option maxHeartbeats 2000000 in
set_option maxRecDepth 100000 in
theorem bhoard_any {id f t : Int} {b : Bool} (A : Option Addr) (c : Nat) (l : List (Int × Int)) (w : World) (H : Es w A l) (hl : l.length ≤ 9223372036854775807) (hb : Tells b (HV id l f t)) :
    Calls Tryz.prog 62 #[.agg #[.int .i64 id, .slice A l.length c, .int .i64 f, .int .i64 t]] w (RetB w b) := by
  by_cases h1 : 1 ≤ id ∧ id ≤ 99
  · have H1 := yes (show Rng id 1 99 from h1)
    by_cases h2 : l.length = 0
    · obtain rfl : b = false := hb.f fun h => by have := h.2.1.1; omega
      have h2b : ((l.length : Int) == 0) = true := by rw [beq_iff_eq]; omega
      clear h1 h2
      go_enter Tryz.func62, Tryz.ntmps62
      go_wp2_with fail
      have HX := BL.one w #[.int .i64 id, .slice A l.length c, .int .i64 f, .int .i64 t] 26
      replace H := H.ext HX.below
      refine (bin_any (b := true) _ H1).mono ?_
      rintro e w1 ⟨rfl, rfl⟩
      go_wp2
      go_ret
      exact ⟨by first | rfl | simp, HX.below⟩
    · have h2b : ((l.length : Int) == 0) = false := by rw [beq_eq_false_iff_ne]; omega
      by_cases h3 : Asc l ∧ (l.length : Int) ≤ 32
      · have H3 := yes h3
        by_cases h4 : YV f t
        · have H4 := yes h4
          have h1 := Lib.hid h1
          have h3 := Lib.hid h3
          have h4 := Lib.hid h4
          go_enter Tryz.func62, Tryz.ntmps62
          go_wp2_with fail
          have HX := BL.one w #[.int .i64 id, .slice A l.length c, .int .i64 f, .int .i64 t] 26
          replace H := H.ext HX.below
          refine (bin_any (b := true) _ H1).mono ?_
          rintro e w1 ⟨rfl, rfl⟩
          go_wp2_with fail
          refine (ordered_any (b := true) A c l _ H hl H3).mono ?_
          rintro e w2 ⟨rfl, hb2⟩
          replace HX := HX.ext hb2
          replace H := H.ext hb2
          clear hb2
          have hc2 := HX.cell 0 2 rfl rfl
          have hc3 := HX.cell 0 3 rfl rfl
          try simp only [List.getElem_toArray, List.getElem_cons_zero, List.getElem_cons_succ] at hc2 hc3
          go_wp2_with fail
          refine (byears_any (b := true) _ H4).mono ?_
          rintro e w3 ⟨rfl, hb3⟩
          clear hc2 hc3
          replace HX := HX.ext hb3
          replace H := H.ext hb3
          clear hb3
          go_wp2
          go_loopg [3] l.length (fun k i wr => ∃ j : Nat, j + k = l.length ∧ i = .int .i64 (j : Int) ∧ Hid (∀ i x, i < j → l[i]? = some x → Rng x.1 1 99 ∧ Rng x.2 1 999) ∧ wr = w3)
          case atStart => exact ⟨0, by omega, rfl, Lib.hid (fun i x h => absurd h (by omega)), rfl⟩
          case round =>
            obtain ⟨j, hj, rfl, hok, rfl⟩ := hrel
            have hc1 := HX.cell 0 1 rfl rfl
            try simp only [List.getElem_toArray, List.getElem_cons_zero, List.getElem_cons_succ] at hc1
            by_cases hj0 : j < l.length
            · have hx := Lib.hid (List.getElem?_eq_getElem hj0)
              obtain ⟨ad, rfl, hbk, c0, c1⟩ := H.at_ hx.out
              generalize l[j] = x at *
              by_cases ha : Rng x.1 1 99
              · by_cases hv : Rng x.2 1 999
                · have hnx := Lib.hid (show ∀ i x, i < j + 1 → l[i]? = some x → Rng x.1 1 99 ∧ Rng x.2 1 999 from fun i y hi hy => by
                    by_cases hij : i < j
                    · exact hok.out i y hij hy
                    · obtain rfl : i = j := by omega
                      rw [hx.out] at hy
                      obtain rfl := Option.some.inj hy
                      exact ⟨ha, hv⟩)
                  have Ha := yes ha
                  have Hv := yes hv
                  clear ha hv
                  go_wp2_with fail
                  refine (bin_any (b := true) _ Ha).mono ?_
                  rintro e w4 ⟨rfl, rfl⟩
                  go_wp2_with fail
                  refine (bin_any (b := true) _ Hv).mono ?_
                  rintro e w4 ⟨rfl, rfl⟩
                  go_wp2
                  go_roundg (l.length - (j + 1))
                  case measure => omega
                  case rel => exact ⟨j + 1, by omega, by go_num, hnx, by first | rfl | trivial⟩
                · obtain rfl : b = false := hb.f fun h => hv ((listed_iff.1 h.2.2.1).2 j x hx.out).2
                  have Ha := yes ha
                  have Hv := no hv
                  clear ha hv
                  go_wp2_with fail
                  refine (bin_any (b := true) _ Ha).mono ?_
                  rintro e w4 ⟨rfl, rfl⟩
                  go_wp2_with fail
                  refine (bin_any (b := false) _ Hv).mono ?_
                  rintro e w4 ⟨rfl, rfl⟩
                  go_wp2
                  go_ret
                  exact ⟨by first | rfl | simp, HX.below⟩
              · obtain rfl : b = false := hb.f fun h => ha ((listed_iff.1 h.2.2.1).2 j x hx.out).1
                have Ha := no ha
                clear ha
                go_wp2_with fail
                refine (bin_any (b := false) _ Ha).mono ?_
                rintro e w4 ⟨rfl, rfl⟩
                go_wp2
                go_ret
                exact ⟨by first | rfl | simp, HX.below⟩
            · obtain rfl : b = true := hb.t ⟨h1.out, by have := h3.out.2; omega, listed_iff.2 ⟨h3.out.1, fun i x hx => hok.out i x (by have := (List.getElem?_eq_some_iff.1 hx).1; omega) hx⟩, h4.out⟩
              go_wp2
              go_ret
              exact ⟨by first | rfl | simp, HX.below⟩
        · obtain rfl : b = false := hb.f fun h => h4 h.2.2.2
          have H4 := no h4
          clear h1 h2 h3 h4
          go_enter Tryz.func62, Tryz.ntmps62
          go_wp2_with fail
          have HX := BL.one w #[.int .i64 id, .slice A l.length c, .int .i64 f, .int .i64 t] 26
          replace H := H.ext HX.below
          refine (bin_any (b := true) _ H1).mono ?_
          rintro e w1 ⟨rfl, rfl⟩
          go_wp2_with fail
          refine (ordered_any (b := true) A c l _ H hl H3).mono ?_
          rintro e w2 ⟨rfl, hb2⟩
          replace HX := HX.ext hb2
          replace H := H.ext hb2
          clear hb2
          have hc2 := HX.cell 0 2 rfl rfl
          have hc3 := HX.cell 0 3 rfl rfl
          try simp only [List.getElem_toArray, List.getElem_cons_zero, List.getElem_cons_succ] at hc2 hc3
          go_wp2_with fail
          refine (byears_any (b := false) _ H4).mono ?_
          rintro e w3 ⟨rfl, hb3⟩
          clear hc2 hc3
          replace HX := HX.ext hb3
          replace H := H.ext hb3
          clear hb3
          go_wp2
          go_ret
          exact ⟨by first | rfl | simp, HX.below⟩
      · obtain rfl : b = false := hb.f fun h => h3 ⟨(listed_iff.1 h.2.2.1).1, by have := h.2.1.2; omega⟩
        have H3 := no h3
        clear h1 h2 h3
        go_enter Tryz.func62, Tryz.ntmps62
        go_wp2_with fail
        have HX := BL.one w #[.int .i64 id, .slice A l.length c, .int .i64 f, .int .i64 t] 26
        replace H := H.ext HX.below
        refine (bin_any (b := true) _ H1).mono ?_
        rintro e w1 ⟨rfl, rfl⟩
        go_wp2_with fail
        refine (ordered_any (b := false) A c l _ H hl H3).mono ?_
        rintro e w2 ⟨rfl, hb2⟩
        replace HX := HX.ext hb2
        replace H := H.ext hb2
        clear hb2
        go_wp2
        go_ret
        exact ⟨by first | rfl | simp, HX.below⟩
  · obtain rfl : b = false := hb.f fun h => h1 h.1
    have H1 := no (show ¬ Rng id 1 99 from h1)
    clear h1
    go_enter Tryz.func62, Tryz.ntmps62
    go_wp2_with fail
    have HX := BL.one w #[.int .i64 id, .slice A l.length c, .int .i64 f, .int .i64 t] 26
    replace H := H.ext HX.below
    refine (bin_any (b := false) _ H1).mono ?_
    rintro e w1 ⟨rfl, rfl⟩
    go_wp2
    go_ret
    exact ⟨by first | rfl | simp, HX.below⟩
end Go.Proofs.YthempimelfmipaaGreatDoor
