/- When years and hoards are valid. -/
import Derived.Test.YthempimelfmipaaGreatDoorHb
namespace Go.Proofs.YthempimelfmipaaGreatDoor
open Go.RowKit Go.Proofs Go

set_option maxRecDepth 100000 in
theorem yvalid_any {f t : Int} {b : Bool} (w : World) (hb : Tells b (YV f t)) :
    Calls Tryz.prog 45 #[.agg #[.int .i64 f, .int .i64 t]] w (RetB w b) := by
  by_cases h1 : f ≤ t
  · have d1 : decide (f ≤ t) = true := decide_eq_true h1
    by_cases h2 : -9999 ≤ f ∧ f ≤ 9999
    · by_cases h3 : -9999 ≤ t ∧ t ≤ 9999
      · obtain rfl : b = true := hb.t ⟨h1, h2, h3⟩
        have H2 := yes (show Rng f (-9999) 9999 from h2)
        have H3 := yes (show Rng t (-9999) 9999 from h3)
        clear h2 h3
        go_enter Tryz.func45, Tryz.ntmps45
        go_wp2_with fail
        refine (ywithin_any (b := true) _ H2).mono ?_
        rintro e w1 ⟨rfl, rfl⟩
        go_wp2_with fail
        refine (ywithin_any (b := true) _ H3).mono ?_
        rintro e w1 ⟨rfl, rfl⟩
        go_wp2
        go_ret
        exact ⟨by first | rfl | simp, below_alloc _ _⟩
      · obtain rfl : b = false := hb.f fun h => h3 h.2.2
        have H2 := yes (show Rng f (-9999) 9999 from h2)
        have H3 := no (show ¬ Rng t (-9999) 9999 from h3)
        clear h2 h3
        go_enter Tryz.func45, Tryz.ntmps45
        go_wp2_with fail
        refine (ywithin_any (b := true) _ H2).mono ?_
        rintro e w1 ⟨rfl, rfl⟩
        go_wp2_with fail
        refine (ywithin_any (b := false) _ H3).mono ?_
        rintro e w1 ⟨rfl, rfl⟩
        go_wp2
        go_ret
        exact ⟨by first | rfl | simp, below_alloc _ _⟩
    · obtain rfl : b = false := hb.f fun h => h2 h.2.1
      have H2 := no (show ¬ Rng f (-9999) 9999 from h2)
      clear h2
      go_enter Tryz.func45, Tryz.ntmps45
      go_wp2_with fail
      refine (ywithin_any (b := false) _ H2).mono ?_
      rintro e w1 ⟨rfl, rfl⟩
      go_wp2
      go_ret
      exact ⟨by first | rfl | simp, below_alloc _ _⟩
  · obtain rfl : b = false := hb.f fun h => h1 h.1
    have d1 : decide (f ≤ t) = false := decide_eq_false h1
    go_enter Tryz.func45, Tryz.ntmps45
    go_wp2
    go_ret
    exact ⟨by first | rfl | simp, below_alloc _ _⟩
set_option maxHeartbeats 1000000 in
set_option maxRecDepth 100000 in
theorem hvalid_any {id f t : Int} {b : Bool} (A : Option Addr) (c : Nat) (l : List (Int × Int)) (w : World) (H : Es w A l) (hl : l.length ≤ 9223372036854775807) (hb : Tells b (HV id l f t)) :
    Calls Tryz.prog 15 #[.agg #[.int .i64 id, .slice A l.length c, .int .i64 f, .int .i64 t]] w (RetB w b) := by
  by_cases h1 : 1 ≤ id ∧ id ≤ 99
  · by_cases h2 : 1 ≤ (l.length : Int) ∧ (l.length : Int) ≤ 32
    · by_cases h3 : Listed 1 999 l
      · by_cases h4 : YV f t
        · obtain rfl : b = true := hb.t ⟨h1, by omega, h3, h4⟩
          have H1 := yes (show Rng id 1 99 from h1)
          have H2 := yes (show Rng (l.length : Int) 1 32 from h2)
          have H3 := yes (show Listed 1 999 l from h3)
          have H4 := yes (show YV f t from h4)
          clear h1 h2 h3 h4
          go_enter Tryz.func15, Tryz.ntmps15
          go_wp2_with fail
          have HX := BL.one w #[.int .i64 id, .slice A l.length c, .int .i64 f, .int .i64 t] 26
          replace H := H.ext HX.below
          refine (hwithin_any (b := true) _ H1).mono ?_
          rintro e w1 ⟨rfl, rfl⟩
          go_wp2_with fail
          refine (hwithin_any (b := true) _ H2).mono ?_
          rintro e w1 ⟨rfl, rfl⟩
          go_wp2_with fail
          refine (listed_any (b := true) A c l _ H hl H3).mono ?_
          rintro e w2 ⟨rfl, hb2⟩
          replace HX := HX.ext hb2
          have hc2 := HX.cell 0 2 rfl rfl
          have hc3 := HX.cell 0 3 rfl rfl
          try simp only [List.getElem_toArray, List.getElem_cons_zero, List.getElem_cons_succ] at hc2 hc3
          go_wp2_with fail
          refine (yvalid_any (b := true) _ H4).mono ?_
          rintro e w3 ⟨rfl, hb3⟩
          replace HX := HX.ext hb3
          go_wp2
          go_ret
          exact ⟨by first | rfl | simp, HX.below⟩
        · obtain rfl : b = false := hb.f fun h => h4 h.2.2.2
          have H1 := yes (show Rng id 1 99 from h1)
          have H2 := yes (show Rng (l.length : Int) 1 32 from h2)
          have H3 := yes (show Listed 1 999 l from h3)
          have H4 := no (show ¬ YV f t from h4)
          clear h1 h2 h3 h4
          go_enter Tryz.func15, Tryz.ntmps15
          go_wp2_with fail
          have HX := BL.one w #[.int .i64 id, .slice A l.length c, .int .i64 f, .int .i64 t] 26
          replace H := H.ext HX.below
          refine (hwithin_any (b := true) _ H1).mono ?_
          rintro e w1 ⟨rfl, rfl⟩
          go_wp2_with fail
          refine (hwithin_any (b := true) _ H2).mono ?_
          rintro e w1 ⟨rfl, rfl⟩
          go_wp2_with fail
          refine (listed_any (b := true) A c l _ H hl H3).mono ?_
          rintro e w2 ⟨rfl, hb2⟩
          replace HX := HX.ext hb2
          have hc2 := HX.cell 0 2 rfl rfl
          have hc3 := HX.cell 0 3 rfl rfl
          try simp only [List.getElem_toArray, List.getElem_cons_zero, List.getElem_cons_succ] at hc2 hc3
          go_wp2_with fail
          refine (yvalid_any (b := false) _ H4).mono ?_
          rintro e w3 ⟨rfl, hb3⟩
          replace HX := HX.ext hb3
          go_wp2
          go_ret
          exact ⟨by first | rfl | simp, HX.below⟩
      · obtain rfl : b = false := hb.f fun h => h3 h.2.2.1
        have H1 := yes (show Rng id 1 99 from h1)
        have H2 := yes (show Rng (l.length : Int) 1 32 from h2)
        have H3 := no (show ¬ Listed 1 999 l from h3)
        clear h1 h2 h3
        go_enter Tryz.func15, Tryz.ntmps15
        go_wp2_with fail
        have HX := BL.one w #[.int .i64 id, .slice A l.length c, .int .i64 f, .int .i64 t] 26
        replace H := H.ext HX.below
        refine (hwithin_any (b := true) _ H1).mono ?_
        rintro e w1 ⟨rfl, rfl⟩
        go_wp2_with fail
        refine (hwithin_any (b := true) _ H2).mono ?_
        rintro e w1 ⟨rfl, rfl⟩
        go_wp2_with fail
        refine (listed_any (b := false) A c l _ H hl H3).mono ?_
        rintro e w2 ⟨rfl, hb2⟩
        replace HX := HX.ext hb2
        have hc2 := HX.cell 0 2 rfl rfl
        have hc3 := HX.cell 0 3 rfl rfl
        try simp only [List.getElem_toArray, List.getElem_cons_zero, List.getElem_cons_succ] at hc2 hc3
        go_wp2
        go_ret
        exact ⟨by first | rfl | simp, HX.below⟩
    · obtain rfl : b = false := hb.f fun h => h2 (by have := h.2.1; omega)
      have H1 := yes (show Rng id 1 99 from h1)
      have H2 := no (show ¬ Rng (l.length : Int) 1 32 from h2)
      clear h1 h2
      go_enter Tryz.func15, Tryz.ntmps15
      go_wp2_with fail
      have HX := BL.one w #[.int .i64 id, .slice A l.length c, .int .i64 f, .int .i64 t] 26
      replace H := H.ext HX.below
      refine (hwithin_any (b := true) _ H1).mono ?_
      rintro e w1 ⟨rfl, rfl⟩
      go_wp2_with fail
      refine (hwithin_any (b := false) _ H2).mono ?_
      rintro e w1 ⟨rfl, rfl⟩
      go_wp2
      go_ret
      exact ⟨by first | rfl | simp, HX.below⟩
  · obtain rfl : b = false := hb.f fun h => h1 h.1
    have H1 := no (show ¬ Rng id 1 99 from h1)
    clear h1
    go_enter Tryz.func15, Tryz.ntmps15
    go_wp2_with fail
    have HX := BL.one w #[.int .i64 id, .slice A l.length c, .int .i64 f, .int .i64 t] 26
    replace H := H.ext HX.below
    refine (hwithin_any (b := false) _ H1).mono ?_
    rintro e w1 ⟨rfl, rfl⟩
    go_wp2
    go_ret
    exact ⟨by first | rfl | simp, HX.below⟩
end Go.Proofs.YthempimelfmipaaGreatDoor
