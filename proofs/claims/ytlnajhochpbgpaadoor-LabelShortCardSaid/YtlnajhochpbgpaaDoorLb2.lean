/- Labels: when they are valid, their texts; the program's and the reference's. -/
import Derived.Test.YtlnajhochpbgpaaDoorLb1
import Derived.Test.YtlnajhochpbgpaaDoorLMath
import Derived.Test.YtlnajhochpbgpaaDoorRText
import Derived.Deep.RegionHeld3
namespace Go.Proofs.YtlnajhochpbgpaaDoor
open Go.RowKit Go.Proofs Go

set_option maxRecDepth 100000 in
theorem lnum_any {n : Int} {b : Bool} (w : World) (hb : Tells b (Rng n 1 999)) :
    Calls Tryd.prog 30 #[.int .i64 n] w fun e w' => e = .returned (.bool b) ∧ w' = w := by
  by_cases h1 : 1 ≤ n
  · by_cases h2 : n ≤ 999
    · obtain rfl : b = true := hb.t ⟨h1, h2⟩
      go_enter Tryd.func30, Tryd.ntmps30
      go_wp2
      go_ret
      exact ⟨by first | rfl | simp, rfl⟩
    · obtain rfl : b = false := hb.f (by unfold Rng; omega)
      have h2b : decide (n ≤ 999) = false := decide_eq_false h2
      go_enter Tryd.func30, Tryd.ntmps30
      go_wp2
      go_ret
      exact ⟨by first | rfl | simp, rfl⟩
  · obtain rfl : b = false := hb.f (by unfold Rng; omega)
    have h1b : decide (1 ≤ n) = false := decide_eq_false h1
    go_enter Tryd.func30, Tryd.ntmps30
    go_wp2
    go_ret
    exact ⟨by first | rfl | simp, rfl⟩
set_option maxRecDepth 100000 in
theorem bin_any {n lo hi : Int} {b : Bool} (w : World) (hb : Tells b (Rng n lo hi)) :
    Calls Tryd.prog 46 #[.int .i64 n, .int .i64 lo, .int .i64 hi] w fun e w' => e = .returned (.bool b) ∧ w' = w := by
  by_cases h1 : lo ≤ n
  · by_cases h2 : n ≤ hi
    · obtain rfl : b = true := hb.t ⟨h1, h2⟩
      go_enter Tryd.func46, Tryd.ntmps46
      go_wp2
      go_ret
      exact ⟨by first | rfl | simp, rfl⟩
    · obtain rfl : b = false := hb.f (by unfold Rng; omega)
      have h2b : decide (n ≤ hi) = false := decide_eq_false h2
      go_enter Tryd.func46, Tryd.ntmps46
      go_wp2
      go_ret
      exact ⟨by first | rfl | simp, rfl⟩
  · obtain rfl : b = false := hb.f (by unfold Rng; omega)
    have h1b : decide (lo ≤ n) = false := decide_eq_false h1
    go_enter Tryd.func46, Tryd.ntmps46
    go_wp2
    go_ret
    exact ⟨by first | rfl | simp, rfl⟩
set_option maxRecDepth 100000 in
theorem bnum_any {n : Int} {b : Bool} (w : World) (hb : Tells b (Rng n 1 999)) :
    Calls Tryd.prog 47 #[.int .i64 n] w fun e w' => e = .returned (.bool b) ∧ w' = w := by
  go_enter Tryd.func47, Tryd.ntmps47
  go_wp2_with fail
  refine (bin_any _ hb).mono ?_
  rintro e w1 ⟨rfl, rfl⟩
  go_wp2
  go_ret
  exact ⟨by first | rfl | simp, rfl⟩
set_option maxHeartbeats 400000 in
set_option maxRecDepth 100000 in
theorem lvalid_any {a b c : Int} {v : Bool} (w : World) (hv : Tells v (LOk a b c)) :
    Calls Tryd.prog 13 #[.agg #[.int .i64 a, .int .i64 b, .int .i64 c]] w (RetB w v) := by
  have HX := BL.one w #[.int .i64 a, .int .i64 b, .int .i64 c] 23
  by_cases ha : 0 ≤ a ∧ a ≤ 1
  · have hs : (a = 0 ∧ (a == 0) = true) ∨ (a = 1 ∧ (a == 0) = false ∧ (a == 1) = true) := by
      by_cases h : a = 0
      · exact .inl ⟨h, beq_iff_eq.2 h⟩
      · exact .inr ⟨by omega, beq_eq_false_iff_ne.2 h, beq_iff_eq.2 (by omega)⟩
    by_cases hn : 1 ≤ b ∧ b ≤ 999
    · have HN : Tells true (Rng b 1 999) := yes hn
      by_cases hc : 0 ≤ c
      · by_cases hc9 : c ≤ 9
        · obtain rfl : v = true := hv.t ⟨ha, hn, hc, hc9⟩
          clear hn ha
          rcases hs with ⟨rfl, _⟩ | ⟨rfl, _, _⟩
          · go_enter Tryd.func13, Tryd.ntmps13

            go_upto_region 1 with fail
            generalize w.alloc (.cells #[.int .i64 0, .int .i64 b, .int .i64 c] 23) = W at *
            have hc00 := HX.cell 0 0 rfl rfl
            have hc01 := HX.cell 0 1 rfl rfl
            have hc02 := HX.cell 0 2 rfl rfl
            try simp only [List.getElem_toArray, List.getElem_cons_zero, List.getElem_cons_succ] at hc00 hc01 hc02
            go_wp2_with fail
            refine (lnum_any (b := true) _ HN).mono ?_
            rintro e w1 ⟨rfl, rfl⟩
            go_wp2
            go_ret
            exact ⟨by first | rfl | simp, HX.below⟩
          · go_enter Tryd.func13, Tryd.ntmps13

            go_upto_region 1 with fail
            generalize w.alloc (.cells #[.int .i64 1, .int .i64 b, .int .i64 c] 23) = W at *
            have hc00 := HX.cell 0 0 rfl rfl
            have hc01 := HX.cell 0 1 rfl rfl
            have hc02 := HX.cell 0 2 rfl rfl
            try simp only [List.getElem_toArray, List.getElem_cons_zero, List.getElem_cons_succ] at hc00 hc01 hc02
            go_wp2_with fail
            refine (lnum_any (b := true) _ HN).mono ?_
            rintro e w1 ⟨rfl, rfl⟩
            go_wp2
            go_ret
            exact ⟨by first | rfl | simp, HX.below⟩
        · obtain rfl : v = false := hv.f (by unfold LOk; omega)
          have hc9b : decide (c ≤ 9) = false := decide_eq_false hc9
          clear hn ha hc9
          rcases hs with ⟨rfl, _⟩ | ⟨rfl, _, _⟩
          · go_enter Tryd.func13, Tryd.ntmps13

            go_upto_region 1 with fail
            generalize w.alloc (.cells #[.int .i64 0, .int .i64 b, .int .i64 c] 23) = W at *
            have hc00 := HX.cell 0 0 rfl rfl
            have hc01 := HX.cell 0 1 rfl rfl
            have hc02 := HX.cell 0 2 rfl rfl
            try simp only [List.getElem_toArray, List.getElem_cons_zero, List.getElem_cons_succ] at hc00 hc01 hc02
            go_wp2_with fail
            refine (lnum_any (b := true) _ HN).mono ?_
            rintro e w1 ⟨rfl, rfl⟩
            go_wp2
            go_ret
            exact ⟨by first | rfl | simp, HX.below⟩
          · go_enter Tryd.func13, Tryd.ntmps13

            go_upto_region 1 with fail
            generalize w.alloc (.cells #[.int .i64 1, .int .i64 b, .int .i64 c] 23) = W at *
            have hc00 := HX.cell 0 0 rfl rfl
            have hc01 := HX.cell 0 1 rfl rfl
            have hc02 := HX.cell 0 2 rfl rfl
            try simp only [List.getElem_toArray, List.getElem_cons_zero, List.getElem_cons_succ] at hc00 hc01 hc02
            go_wp2_with fail
            refine (lnum_any (b := true) _ HN).mono ?_
            rintro e w1 ⟨rfl, rfl⟩
            go_wp2
            go_ret
            exact ⟨by first | rfl | simp, HX.below⟩
      · obtain rfl : v = false := hv.f (by unfold LOk; omega)
        have hcb : decide (0 ≤ c) = false := decide_eq_false hc
        clear hn ha hc
        rcases hs with ⟨rfl, _⟩ | ⟨rfl, _, _⟩
        · go_enter Tryd.func13, Tryd.ntmps13

          go_upto_region 1 with fail
          generalize w.alloc (.cells #[.int .i64 0, .int .i64 b, .int .i64 c] 23) = W at *
          have hc00 := HX.cell 0 0 rfl rfl
          have hc01 := HX.cell 0 1 rfl rfl
          have hc02 := HX.cell 0 2 rfl rfl
          try simp only [List.getElem_toArray, List.getElem_cons_zero, List.getElem_cons_succ] at hc00 hc01 hc02
          go_wp2_with fail
          refine (lnum_any (b := true) _ HN).mono ?_
          rintro e w1 ⟨rfl, rfl⟩
          go_wp2
          go_ret
          exact ⟨by first | rfl | simp, HX.below⟩
        · go_enter Tryd.func13, Tryd.ntmps13

          go_upto_region 1 with fail
          generalize w.alloc (.cells #[.int .i64 1, .int .i64 b, .int .i64 c] 23) = W at *
          have hc00 := HX.cell 0 0 rfl rfl
          have hc01 := HX.cell 0 1 rfl rfl
          have hc02 := HX.cell 0 2 rfl rfl
          try simp only [List.getElem_toArray, List.getElem_cons_zero, List.getElem_cons_succ] at hc00 hc01 hc02
          go_wp2_with fail
          refine (lnum_any (b := true) _ HN).mono ?_
          rintro e w1 ⟨rfl, rfl⟩
          go_wp2
          go_ret
          exact ⟨by first | rfl | simp, HX.below⟩
    · have HN : Tells false (Rng b 1 999) := no hn
      obtain rfl : v = false := hv.f (by unfold LOk; omega)
      clear hn ha
      rcases hs with ⟨rfl, _⟩ | ⟨rfl, _, _⟩
      · go_enter Tryd.func13, Tryd.ntmps13

        go_upto_region 1 with fail
        generalize w.alloc (.cells #[.int .i64 0, .int .i64 b, .int .i64 c] 23) = W at *
        have hc00 := HX.cell 0 0 rfl rfl
        have hc01 := HX.cell 0 1 rfl rfl
        have hc02 := HX.cell 0 2 rfl rfl
        try simp only [List.getElem_toArray, List.getElem_cons_zero, List.getElem_cons_succ] at hc00 hc01 hc02
        go_wp2_with fail
        refine (lnum_any (b := false) _ HN).mono ?_
        rintro e w1 ⟨rfl, rfl⟩
        go_wp2
        go_ret
        exact ⟨by first | rfl | simp, HX.below⟩
      · go_enter Tryd.func13, Tryd.ntmps13

        go_upto_region 1 with fail
        generalize w.alloc (.cells #[.int .i64 1, .int .i64 b, .int .i64 c] 23) = W at *
        have hc00 := HX.cell 0 0 rfl rfl
        have hc01 := HX.cell 0 1 rfl rfl
        have hc02 := HX.cell 0 2 rfl rfl
        try simp only [List.getElem_toArray, List.getElem_cons_zero, List.getElem_cons_succ] at hc00 hc01 hc02
        go_wp2_with fail
        refine (lnum_any (b := false) _ HN).mono ?_
        rintro e w1 ⟨rfl, rfl⟩
        go_wp2
        go_ret
        exact ⟨by first | rfl | simp, HX.below⟩
  · obtain rfl : v = false := hv.f (by unfold LOk; omega)
    have hs0 : (a == 0) = false := beq_eq_false_iff_ne.2 (by omega)
    have hs1 : (a == 1) = false := beq_eq_false_iff_ne.2 (by omega)
    clear ha
    go_enter Tryd.func13, Tryd.ntmps13

    go_wp2
    go_ret
    exact ⟨by first | rfl | simp, HX.below⟩
set_option maxHeartbeats 400000 in
set_option maxRecDepth 100000 in
theorem bvalid_any {a b c : Int} {v : Bool} (w : World) (hv : Tells v (LOk a b c)) :
    Calls Tryd.prog 31 #[.agg #[.int .i64 a, .int .i64 b, .int .i64 c]] w (RetB w v) := by
  have HX := BL.one w #[.int .i64 a, .int .i64 b, .int .i64 c] 23
  by_cases ha : 0 ≤ a ∧ a ≤ 1
  · have HA : Tells true (Rng a 0 1) := yes ha
    by_cases hn : 1 ≤ b ∧ b ≤ 999
    · have HN : Tells true (Rng b 1 999) := yes hn
      by_cases hc : 0 ≤ c ∧ c ≤ 9
      · have HC : Tells true (Rng c 0 9) := yes hc
        obtain rfl : v = true := hv.t ⟨ha, hn, hc⟩
        go_enter Tryd.func31, Tryd.ntmps31
        go_upto_region 1 with fail
        generalize w.alloc (.cells #[.int .i64 a, .int .i64 b, .int .i64 c] 23) = W at *
        have hc00 := HX.cell 0 0 rfl rfl
        have hc01 := HX.cell 0 1 rfl rfl
        have hc02 := HX.cell 0 2 rfl rfl
        try simp only [List.getElem_toArray, List.getElem_cons_zero, List.getElem_cons_succ] at hc00 hc01 hc02
        go_wp2_with fail
        refine (bin_any _ HA).mono ?_
        rintro e w1 ⟨rfl, rfl⟩
        go_wp2_with fail
        refine (bnum_any _ HN).mono ?_
        rintro e w2 ⟨rfl, rfl⟩
        go_wp2_with fail
        refine (bin_any _ HC).mono ?_
        rintro e w3 ⟨rfl, rfl⟩
        go_wp2
        go_ret
        exact ⟨by first | rfl | simp, HX.below⟩
      · have HC : Tells false (Rng c 0 9) := no hc
        obtain rfl : v = false := hv.f (by unfold LOk; omega)
        go_enter Tryd.func31, Tryd.ntmps31
        go_upto_region 1 with fail
        generalize w.alloc (.cells #[.int .i64 a, .int .i64 b, .int .i64 c] 23) = W at *
        have hc00 := HX.cell 0 0 rfl rfl
        have hc01 := HX.cell 0 1 rfl rfl
        have hc02 := HX.cell 0 2 rfl rfl
        try simp only [List.getElem_toArray, List.getElem_cons_zero, List.getElem_cons_succ] at hc00 hc01 hc02
        go_wp2_with fail
        refine (bin_any _ HA).mono ?_
        rintro e w1 ⟨rfl, rfl⟩
        go_wp2_with fail
        refine (bnum_any _ HN).mono ?_
        rintro e w2 ⟨rfl, rfl⟩
        go_wp2_with fail
        refine (bin_any _ HC).mono ?_
        rintro e w3 ⟨rfl, rfl⟩
        go_wp2
        go_ret
        exact ⟨by first | rfl | simp, HX.below⟩
    · have HN : Tells false (Rng b 1 999) := no hn
      obtain rfl : v = false := hv.f (by unfold LOk; omega)
      go_enter Tryd.func31, Tryd.ntmps31
      go_upto_region 1 with fail
      generalize w.alloc (.cells #[.int .i64 a, .int .i64 b, .int .i64 c] 23) = W at *
      have hc00 := HX.cell 0 0 rfl rfl
      have hc01 := HX.cell 0 1 rfl rfl
      have hc02 := HX.cell 0 2 rfl rfl
      try simp only [List.getElem_toArray, List.getElem_cons_zero, List.getElem_cons_succ] at hc00 hc01 hc02
      go_wp2_with fail
      refine (bin_any _ HA).mono ?_
      rintro e w1 ⟨rfl, rfl⟩
      go_wp2_with fail
      refine (bnum_any _ HN).mono ?_
      rintro e w2 ⟨rfl, rfl⟩
      go_wp2
      go_ret
      exact ⟨by first | rfl | simp, HX.below⟩
  · have HA : Tells false (Rng a 0 1) := no ha
    obtain rfl : v = false := hv.f (by unfold LOk; omega)
    go_enter Tryd.func31, Tryd.ntmps31
    go_upto_region 1 with fail
    generalize w.alloc (.cells #[.int .i64 a, .int .i64 b, .int .i64 c] 23) = W at *
    have hc00 := HX.cell 0 0 rfl rfl
    have hc01 := HX.cell 0 1 rfl rfl
    have hc02 := HX.cell 0 2 rfl rfl
    try simp only [List.getElem_toArray, List.getElem_cons_zero, List.getElem_cons_succ] at hc00 hc01 hc02
    go_wp2_with fail
    refine (bin_any _ HA).mono ?_
    rintro e w1 ⟨rfl, rfl⟩
    go_wp2
    go_ret
    exact ⟨by first | rfl | simp, HX.below⟩
set_option maxHeartbeats 400000 in
set_option maxRecDepth 100000 in
theorem rvalid_any {a b c : Int} {v : Bool} (w : World) (hv : Tells v (LOk a b c)) :
    Calls Tryd.prog 14 #[.agg #[.int .i64 a, .int .i64 b, .int .i64 c]] w (RetB w v) := by
  have HX := BL.one w #[.int .i64 a, .int .i64 b, .int .i64 c] 23
  go_enter Tryd.func14, Tryd.ntmps14
  go_upto_region 1 with fail
  generalize w.alloc (.cells #[.int .i64 a, .int .i64 b, .int .i64 c] 23) = W at *
  have hc00 := HX.cell 0 0 rfl rfl
  have hc01 := HX.cell 0 1 rfl rfl
  have hc02 := HX.cell 0 2 rfl rfl
  try simp only [List.getElem_toArray, List.getElem_cons_zero, List.getElem_cons_succ] at hc00 hc01 hc02
  go_wp2_with fail
  refine (bvalid_any _ hv).mono ?_
  rintro e w1 ⟨rfl, hb⟩
  replace HX := HX.ext hb
  go_wp2
  go_ret
  exact ⟨by first | rfl | simp, HX.below⟩
set_option maxRecDepth 100000 in
theorem rdec_any {n : Int} {P : List UInt8} (w : World) (hP : Hid (dz n = P)) (h0 : 0 ≤ n) (h1 : n ≤ 1000000) :
    Calls Tryd.prog 32 #[.int .i64 n] w fun e w' => e = .returned (.string (str P)) ∧ Below w.heap.size w w' := by
  obtain ⟨m, rfl⟩ : ∃ m : Nat, n = m := ⟨n.toNat, by omega⟩
  have hm : m / 1000000000 / 1000000000 ≤ 18 := by omega
  go_enter Tryd.func32, Tryd.ntmps32
  go_wp2_with fail
  refine (rof_any m _ hm).mono ?_
  rintro e w1 ⟨A1, c1, rfl, F1, hb⟩
  have hl : (dig m).length ≤ 536870912 := Nat.le_trans (dig_len_le (k := 2) (by have h := pw_ten 2; rw [h]; omega)) (by omega)
  go_wp2_with fail
  refine (rtext_any A1 _ c1 (dig m) _ F1 rfl hl).mono ?_
  rintro e w2 ⟨rfl, hb2⟩
  go_wp2
  go_ret
  exact ⟨by rw [← hP.out, val_dig]; rfl, bel_trans hb hb2⟩
def PT (a b c : Int) (T : List UInt8) : Prop := (LOk a b c ∧ labT a b c = T) ∨ (¬ LOk a b c ∧ T = [])
theorem PT.ex (a b c : Int) : ∃ T, PT a b c T := by
  by_cases h : LOk a b c
  · exact ⟨_, .inl ⟨h, rfl⟩⟩
  · exact ⟨[], .inr ⟨h, rfl⟩⟩
theorem PT.len {a b c : Int} {T : List UInt8} (h : PT a b c T) : T.length ≤ 5 := by
  rcases h with ⟨h1, rfl⟩ | ⟨_, rfl⟩
  · exact labT_len h1
  · simp
theorem state_run : ∀ (k : Nat) (_ : k ≤ 8) (W : World), (Instr.slice 9 (.string ⟨#[32, 97, 98, 99, 100, 101, 102, 103, 104, 105]⟩) (some (.int .i64 ((k : Int) + 1))) (some (.int .i64 ((k : Int) + 1 + 1))) none).run Tryd.prog W = .ok (.string (str (stateT ((k : Int) + 1)))) W
  | 0, _, _ => by kernel_rfl
  | 1, _, _ => by kernel_rfl
  | 2, _, _ => by kernel_rfl
  | 3, _, _ => by kernel_rfl
  | 4, _, _ => by kernel_rfl
  | 5, _, _ => by kernel_rfl
  | 6, _, _ => by kernel_rfl
  | 7, _, _ => by kernel_rfl
  | 8, _, _ => by kernel_rfl
theorem rstate_run : ∀ (k : Nat) (_ : k ≤ 8) (W : World), (Instr.slice 9 (.string ⟨#[97, 98, 99, 100, 101, 102, 103, 104, 105]⟩) (some (.int .i64 (k : Int))) (some (.int .i64 ((k : Int) + 1))) none).run Tryd.prog W = .ok (.string (str (stateT ((k : Int) + 1)))) W
  | 0, _, _ => by kernel_rfl
  | 1, _, _ => by kernel_rfl
  | 2, _, _ => by kernel_rfl
  | 3, _, _ => by kernel_rfl
  | 4, _, _ => by kernel_rfl
  | 5, _, _ => by kernel_rfl
  | 6, _, _ => by kernel_rfl
  | 7, _, _ => by kernel_rfl
  | 8, _, _ => by kernel_rfl
set_option maxHeartbeats 1000000 in
set_option maxRecDepth 100000 in
theorem ltext_any {a b c : Int} {T : List UInt8} (w : World) (hT : Tab w) (hP : PT a b c T) :
    Calls Tryd.prog 12 #[.agg #[.int .i64 a, .int .i64 b, .int .i64 c]] w fun e w' => e = .returned (.string (str T)) ∧ Below w.heap.size w w' := by
  have HX := BL.one w #[.int .i64 a, .int .i64 b, .int .i64 c] 23
  replace hT := hT.ext HX.below
  rcases hP with ⟨hk, hL⟩ | ⟨hk, rfl⟩
  · have HV := yes hk
    obtain ⟨h1, h2, h3⟩ := hk
    obtain ⟨P, hP⟩ : ∃ P, dz b = P := ⟨_, rfl⟩
    have hPl : P.length ≤ 3 := hP ▸ dz_len (by omega) (by omega) (by omega)
    have hsP : (str P).size = P.length := str_size P
    rw [labT, hP] at hL
    have HL := Lib.hid hL
    have HP := Lib.hid hP
    clear hL hP
    have hst : c = 0 ∨ ∃ k : Nat, c = ((k : Int) + 1) ∧ k ≤ 8 := by
      by_cases h : c = 0
      · exact .inl h
      · exact .inr ⟨(c - 1).toNat, by omega, by omega⟩
    clear h3
    rcases (show a = 0 ∨ a = 1 by omega) with rfl | rfl <;> clear h1 <;> rcases hst with rfl | ⟨k, rfl, hk8⟩
    · go_enter Tryd.func12, Tryd.ntmps12
      go_upto_region 1 with fail
      generalize w.alloc (.cells #[.int .i64 0, .int .i64 b, .int .i64 0] 23) = W at *
      have hc00 := HX.cell 0 0 rfl rfl
      have hc01 := HX.cell 0 1 rfl rfl
      have hc02 := HX.cell 0 2 rfl rfl
      try simp only [List.getElem_toArray, List.getElem_cons_zero, List.getElem_cons_succ] at hc00 hc01 hc02
      go_wp2_with fail
      refine (lvalid_any (v := true) _ HV).mono ?_
      rintro e w1 ⟨rfl, hb⟩
      clear hc00 hc01 hc02
      replace HX := HX.ext hb
      replace hT := hT.ext hb
      clear hb
      have hside : (⟨#[79, 82]⟩ : ByteArray).extract 0 1 = str [79] := by rfl
      have hs1 : (str [79]).size = 1 := by rfl
      have hcc : ¬ 9223372036854775807 < 1 + P.length := by omega
      have hwr : IntKind.i64.wrap 1 = 1 := by rfl
      go_upto_region 3 with fail
      replace HX := HX.ext (drew_ext _)
      replace hT := hT.ext (drew_ext _)
      have held : ∀ {W' : World}, BL w W' [(w.heap.size, #[.int .i64 0, .int .i64 b, .int .i64 0], 23)] → W'.cell? ⟨w.heap.size, 0, none⟩ = some (.int .i64 0) ∧ W'.cell? ⟨w.heap.size, 1, none⟩ = some (.int .i64 b) ∧ W'.cell? ⟨w.heap.size, 2, none⟩ = some (.int .i64 0) := fun h => ⟨h.cell 0 0 rfl rfl, h.cell 0 1 rfl rfl, h.cell 0 2 rfl rfl⟩
      go_region_held3 (fun W' => W'.cell? ⟨w.heap.size, 0, none⟩ = some (.int .i64 0) ∧ W'.cell? ⟨w.heap.size, 1, none⟩ = some (.int .i64 b) ∧ W'.cell? ⟨w.heap.size, 2, none⟩ = some (.int .i64 0))
        (exact held HX)
        ((go_at_call 29; refine (itoa_h _ HP (by omega) (by omega) hT).mono ?_; rintro e w2 ⟨rfl, hb⟩; replace HX := HX.ext hb; clear hb))
      all_goals (
        clear hwr hcc
        have hc00 := HX.cell 0 0 rfl rfl
        have hc01 := HX.cell 0 1 rfl rfl
        have hc02 := HX.cell 0 2 rfl rfl
        try simp only [List.getElem_toArray, List.getElem_cons_zero, List.getElem_cons_succ] at hc00 hc01 hc02
        go_wp2
        go_ret
        refine ⟨?_, HX.below⟩
        rw [← HL.out, show stateT 0 = [] from rfl, List.append_nil]
        simp only [str_append]
        rfl)
    · go_enter Tryd.func12, Tryd.ntmps12
      go_upto_region 1 with fail
      generalize w.alloc (.cells #[.int .i64 0, .int .i64 b, .int .i64 ((k : Int) + 1)] 23) = W at *
      have hc00 := HX.cell 0 0 rfl rfl
      have hc01 := HX.cell 0 1 rfl rfl
      have hc02 := HX.cell 0 2 rfl rfl
      try simp only [List.getElem_toArray, List.getElem_cons_zero, List.getElem_cons_succ] at hc00 hc01 hc02
      go_wp2_with fail
      refine (lvalid_any (v := true) _ HV).mono ?_
      rintro e w1 ⟨rfl, hb⟩
      clear hc00 hc01 hc02
      replace HX := HX.ext hb
      replace hT := hT.ext hb
      clear hb
      have hside : (⟨#[79, 82]⟩ : ByteArray).extract 0 1 = str [79] := by rfl
      have hs1 : (str [79]).size = 1 := by rfl
      have hcc : ¬ 9223372036854775807 < 1 + P.length := by omega
      have hwr : IntKind.i64.wrap 1 = 1 := by rfl
      go_upto_region 3 with fail
      replace HX := HX.ext (drew_ext _)
      replace hT := hT.ext (drew_ext _)
      have held : ∀ {W' : World}, BL w W' [(w.heap.size, #[.int .i64 0, .int .i64 b, .int .i64 ((k : Int) + 1)], 23)] → W'.cell? ⟨w.heap.size, 0, none⟩ = some (.int .i64 0) ∧ W'.cell? ⟨w.heap.size, 1, none⟩ = some (.int .i64 b) ∧ W'.cell? ⟨w.heap.size, 2, none⟩ = some (.int .i64 ((k : Int) + 1)) := fun h => ⟨h.cell 0 0 rfl rfl, h.cell 0 1 rfl rfl, h.cell 0 2 rfl rfl⟩
      go_region_held3 (fun W' => W'.cell? ⟨w.heap.size, 0, none⟩ = some (.int .i64 0) ∧ W'.cell? ⟨w.heap.size, 1, none⟩ = some (.int .i64 b) ∧ W'.cell? ⟨w.heap.size, 2, none⟩ = some (.int .i64 ((k : Int) + 1)))
        (exact held HX)
        ((go_at_call 29; refine (itoa_h _ HP (by omega) (by omega) hT).mono ?_; rintro e w2 ⟨rfl, hb⟩; replace HX := HX.ext hb; clear hb))
      all_goals (
        clear hwr hcc
        have hc00 := HX.cell 0 0 rfl rfl
        have hc01 := HX.cell 0 1 rfl rfl
        have hc02 := HX.cell 0 2 rfl rfl
        try simp only [List.getElem_toArray, List.getElem_cons_zero, List.getElem_cons_succ] at hc00 hc01 hc02
        have hrun := state_run k hk8
        have hs2 : (str (stateT ((k : Int) + 1))).size ≤ 1 := by rw [str_size, stateT]; split <;> simp
        go_wp2
        go_ret
        refine ⟨?_, HX.below⟩
        rw [← HL.out]
        simp only [str_append]
        rfl)
    · go_enter Tryd.func12, Tryd.ntmps12
      go_upto_region 1 with fail
      generalize w.alloc (.cells #[.int .i64 1, .int .i64 b, .int .i64 0] 23) = W at *
      have hc00 := HX.cell 0 0 rfl rfl
      have hc01 := HX.cell 0 1 rfl rfl
      have hc02 := HX.cell 0 2 rfl rfl
      try simp only [List.getElem_toArray, List.getElem_cons_zero, List.getElem_cons_succ] at hc00 hc01 hc02
      go_wp2_with fail
      refine (lvalid_any (v := true) _ HV).mono ?_
      rintro e w1 ⟨rfl, hb⟩
      clear hc00 hc01 hc02
      replace HX := HX.ext hb
      replace hT := hT.ext hb
      clear hb
      have hside : (⟨#[79, 82]⟩ : ByteArray).extract 1 2 = str [82] := by rfl
      have hs1 : (str [82]).size = 1 := by rfl
      have hcc : ¬ 9223372036854775807 < 1 + P.length := by omega
      have hwr : IntKind.i64.wrap 2 = 2 := by rfl
      go_upto_region 3 with fail
      replace HX := HX.ext (drew_ext _)
      replace hT := hT.ext (drew_ext _)
      have held : ∀ {W' : World}, BL w W' [(w.heap.size, #[.int .i64 1, .int .i64 b, .int .i64 0], 23)] → W'.cell? ⟨w.heap.size, 0, none⟩ = some (.int .i64 1) ∧ W'.cell? ⟨w.heap.size, 1, none⟩ = some (.int .i64 b) ∧ W'.cell? ⟨w.heap.size, 2, none⟩ = some (.int .i64 0) := fun h => ⟨h.cell 0 0 rfl rfl, h.cell 0 1 rfl rfl, h.cell 0 2 rfl rfl⟩
      go_region_held3 (fun W' => W'.cell? ⟨w.heap.size, 0, none⟩ = some (.int .i64 1) ∧ W'.cell? ⟨w.heap.size, 1, none⟩ = some (.int .i64 b) ∧ W'.cell? ⟨w.heap.size, 2, none⟩ = some (.int .i64 0))
        (exact held HX)
        ((go_at_call 29; refine (itoa_h _ HP (by omega) (by omega) hT).mono ?_; rintro e w2 ⟨rfl, hb⟩; replace HX := HX.ext hb; clear hb))
      all_goals (
        clear hwr hcc
        have hc00 := HX.cell 0 0 rfl rfl
        have hc01 := HX.cell 0 1 rfl rfl
        have hc02 := HX.cell 0 2 rfl rfl
        try simp only [List.getElem_toArray, List.getElem_cons_zero, List.getElem_cons_succ] at hc00 hc01 hc02
        go_wp2
        go_ret
        refine ⟨?_, HX.below⟩
        rw [← HL.out, show stateT 0 = [] from rfl, List.append_nil]
        simp only [str_append]
        rfl)
    · go_enter Tryd.func12, Tryd.ntmps12
      go_upto_region 1 with fail
      generalize w.alloc (.cells #[.int .i64 1, .int .i64 b, .int .i64 ((k : Int) + 1)] 23) = W at *
      have hc00 := HX.cell 0 0 rfl rfl
      have hc01 := HX.cell 0 1 rfl rfl
      have hc02 := HX.cell 0 2 rfl rfl
      try simp only [List.getElem_toArray, List.getElem_cons_zero, List.getElem_cons_succ] at hc00 hc01 hc02
      go_wp2_with fail
      refine (lvalid_any (v := true) _ HV).mono ?_
      rintro e w1 ⟨rfl, hb⟩
      clear hc00 hc01 hc02
      replace HX := HX.ext hb
      replace hT := hT.ext hb
      clear hb
      have hside : (⟨#[79, 82]⟩ : ByteArray).extract 1 2 = str [82] := by rfl
      have hs1 : (str [82]).size = 1 := by rfl
      have hcc : ¬ 9223372036854775807 < 1 + P.length := by omega
      have hwr : IntKind.i64.wrap 2 = 2 := by rfl
      go_upto_region 3 with fail
      replace HX := HX.ext (drew_ext _)
      replace hT := hT.ext (drew_ext _)
      have held : ∀ {W' : World}, BL w W' [(w.heap.size, #[.int .i64 1, .int .i64 b, .int .i64 ((k : Int) + 1)], 23)] → W'.cell? ⟨w.heap.size, 0, none⟩ = some (.int .i64 1) ∧ W'.cell? ⟨w.heap.size, 1, none⟩ = some (.int .i64 b) ∧ W'.cell? ⟨w.heap.size, 2, none⟩ = some (.int .i64 ((k : Int) + 1)) := fun h => ⟨h.cell 0 0 rfl rfl, h.cell 0 1 rfl rfl, h.cell 0 2 rfl rfl⟩
      go_region_held3 (fun W' => W'.cell? ⟨w.heap.size, 0, none⟩ = some (.int .i64 1) ∧ W'.cell? ⟨w.heap.size, 1, none⟩ = some (.int .i64 b) ∧ W'.cell? ⟨w.heap.size, 2, none⟩ = some (.int .i64 ((k : Int) + 1)))
        (exact held HX)
        ((go_at_call 29; refine (itoa_h _ HP (by omega) (by omega) hT).mono ?_; rintro e w2 ⟨rfl, hb⟩; replace HX := HX.ext hb; clear hb))
      all_goals (
        clear hwr hcc
        have hc00 := HX.cell 0 0 rfl rfl
        have hc01 := HX.cell 0 1 rfl rfl
        have hc02 := HX.cell 0 2 rfl rfl
        try simp only [List.getElem_toArray, List.getElem_cons_zero, List.getElem_cons_succ] at hc00 hc01 hc02
        have hrun := state_run k hk8
        have hs2 : (str (stateT ((k : Int) + 1))).size ≤ 1 := by rw [str_size, stateT]; split <;> simp
        go_wp2
        go_ret
        refine ⟨?_, HX.below⟩
        rw [← HL.out]
        simp only [str_append]
        rfl)
  · have HV := no hk
    clear hk
    go_enter Tryd.func12, Tryd.ntmps12
    go_upto_region 1 with fail
    generalize w.alloc (.cells #[.int .i64 a, .int .i64 b, .int .i64 c] 23) = W at *
    have hc00 := HX.cell 0 0 rfl rfl
    have hc01 := HX.cell 0 1 rfl rfl
    have hc02 := HX.cell 0 2 rfl rfl
    try simp only [List.getElem_toArray, List.getElem_cons_zero, List.getElem_cons_succ] at hc00 hc01 hc02
    go_wp2_with fail
    refine (lvalid_any (v := false) _ HV).mono ?_
    rintro e w1 ⟨rfl, hb⟩
    clear hc00 hc01 hc02
    replace HX := HX.ext hb
    replace hT := hT.ext hb
    clear hb
    go_wp2
    go_ret
    exact ⟨by first | rfl | simp [str], HX.below⟩
set_option maxHeartbeats 1000000 in
set_option maxRecDepth 100000 in
theorem rltext_any {a b c : Int} {T : List UInt8} (w : World) (hP : PT a b c T) :
    Calls Tryd.prog 15 #[.agg #[.int .i64 a, .int .i64 b, .int .i64 c]] w fun e w' => e = .returned (.string (str T)) ∧ Below w.heap.size w w' := by
  have HX := BL.one w #[.int .i64 a, .int .i64 b, .int .i64 c] 23
  rcases hP with ⟨hk, hL⟩ | ⟨hk, rfl⟩
  · have HV := yes hk
    obtain ⟨h1, h2, h3⟩ := hk
    obtain ⟨P, hP⟩ : ∃ P, dz b = P := ⟨_, rfl⟩
    have hPl : P.length ≤ 3 := hP ▸ dz_len (by omega) (by omega) (by omega)
    have hsP : (str P).size = P.length := str_size P
    rw [labT, hP] at hL
    have HL := Lib.hid hL
    have HP := Lib.hid hP
    clear hL hP
    have hst : c = 0 ∨ ∃ k : Nat, c = ((k : Int) + 1) ∧ k ≤ 8 := by
      by_cases h : c = 0
      · exact .inl h
      · exact .inr ⟨(c - 1).toNat, by omega, by omega⟩
    clear h3
    rcases (show a = 0 ∨ a = 1 by omega) with rfl | rfl <;> clear h1 <;> rcases hst with rfl | ⟨k, rfl, hk8⟩
    · go_enter Tryd.func15, Tryd.ntmps15
      go_upto_region 1 with fail
      generalize w.alloc (.cells #[.int .i64 0, .int .i64 b, .int .i64 0] 23) = W at *
      have hc00 := HX.cell 0 0 rfl rfl
      have hc01 := HX.cell 0 1 rfl rfl
      have hc02 := HX.cell 0 2 rfl rfl
      try simp only [List.getElem_toArray, List.getElem_cons_zero, List.getElem_cons_succ] at hc00 hc01 hc02
      go_wp2_with fail
      refine (rvalid_any (v := true) _ HV).mono ?_
      rintro e w1 ⟨rfl, hb⟩
      clear hc00 hc01 hc02
      replace HX := HX.ext hb
      clear hb
      have hside : (⟨#[79, 82]⟩ : ByteArray).extract 0 1 = str [79] := by rfl
      have hs1 : (str [79]).size = 1 := by rfl
      have hcc : ¬ 9223372036854775807 < 1 + P.length := by omega
      have hwr : IntKind.i64.wrap 1 = 1 := by rfl
      go_upto_region 3 with fail
      replace HX := HX.ext (drew_ext _)
      have held : ∀ {W' : World}, BL w W' [(w.heap.size, #[.int .i64 0, .int .i64 b, .int .i64 0], 23)] → W'.cell? ⟨w.heap.size, 0, none⟩ = some (.int .i64 0) ∧ W'.cell? ⟨w.heap.size, 1, none⟩ = some (.int .i64 b) ∧ W'.cell? ⟨w.heap.size, 2, none⟩ = some (.int .i64 0) := fun h => ⟨h.cell 0 0 rfl rfl, h.cell 0 1 rfl rfl, h.cell 0 2 rfl rfl⟩
      go_region_held3 (fun W' => W'.cell? ⟨w.heap.size, 0, none⟩ = some (.int .i64 0) ∧ W'.cell? ⟨w.heap.size, 1, none⟩ = some (.int .i64 b) ∧ W'.cell? ⟨w.heap.size, 2, none⟩ = some (.int .i64 0))
        (exact held HX)
        ((go_at_call 32; refine (rdec_any _ HP (by omega) (by omega)).mono ?_; rintro e w2 ⟨rfl, hb⟩; replace HX := HX.ext hb; clear hb))
      all_goals (
        clear hwr hcc
        have hc00 := HX.cell 0 0 rfl rfl
        have hc01 := HX.cell 0 1 rfl rfl
        have hc02 := HX.cell 0 2 rfl rfl
        try simp only [List.getElem_toArray, List.getElem_cons_zero, List.getElem_cons_succ] at hc00 hc01 hc02
        go_wp2
        go_ret
        refine ⟨?_, HX.below⟩
        rw [← HL.out, show stateT 0 = [] from rfl, List.append_nil]
        simp only [str_append]
        rfl)
    · go_enter Tryd.func15, Tryd.ntmps15
      go_upto_region 1 with fail
      generalize w.alloc (.cells #[.int .i64 0, .int .i64 b, .int .i64 ((k : Int) + 1)] 23) = W at *
      have hc00 := HX.cell 0 0 rfl rfl
      have hc01 := HX.cell 0 1 rfl rfl
      have hc02 := HX.cell 0 2 rfl rfl
      try simp only [List.getElem_toArray, List.getElem_cons_zero, List.getElem_cons_succ] at hc00 hc01 hc02
      go_wp2_with fail
      refine (rvalid_any (v := true) _ HV).mono ?_
      rintro e w1 ⟨rfl, hb⟩
      clear hc00 hc01 hc02
      replace HX := HX.ext hb
      clear hb
      have hside : (⟨#[79, 82]⟩ : ByteArray).extract 0 1 = str [79] := by rfl
      have hs1 : (str [79]).size = 1 := by rfl
      have hcc : ¬ 9223372036854775807 < 1 + P.length := by omega
      have hwr : IntKind.i64.wrap 1 = 1 := by rfl
      go_upto_region 3 with fail
      replace HX := HX.ext (drew_ext _)
      have held : ∀ {W' : World}, BL w W' [(w.heap.size, #[.int .i64 0, .int .i64 b, .int .i64 ((k : Int) + 1)], 23)] → W'.cell? ⟨w.heap.size, 0, none⟩ = some (.int .i64 0) ∧ W'.cell? ⟨w.heap.size, 1, none⟩ = some (.int .i64 b) ∧ W'.cell? ⟨w.heap.size, 2, none⟩ = some (.int .i64 ((k : Int) + 1)) := fun h => ⟨h.cell 0 0 rfl rfl, h.cell 0 1 rfl rfl, h.cell 0 2 rfl rfl⟩
      go_region_held3 (fun W' => W'.cell? ⟨w.heap.size, 0, none⟩ = some (.int .i64 0) ∧ W'.cell? ⟨w.heap.size, 1, none⟩ = some (.int .i64 b) ∧ W'.cell? ⟨w.heap.size, 2, none⟩ = some (.int .i64 ((k : Int) + 1)))
        (exact held HX)
        ((go_at_call 32; refine (rdec_any _ HP (by omega) (by omega)).mono ?_; rintro e w2 ⟨rfl, hb⟩; replace HX := HX.ext hb; clear hb))
      all_goals (
        clear hwr hcc
        have hc00 := HX.cell 0 0 rfl rfl
        have hc01 := HX.cell 0 1 rfl rfl
        have hc02 := HX.cell 0 2 rfl rfl
        try simp only [List.getElem_toArray, List.getElem_cons_zero, List.getElem_cons_succ] at hc00 hc01 hc02
        have hrun := rstate_run k hk8
        have hs2 : (str (stateT ((k : Int) + 1))).size ≤ 1 := by rw [str_size, stateT]; split <;> simp
        go_wp2
        go_ret
        refine ⟨?_, HX.below⟩
        rw [← HL.out]
        simp only [str_append]
        rfl)
    · go_enter Tryd.func15, Tryd.ntmps15
      go_upto_region 1 with fail
      generalize w.alloc (.cells #[.int .i64 1, .int .i64 b, .int .i64 0] 23) = W at *
      have hc00 := HX.cell 0 0 rfl rfl
      have hc01 := HX.cell 0 1 rfl rfl
      have hc02 := HX.cell 0 2 rfl rfl
      try simp only [List.getElem_toArray, List.getElem_cons_zero, List.getElem_cons_succ] at hc00 hc01 hc02
      go_wp2_with fail
      refine (rvalid_any (v := true) _ HV).mono ?_
      rintro e w1 ⟨rfl, hb⟩
      clear hc00 hc01 hc02
      replace HX := HX.ext hb
      clear hb
      have hside : (⟨#[79, 82]⟩ : ByteArray).extract 1 2 = str [82] := by rfl
      have hs1 : (str [82]).size = 1 := by rfl
      have hcc : ¬ 9223372036854775807 < 1 + P.length := by omega
      have hwr : IntKind.i64.wrap 2 = 2 := by rfl
      go_upto_region 3 with fail
      replace HX := HX.ext (drew_ext _)
      have held : ∀ {W' : World}, BL w W' [(w.heap.size, #[.int .i64 1, .int .i64 b, .int .i64 0], 23)] → W'.cell? ⟨w.heap.size, 0, none⟩ = some (.int .i64 1) ∧ W'.cell? ⟨w.heap.size, 1, none⟩ = some (.int .i64 b) ∧ W'.cell? ⟨w.heap.size, 2, none⟩ = some (.int .i64 0) := fun h => ⟨h.cell 0 0 rfl rfl, h.cell 0 1 rfl rfl, h.cell 0 2 rfl rfl⟩
      go_region_held3 (fun W' => W'.cell? ⟨w.heap.size, 0, none⟩ = some (.int .i64 1) ∧ W'.cell? ⟨w.heap.size, 1, none⟩ = some (.int .i64 b) ∧ W'.cell? ⟨w.heap.size, 2, none⟩ = some (.int .i64 0))
        (exact held HX)
        ((go_at_call 32; refine (rdec_any _ HP (by omega) (by omega)).mono ?_; rintro e w2 ⟨rfl, hb⟩; replace HX := HX.ext hb; clear hb))
      all_goals (
        clear hwr hcc
        have hc00 := HX.cell 0 0 rfl rfl
        have hc01 := HX.cell 0 1 rfl rfl
        have hc02 := HX.cell 0 2 rfl rfl
        try simp only [List.getElem_toArray, List.getElem_cons_zero, List.getElem_cons_succ] at hc00 hc01 hc02
        go_wp2
        go_ret
        refine ⟨?_, HX.below⟩
        rw [← HL.out, show stateT 0 = [] from rfl, List.append_nil]
        simp only [str_append]
        rfl)
    · go_enter Tryd.func15, Tryd.ntmps15
      go_upto_region 1 with fail
      generalize w.alloc (.cells #[.int .i64 1, .int .i64 b, .int .i64 ((k : Int) + 1)] 23) = W at *
      have hc00 := HX.cell 0 0 rfl rfl
      have hc01 := HX.cell 0 1 rfl rfl
      have hc02 := HX.cell 0 2 rfl rfl
      try simp only [List.getElem_toArray, List.getElem_cons_zero, List.getElem_cons_succ] at hc00 hc01 hc02
      go_wp2_with fail
      refine (rvalid_any (v := true) _ HV).mono ?_
      rintro e w1 ⟨rfl, hb⟩
      clear hc00 hc01 hc02
      replace HX := HX.ext hb
      clear hb
      have hside : (⟨#[79, 82]⟩ : ByteArray).extract 1 2 = str [82] := by rfl
      have hs1 : (str [82]).size = 1 := by rfl
      have hcc : ¬ 9223372036854775807 < 1 + P.length := by omega
      have hwr : IntKind.i64.wrap 2 = 2 := by rfl
      go_upto_region 3 with fail
      replace HX := HX.ext (drew_ext _)
      have held : ∀ {W' : World}, BL w W' [(w.heap.size, #[.int .i64 1, .int .i64 b, .int .i64 ((k : Int) + 1)], 23)] → W'.cell? ⟨w.heap.size, 0, none⟩ = some (.int .i64 1) ∧ W'.cell? ⟨w.heap.size, 1, none⟩ = some (.int .i64 b) ∧ W'.cell? ⟨w.heap.size, 2, none⟩ = some (.int .i64 ((k : Int) + 1)) := fun h => ⟨h.cell 0 0 rfl rfl, h.cell 0 1 rfl rfl, h.cell 0 2 rfl rfl⟩
      go_region_held3 (fun W' => W'.cell? ⟨w.heap.size, 0, none⟩ = some (.int .i64 1) ∧ W'.cell? ⟨w.heap.size, 1, none⟩ = some (.int .i64 b) ∧ W'.cell? ⟨w.heap.size, 2, none⟩ = some (.int .i64 ((k : Int) + 1)))
        (exact held HX)
        ((go_at_call 32; refine (rdec_any _ HP (by omega) (by omega)).mono ?_; rintro e w2 ⟨rfl, hb⟩; replace HX := HX.ext hb; clear hb))
      all_goals (
        clear hwr hcc
        have hc00 := HX.cell 0 0 rfl rfl
        have hc01 := HX.cell 0 1 rfl rfl
        have hc02 := HX.cell 0 2 rfl rfl
        try simp only [List.getElem_toArray, List.getElem_cons_zero, List.getElem_cons_succ] at hc00 hc01 hc02
        have hrun := rstate_run k hk8
        have hs2 : (str (stateT ((k : Int) + 1))).size ≤ 1 := by rw [str_size, stateT]; split <;> simp
        go_wp2
        go_ret
        refine ⟨?_, HX.below⟩
        rw [← HL.out]
        simp only [str_append]
        rfl)
  · have HV := no hk
    clear hk
    go_enter Tryd.func15, Tryd.ntmps15
    go_upto_region 1 with fail
    generalize w.alloc (.cells #[.int .i64 a, .int .i64 b, .int .i64 c] 23) = W at *
    have hc00 := HX.cell 0 0 rfl rfl
    have hc01 := HX.cell 0 1 rfl rfl
    have hc02 := HX.cell 0 2 rfl rfl
    try simp only [List.getElem_toArray, List.getElem_cons_zero, List.getElem_cons_succ] at hc00 hc01 hc02
    go_wp2_with fail
    refine (rvalid_any (v := false) _ HV).mono ?_
    rintro e w1 ⟨rfl, hb⟩
    clear hc00 hc01 hc02
    replace HX := HX.ext hb
    clear hb
    go_wp2
    go_ret
    exact ⟨by first | rfl | simp [str], HX.below⟩
end Go.Proofs.YtlnajhochpbgpaaDoor
