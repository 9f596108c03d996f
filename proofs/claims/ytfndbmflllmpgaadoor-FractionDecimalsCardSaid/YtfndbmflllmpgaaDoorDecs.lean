/- The statement FractionDecimals: its walk. -/
import Derived.Test.YtfndbmflllmpgaaDoorQDec
namespace Go.Proofs.YtfndbmflllmpgaaDoor
open Go.RowKit Go.Proofs Go

theorem list_beq_self (L : List UInt8) : ((str L).toList == (str L).toList) = true := beq_self_eq_true _
set_option maxHeartbeats 800000 in
set_option maxRecDepth 100000 in
theorem fdecs_few {s1 : Bool} {A1' B1' : Option Addr} {n1 c1' m1 d1' : Nat} {x1 : Int} (w : World) (hT : Tab w) (hlens : Hid (∀ x ∈ [(FE.mk s1 A1' n1 c1' B1' m1 d1')], x.n ≤ 9223372036854775807 ∧ x.m ≤ 9223372036854775807)) (hfew : Hid (fewB [(FE.mk s1 A1' n1 c1' B1' m1 d1')] = false)) :
    Calls Tryd.prog 3 #[.agg #[.bool s1, .slice A1' n1 c1', .slice B1' m1 d1'], .int .i64 x1] w (RetB w true) := by
  go_enter Tryd.func3, Tryd.ntmps3
  go_wp2_with fail
  have HX := BL.one w #[.bool s1, .slice A1' n1 c1', .slice B1' m1 d1'] 26
  refine (awake_h (hT.ext HX.below)).mono ?_
  rintro e w1 ⟨rfl, hb⟩
  replace HX := HX.ext hb
  clear hb
  have hc00 := HX.cell 0 0 rfl rfl
  have hc01 := HX.cell 0 1 rfl rfl
  have hc02 := HX.cell 0 2 rfl rfl
  simp only [] at hc00 hc01 hc02
  go_wp2_with fail
  have hfs := FS.lit w1 26 [(FE.mk s1 A1' n1 c1' B1' m1 d1')] #[.bool s1, .slice A1' n1 c1', .slice B1' m1 d1'] rfl
  refine (few_any _ 1 1 _ _ hfs rfl (by omega) hlens.out).mono ?_
  rintro e w2 ⟨rfl, rfl⟩
  rw [hfew.out]
  have hb := below_alloc w1 (.cells #[.bool s1, .slice A1' n1 c1', .slice B1' m1 d1'] 26)
  clear hfs hc00 hc01 hc02
  replace HX := HX.ext hb
  clear hb
  generalize w1.alloc (.cells #[.bool s1, .slice A1' n1 c1', .slice B1' m1 d1'] 26) = w2 at *
  go_wp2_with fail
  refine (awake_h (hT.ext HX.below)).mono ?_
  rintro e w3 ⟨rfl, hb⟩
  replace HX := HX.ext hb
  go_wp2
  go_ret
  exact ⟨rfl, HX.below⟩

set_option maxHeartbeats 4000000 in
set_option maxRecDepth 100000 in
theorem fdecs_range {s1 : Bool} {A1' B1' : Option Addr} {n1 c1' m1 d1' : Nat} {x1 : Int} {a : Rat} (w : World) (hT : Tab w) (Pa : Fr w s1 A1' n1 c1' B1' m1 d1' a 6) (hlens : Hid (∀ x ∈ [(FE.mk s1 A1' n1 c1' B1' m1 d1')], x.n ≤ 9223372036854775807 ∧ x.m ≤ 9223372036854775807)) (hfew : Hid (fewB [(FE.mk s1 A1' n1 c1' B1' m1 d1')] = true)) (hk : Hid (x1 < 0 ∨ 20 < x1)) :
    Calls Tryd.prog 3 #[.agg #[.bool s1, .slice A1' n1 c1', .slice B1' m1 d1'], .int .i64 x1] w (RetB w true) := by
  go_enter Tryd.func3, Tryd.ntmps3
  go_wp2_with fail
  have HX := BL.one w #[.bool s1, .slice A1' n1 c1', .slice B1' m1 d1'] 26
  replace Pa := Pa.ext HX.below
  refine (awake_h (hT.ext HX.below)).mono ?_
  rintro e w1 ⟨rfl, hb⟩
  replace HX := HX.ext hb
  replace Pa := Pa.ext hb
  clear hb
  have hc00 := HX.cell 0 0 rfl rfl
  have hc01 := HX.cell 0 1 rfl rfl
  have hc02 := HX.cell 0 2 rfl rfl
  simp only [] at hc00 hc01 hc02
  go_wp2_with fail
  have hfs := FS.lit w1 26 [(FE.mk s1 A1' n1 c1' B1' m1 d1')] #[.bool s1, .slice A1' n1 c1', .slice B1' m1 d1'] rfl
  refine (few_any _ 1 1 _ _ hfs rfl (by omega) hlens.out).mono ?_
  rintro e w2 ⟨rfl, rfl⟩
  rw [hfew.out]
  have hb := below_alloc w1 (.cells #[.bool s1, .slice A1' n1 c1', .slice B1' m1 d1'] 26)
  clear hfs hc00 hc01 hc02
  replace HX := HX.ext hb
  replace Pa := Pa.ext hb
  clear hb
  generalize w1.alloc (.cells #[.bool s1, .slice A1' n1 c1', .slice B1' m1 d1'] 26) = w2 at *
  clear hlens hfew
  have hc00 := HX.cell 0 0 rfl rfl
  have hc01 := HX.cell 0 1 rfl rfl
  have hc02 := HX.cell 0 2 rfl rfl
  try simp only [List.getElem_toArray, List.getElem_cons_zero, List.getElem_cons_succ] at hc00 hc01 hc02
  go_wp2_with fail
  refine (fdecimal_range x1 _ hk.out).mono ?_
  rintro e w3 ⟨rfl, hb⟩
  clear hc00 hc01 hc02
  replace HX := HX.ext hb
  replace Pa := Pa.ext hb
  clear hb
  have hc00 := HX.cell 0 0 rfl rfl
  have hc01 := HX.cell 0 1 rfl rfl
  have hc02 := HX.cell 0 2 rfl rfl
  try simp only [List.getElem_toArray, List.getElem_cons_zero, List.getElem_cons_succ] at hc00 hc01 hc02
  go_wp2_with fail
  refine (qdecimal_range x1 _ hk.out).mono ?_
  rintro e w4 ⟨rfl, hb⟩
  clear hc00 hc01 hc02
  replace HX := HX.ext hb
  replace Pa := Pa.ext hb
  clear hb
  go_wp2
  go_ret
  exact ⟨by first | rfl | simp, HX.below⟩

set_option maxHeartbeats 4000000 in
set_option maxRecDepth 100000 in
theorem fdecs_in {s1 : Bool} {A1' B1' : Option Addr} {n1 c1' m1 d1' : Nat} {x1 : Int} {a : Rat} (w : World) (hT : Tab w) (Pa : Fr w s1 A1' n1 c1' B1' m1 d1' a 6) (hlens : Hid (∀ x ∈ [(FE.mk s1 A1' n1 c1' B1' m1 d1')], x.n ≤ 9223372036854775807 ∧ x.m ≤ 9223372036854775807)) (hfew : Hid (fewB [(FE.mk s1 A1' n1 c1' B1' m1 d1')] = true)) (hk : Hid (0 ≤ x1 ∧ x1 ≤ 20)) :
    Calls Tryd.prog 3 #[.agg #[.bool s1, .slice A1' n1 c1', .slice B1' m1 d1'], .int .i64 x1] w (RetB w true) := by
  obtain ⟨kp, rfl⟩ : ∃ kp : Nat, x1 = kp := ⟨x1.toNat, by have := hk.out; omega⟩
  have hkp : kp ≤ 20 := by have := hk.out; omega
  clear hk
  obtain ⟨L, hL⟩ : ∃ L, decText (sg a) (half (nu a) a.den kp) kp = L := ⟨_, rfl⟩
  have HL := Lib.hid hL
  clear hL
  have hself := list_beq_self L
  go_enter Tryd.func3, Tryd.ntmps3
  go_wp2_with fail
  have HX := BL.one w #[.bool s1, .slice A1' n1 c1', .slice B1' m1 d1'] 26
  replace Pa := Pa.ext HX.below
  refine (awake_h (hT.ext HX.below)).mono ?_
  rintro e w1 ⟨rfl, hb⟩
  replace HX := HX.ext hb
  replace Pa := Pa.ext hb
  clear hb
  have hc00 := HX.cell 0 0 rfl rfl
  have hc01 := HX.cell 0 1 rfl rfl
  have hc02 := HX.cell 0 2 rfl rfl
  simp only [] at hc00 hc01 hc02
  go_wp2_with fail
  have hfs := FS.lit w1 26 [(FE.mk s1 A1' n1 c1' B1' m1 d1')] #[.bool s1, .slice A1' n1 c1', .slice B1' m1 d1'] rfl
  refine (few_any _ 1 1 _ _ hfs rfl (by omega) hlens.out).mono ?_
  rintro e w2 ⟨rfl, rfl⟩
  rw [hfew.out]
  have hb := below_alloc w1 (.cells #[.bool s1, .slice A1' n1 c1', .slice B1' m1 d1'] 26)
  clear hfs hc00 hc01 hc02
  replace HX := HX.ext hb
  replace Pa := Pa.ext hb
  clear hb
  generalize w1.alloc (.cells #[.bool s1, .slice A1' n1 c1', .slice B1' m1 d1'] 26) = w2 at *
  clear hlens hfew
  have hc00 := HX.cell 0 0 rfl rfl
  have hc01 := HX.cell 0 1 rfl rfl
  have hc02 := HX.cell 0 2 rfl rfl
  try simp only [List.getElem_toArray, List.getElem_cons_zero, List.getElem_cons_succ] at hc00 hc01 hc02
  go_wp2_with fail
  refine (fdecimal_any kp _ Pa (by omega) hkp (hT.ext HX.below)).mono ?_
  rw [HL.out]
  rintro e w3 ⟨rfl, hb⟩
  clear hc00 hc01 hc02
  replace HX := HX.ext hb
  replace Pa := Pa.ext hb
  clear hb
  have hc00 := HX.cell 0 0 rfl rfl
  have hc01 := HX.cell 0 1 rfl rfl
  have hc02 := HX.cell 0 2 rfl rfl
  try simp only [List.getElem_toArray, List.getElem_cons_zero, List.getElem_cons_succ] at hc00 hc01 hc02
  go_wp2_with fail
  refine (qdecimal_any kp _ Pa (by omega) hkp).mono ?_
  rw [HL.out]
  rintro e w4 ⟨rfl, hb⟩
  clear hc00 hc01 hc02
  replace HX := HX.ext hb
  replace Pa := Pa.ext hb
  clear hb
  go_wp2
  go_ret
  exact ⟨by first | rfl | simp, HX.below⟩

theorem fdecs_any {s1 : Bool} {A1' B1' : Option Addr} {n1 c1' m1 d1' : Nat} {x1 : Int} (w : World) (hT : Tab w) (Pa : Arg w s1 A1' n1 c1' B1' m1 d1') :
    Calls Tryd.prog 3 #[.agg #[.bool s1, .slice A1' n1 c1', .slice B1' m1 d1'], .int .i64 x1] w (RetB w true) := by
  have hlens : ∀ x ∈ [(FE.mk s1 A1' n1 c1' B1' m1 d1')], x.n ≤ 9223372036854775807 ∧ x.m ≤ 9223372036854775807 := by
    intro x hx
    simp only [List.mem_cons, List.not_mem_nil, or_false] at hx
    subst hx; exact ⟨Pa.hn, Pa.hm⟩
  cases hf : fewB [(FE.mk s1 A1' n1 c1' B1' m1 d1')]
  · exact fdecs_few w hT (Lib.hid hlens) (Lib.hid hf)
  · have hf2 := hf
    rw [fewB1] at hf2
    simp only [Bool.and_eq_true, decide_eq_true_eq] at hf2
    obtain ⟨a, Pa'⟩ : ∃ q, Fr w s1 A1' n1 c1' B1' m1 d1' q 6 := Pa.fr (by omega) (by omega)
    by_cases hk : x1 < 0 ∨ 20 < x1
    · exact fdecs_range w hT Pa' (Lib.hid hlens) (Lib.hid hf) (Lib.hid hk)
    · exact fdecs_in w hT Pa' (Lib.hid hlens) (Lib.hid hf) (Lib.hid (by omega))
end Go.Proofs.YtfndbmflllmpgaaDoor
