/- The statements' own helper: awake. -/
import Derived.Test.YtlnajhochpbgpaaDoorLb9
namespace Go.Proofs.YtlnajhochpbgpaaDoor
open Go.RowKit Go.Proofs Go

theorem pr0 : PR [1, 2, 3, 4, 7, 9, 10] [49, 45, 52, 44, 32, 55, 44, 32, 57, 45, 49, 48] 0 := .inl ⟨rfl, ((((((((((((((Asc.nil).cons (x := 10) (by omega) (by simp))).cons (x := 9) (by omega) (by simp))).cons (x := 7) (by omega) (by simp))).cons (x := 4) (by omega) (by simp))).cons (x := 3) (by omega) (by simp))).cons (x := 2) (by omega) (by simp))).cons (x := 1) (by omega) (by simp)), by decide +kernel⟩
theorem px0 : PX [53, 45, 54] [5, 6] 0 := .inl ⟨rfl, ((((Asc.nil).cons (x := 6) (by omega) (by simp))).cons (x := 5) (by omega) (by simp)), by decide +kernel⟩
theorem px1 : PX [53, 44, 32, 54] [] 3 := by
  have hP : PR [5, 6] [53, 45, 54] 0 := .inl ⟨rfl, ((((Asc.nil).cons (x := 6) (by omega) (by simp))).cons (x := 5) (by omega) (by simp)), by decide +kernel⟩
  obtain ⟨l, E, h⟩ := PX.ex [53, 44, 32, 54]
  rcases h.readP (by simp) (m := [5, 6]) (by decide +kernel) hP with ⟨_, h2, _⟩ | ⟨_, rfl, rfl⟩
  · exact absurd h2 (by decide)
  · exact h
theorem lok (a b c : Int) (h : (0 ≤ a ∧ a ≤ 1) ∧ (1 ≤ b ∧ b ≤ 999) ∧ (0 ≤ c ∧ c ≤ 9)) : LOk a b c := h
theorem pl0 : PL [82, 48, 55] 0 0 0 3 := by
  obtain ⟨a, b, c, E, h⟩ := PL.ex [82, 48, 55]
  have hT : PT (sideI 82) 7 0 [82, 55] := .inl ⟨lok _ _ _ (by decide), by decide +kernel⟩
  rcases h.cand (R := [48, 55]) (st := 0) (n := 7) (by decide +kernel) (by decide +kernel) hT with ⟨h2, _⟩ | ⟨_, rfl, rfl, rfl, rfl⟩
  · exact absurd h2 (by decide)
  · exact h
theorem pl1 : PL [82, 55, 99] 1 7 3 0 := .inl ⟨rfl, lok _ _ _ (by decide), by decide +kernel⟩
theorem pt1 : PT 1 7 3 [82, 55, 99] := .inl ⟨lok _ _ _ (by decide), by decide +kernel⟩
theorem pg0 : PG 0 12 1 1 7 0 [79, 49, 50, 97, 47, 82, 55] 0 := .inl ⟨rfl, ⟨lok _ _ _ (by decide), lok _ _ _ (by decide), rfl, rfl⟩, by decide +kernel⟩
set_option maxHeartbeats 4000000 in
set_option maxRecDepth 100000 in
theorem lawake_any (w : World) (hE : Env w) :
    Calls Tryd.prog 11 #[] w (RetB w true) := by
  have hI0 := IEs.lit w 3 [1, 2, 3, 4, 7, 9, 10] #[.int .i64 1, .int .i64 2, .int .i64 3, .int .i64 4, .int .i64 7, .int .i64 9, .int .i64 10] rfl
  have hb0 := below_alloc w (.cells #[.int .i64 1, .int .i64 2, .int .i64 3, .int .i64 4, .int .i64 7, .int .i64 9, .int .i64 10] 3)
  go_enter Tryd.func11, Tryd.ntmps11
  go_wp2_with fail
  refine (lruns_any _ 7 [1, 2, 3, 4, 7, 9, 10] _ (hE.ext hb0).tab hI0 (by simp) pr0).mono ?_
  rintro e w1 ⟨rfl, hb⟩
  have HX := (BL.nil w).ext (bel_trans hb0 hb)
  clear hb hb0 hI0
  go_wp2_with fail
  refine (lexp_cons (L := [53, 45, 54]) _ (hE.ext HX.below) (by simp) (by simp) px0).mono ?_
  rintro e w2 ⟨A2, c2, rfl, HI, hb⟩
  replace HX := HX.ext hb
  clear hb
  go_wp2_with fail
  refine (lparse_cons (x := 82) (r := [48, 55]) _ (hE.ext HX.below) (by simp) pl0).mono ?_
  rintro e w3 ⟨rfl, hb⟩
  replace HX := HX.ext hb
  replace HI := HI.ext hb
  clear hb
  go_upto_region 4 with fail
  have hb := below_alloc w3 (.cells #[.int .i64 0, .int .i64 0, .int .i64 0] 23)
  replace HX := HX.new #[.int .i64 0, .int .i64 0, .int .i64 0] 23
  replace HI := HI.ext hb
  clear hb
  simp only [List.cons_append, List.nil_append] at HX
  generalize w3.alloc (.cells #[.int .i64 0, .int .i64 0, .int .i64 0] 23) = W3 at *
  generalize w3.heap.size = g3 at *

  go_wp2_with fail
  refine (lexp_cons (L := [53, 44, 32, 54]) _ (hE.ext HX.below) (by simp) (by simp) px1).mono ?_
  rintro e w4 ⟨A4, c4, rfl, HI4, hb⟩
  replace HX := HX.ext hb
  replace HI := HI.ext hb
  clear hb
  clear HI4
  go_wp2_with fail
  refine (lpair_any _ (hE.ext HX.below).tab pg0).mono ?_
  rintro e w5 ⟨rfl, hb⟩
  replace HX := HX.ext hb
  replace HI := HI.ext hb
  clear hb
  go_wp2_with fail
  refine (lparse_cons (x := 82) (r := [55, 99]) _ (hE.ext HX.below) (by simp) pl1).mono ?_
  rintro e w6 ⟨rfl, hb⟩
  replace HX := HX.ext hb
  replace HI := HI.ext hb
  clear hb
  go_upto_region 7 with fail
  have hlg60 := HX.lt 0 rfl
  simp only [] at hlg60
  have hb := below_alloc w6 (.cells #[.int .i64 1, .int .i64 7, .int .i64 3] 23)
  replace HX := HX.new #[.int .i64 1, .int .i64 7, .int .i64 3] 23
  replace HI := HI.ext hb
  clear hb
  simp only [List.cons_append, List.nil_append] at HX
  generalize w6.alloc (.cells #[.int .i64 1, .int .i64 7, .int .i64 3] 23) = W6 at *
  generalize w6.heap.size = g6 at *

  have hc10 := HX.cell 1 0 rfl rfl
  have hc11 := HX.cell 1 1 rfl rfl
  have hc12 := HX.cell 1 2 rfl rfl
  try simp only [List.getElem_toArray, List.getElem_cons_zero, List.getElem_cons_succ] at hc10 hc11 hc12
  have hs1 : ((str [49, 45, 52, 44, 32, 55, 44, 32, 57, 45, 49, 48]).toList == [49, 45, 52, 44, 32, 55, 44, 32, 57, 45, 49, 48]) = true := by rw [str_toList]; rfl
  have hs2 : ((str [79, 49, 50, 97, 47, 82, 55]).toList == [79, 49, 50, 97, 47, 82, 55]) = true := by rw [str_toList]; rfl
  have hs3 : ((str [82, 55, 99]).toList == [82, 55, 99]) = true := by rw [str_toList]; rfl
  go_wp2_with fail
  have HI6 := IEs.lit W6 3 [5, 6] #[.int .i64 5, .int .i64 6] rfl
  have hb6 := below_alloc W6 (.cells #[.int .i64 5, .int .i64 6] 3)
  refine (bints_any (b := true) A2 _ c2 2 [5, 6] [5, 6] _ (HI.ext hb6) HI6 (by simp) (by simp) (yes rfl)).mono ?_
  rintro e w7 ⟨rfl, hb⟩
  replace hb := bel_trans hb6 hb
  clear HI6 hb6
  clear hc10 hc11 hc12
  replace HX := HX.ext hb
  replace HI := HI.ext hb
  clear hb
  have hc10 := HX.cell 1 0 rfl rfl
  have hc11 := HX.cell 1 1 rfl rfl
  have hc12 := HX.cell 1 2 rfl rfl
  try simp only [List.getElem_toArray, List.getElem_cons_zero, List.getElem_cons_succ] at hc10 hc11 hc12
  go_wp2_with fail
  refine (ltext_any _ (hE.ext HX.below).tab pt1).mono ?_
  rintro e w8 ⟨rfl, hb⟩
  clear hc10 hc11 hc12
  replace HX := HX.ext hb
  replace HI := HI.ext hb
  clear hb
  go_wp2_with fail
  refine (lcmp_any _).mono ?_
  rw [show cmpL 0 12 0 1 2 0 = -1 from rfl]
  rintro e w9 ⟨rfl, hb⟩
  replace HX := HX.ext hb
  replace HI := HI.ext hb
  clear hb
  go_wp2
  go_ret
  exact ⟨by first | rfl | simp, HX.below⟩
end Go.Proofs.YtlnajhochpbgpaaDoor
