/- The statement SimilarityTriangle: its walk. -/
import Derived.Test.YthempimelfmipaaGreatDoorSxdM
namespace Go.Proofs.YthempimelfmipaaGreatDoor
open Go.RowKit Go.Proofs Go

theorem dis_add (a b : List (Int × Int)) : disD a b = disD b a := by rw [disD, disD, sumD_comm, Int.mul_comm (totE a)]
set_option maxHeartbeats 2000000 in
set_option maxRecDepth 100000 in
theorem tri_few {ia fa ta ib fb tb ic fc tc : Int} {Aa Ab Ac : Option Addr} {ca cb cc : Nat} {la lb lc : List (Int × Int)} (w : World) (hT : Tab w) (EA : Es w Aa la) (hla : la.length ≤ 9223372036854775807) (EB : Es w Ab lb) (hlb : lb.length ≤ 9223372036854775807) (EC : Es w Ac lc) (hlc : lc.length ≤ 9223372036854775807) (hfew : fewS [⟨ia, Aa, ca, la, fa, ta⟩, ⟨ib, Ab, cb, lb, fb, tb⟩, ⟨ic, Ac, cc, lc, fc, tc⟩] = false) :
    Calls Tryz.prog 10 #[.agg #[.int .i64 ia, .slice Aa la.length ca, .int .i64 fa, .int .i64 ta], .agg #[.int .i64 ib, .slice Ab lb.length cb, .int .i64 fb, .int .i64 tb], .agg #[.int .i64 ic, .slice Ac lc.length cc, .int .i64 fc, .int .i64 tc]] w (RetB w true) := by
  go_enter Tryz.func10, Tryz.ntmps10
  go_wp2_with fail
  have HX := BL.three w #[.int .i64 ia, .slice Aa la.length ca, .int .i64 fa, .int .i64 ta] #[.int .i64 ib, .slice Ab lb.length cb, .int .i64 fb, .int .i64 tb] #[.int .i64 ic, .slice Ac lc.length cc, .int .i64 fc, .int .i64 tc] 26 26 26
  have e2 : w.heap.size + 2 = w.heap.size + 1 + 1 := rfl
  replace hT := hT.ext HX.below
  replace EA := EA.ext HX.below
  replace EB := EB.ext HX.below
  replace EC := EC.ext HX.below
  generalize ((w.alloc (.cells #[.int .i64 ia, .slice Aa la.length ca, .int .i64 fa, .int .i64 ta] 26)).alloc (.cells #[.int .i64 ib, .slice Ab lb.length cb, .int .i64 fb, .int .i64 tb] 26)).alloc (.cells #[.int .i64 ic, .slice Ac lc.length cc, .int .i64 fc, .int .i64 tc] 26) = wS at *
  rw [e2] at HX
  obtain ⟨b2, hb2⟩ : ∃ b, w.heap.size + 1 + 1 = b := ⟨_, rfl⟩
  rw [hb2] at HX ⊢
  have hlb2 : w.heap.size + 1 < b2 := by omega
  clear hb2 e2
  refine (awake_any _ hT).mono ?_
  rintro e wA ⟨rfl, hb⟩
  replace HX := HX.ext hb
  replace hT := hT.ext hb
  replace EA := EA.ext hb
  replace EB := EB.ext hb
  replace EC := EC.ext hb
  clear hb
  have hc00 := HX.cell 0 0 rfl rfl
  have hc01 := HX.cell 0 1 rfl rfl
  have hc02 := HX.cell 0 2 rfl rfl
  have hc03 := HX.cell 0 3 rfl rfl
  try simp only [List.getElem_toArray, List.getElem_cons_zero, List.getElem_cons_succ] at hc00 hc01 hc02 hc03
  have hc10 := HX.cell 1 0 rfl rfl
  have hc11 := HX.cell 1 1 rfl rfl
  have hc12 := HX.cell 1 2 rfl rfl
  have hc13 := HX.cell 1 3 rfl rfl
  try simp only [List.getElem_toArray, List.getElem_cons_zero, List.getElem_cons_succ] at hc10 hc11 hc12 hc13
  have hc20 := HX.cell 2 0 rfl rfl
  have hc21 := HX.cell 2 1 rfl rfl
  have hc22 := HX.cell 2 2 rfl rfl
  have hc23 := HX.cell 2 3 rfl rfl
  try simp only [List.getElem_toArray, List.getElem_cons_zero, List.getElem_cons_succ] at hc20 hc21 hc22 hc23
  have HLL := HL.lit wA 26 [⟨ia, Aa, ca, la, fa, ta⟩, ⟨ib, Ab, cb, lb, fb, tb⟩, ⟨ic, Ac, cc, lc, fc, tc⟩] #[.int .i64 ia, .slice Aa la.length ca, .int .i64 fa, .int .i64 ta, .int .i64 ib, .slice Ab lb.length cb, .int .i64 fb, .int .i64 tb, .int .i64 ic, .slice Ac lc.length cc, .int .i64 fc, .int .i64 tc] rfl (fun i x hx => by
    match i, hx with
    | 0, hx => simp at hx; subst hx; exact ⟨EA, hla⟩
    | 1, hx => simp at hx; subst hx; exact ⟨EB, hlb⟩
    | 2, hx => simp at hx; subst hx; exact ⟨EC, hlc⟩
    | i + 3, hx => simp at hx)
  have hb := below_alloc wA (.cells #[.int .i64 ia, .slice Aa la.length ca, .int .i64 fa, .int .i64 ta, .int .i64 ib, .slice Ab lb.length cb, .int .i64 fb, .int .i64 tb, .int .i64 ic, .slice Ac lc.length cc, .int .i64 fc, .int .i64 tc] 26)
  have cF : Calls Tryz.prog 12 #[.slice (some ⟨wA.heap.size, 0, none⟩) 3 3] (wA.alloc (.cells #[.int .i64 ia, .slice Aa la.length ca, .int .i64 fa, .int .i64 ta, .int .i64 ib, .slice Ab lb.length cb, .int .i64 fb, .int .i64 tb, .int .i64 ic, .slice Ac lc.length cc, .int .i64 fc, .int .i64 tc] 26)) (RetB (wA.alloc (.cells #[.int .i64 ia, .slice Aa la.length ca, .int .i64 fa, .int .i64 ta, .int .i64 ib, .slice Ab lb.length cb, .int .i64 fb, .int .i64 tb, .int .i64 ic, .slice Ac lc.length cc, .int .i64 fc, .int .i64 tc] 26)) false) := by
    have h := few_any (some ⟨wA.heap.size, 0, none⟩) 3 [⟨ia, Aa, ca, la, fa, ta⟩, ⟨ib, Ab, cb, lb, fb, tb⟩, ⟨ic, Ac, cc, lc, fc, tc⟩] _ HLL (by simp)
    rw [hfew] at h
    exact h
  go_wp2_with fail
  refine cF.mono ?_
  rintro e wB ⟨rfl, hb2⟩
  replace hb := bel_trans hb hb2
  clear hb2 cF HLL hc00 hc01 hc02 hc03 hc10 hc11 hc12 hc13 hc20 hc21 hc22 hc23
  replace HX := HX.ext hb
  replace hT := hT.ext hb
  replace EA := EA.ext hb
  replace EB := EB.ext hb
  replace EC := EC.ext hb
  clear hb
  go_wp2_with fail
  refine (awake_any _ hT).mono ?_
  rintro e wz ⟨rfl, hb⟩
  replace HX := HX.ext hb
  clear hb
  go_wp2
  go_ret
  exact ⟨by first | rfl | simp, HX.below⟩
set_option maxHeartbeats 4000000 in
set_option maxRecDepth 100000 in
theorem tri_a {ia fa ta ib fb tb ic fc tc : Int} {Aa Ab Ac : Option Addr} {ca cb cc : Nat} {la lb lc : List (Int × Int)} (w : World) (hT : Tab w) (EA : Es w Aa la) (hla : la.length ≤ 9223372036854775807) (EB : Es w Ab lb) (hlb : lb.length ≤ 9223372036854775807) (EC : Es w Ac lc) (hlc : lc.length ≤ 9223372036854775807) (hfew : fewS [⟨ia, Aa, ca, la, fa, ta⟩, ⟨ib, Ab, cb, lb, fb, tb⟩, ⟨ic, Ac, cc, lc, fc, tc⟩] = true) (va : ¬ HV ia la fa ta) :
    Calls Tryz.prog 10 #[.agg #[.int .i64 ia, .slice Aa la.length ca, .int .i64 fa, .int .i64 ta], .agg #[.int .i64 ib, .slice Ab lb.length cb, .int .i64 fb, .int .i64 tb], .agg #[.int .i64 ic, .slice Ac lc.length cc, .int .i64 fc, .int .i64 tc]] w (RetB w true) := by
  obtain ⟨e1, h1⟩ := E2.ex (HV ia la fa ta) (HV ib lb fb tb)
  obtain ⟨e2, h2⟩ := E2.ex (HV ib lb fb tb) (HV ic lc fc tc)
  obtain ⟨e3, h3⟩ := E2.ex (HV ia la fa ta) (HV ic lc fc tc)
  obtain rfl : e1 = 1 := by
    rcases h1 with ⟨x, y, h⟩ | ⟨x, h⟩
    · first | exact h | exact absurd x va | exact absurd y vb | exact absurd x vb | exact absurd y vc
    · first | exact h | exact absurd ⟨va, vb⟩ x
  replace h1 := Lib.hid h1
  replace h2 := Lib.hid h2
  replace h3 := Lib.hid h3
  have NA := no va
  clear va
  go_enter Tryz.func10, Tryz.ntmps10
  go_wp2_with fail
  have HX := BL.three w #[.int .i64 ia, .slice Aa la.length ca, .int .i64 fa, .int .i64 ta] #[.int .i64 ib, .slice Ab lb.length cb, .int .i64 fb, .int .i64 tb] #[.int .i64 ic, .slice Ac lc.length cc, .int .i64 fc, .int .i64 tc] 26 26 26
  have e2 : w.heap.size + 2 = w.heap.size + 1 + 1 := rfl
  replace hT := hT.ext HX.below
  replace EA := EA.ext HX.below
  replace EB := EB.ext HX.below
  replace EC := EC.ext HX.below
  generalize ((w.alloc (.cells #[.int .i64 ia, .slice Aa la.length ca, .int .i64 fa, .int .i64 ta] 26)).alloc (.cells #[.int .i64 ib, .slice Ab lb.length cb, .int .i64 fb, .int .i64 tb] 26)).alloc (.cells #[.int .i64 ic, .slice Ac lc.length cc, .int .i64 fc, .int .i64 tc] 26) = wS at *
  rw [e2] at HX
  obtain ⟨b2, hb2⟩ : ∃ b, w.heap.size + 1 + 1 = b := ⟨_, rfl⟩
  rw [hb2] at HX ⊢
  have hlb2 : w.heap.size + 1 < b2 := by omega
  clear hb2 e2
  refine (awake_any _ hT).mono ?_
  rintro e wA ⟨rfl, hb⟩
  replace HX := HX.ext hb
  replace hT := hT.ext hb
  replace EA := EA.ext hb
  replace EB := EB.ext hb
  replace EC := EC.ext hb
  clear hb
  have hc00 := HX.cell 0 0 rfl rfl
  have hc01 := HX.cell 0 1 rfl rfl
  have hc02 := HX.cell 0 2 rfl rfl
  have hc03 := HX.cell 0 3 rfl rfl
  try simp only [List.getElem_toArray, List.getElem_cons_zero, List.getElem_cons_succ] at hc00 hc01 hc02 hc03
  have hc10 := HX.cell 1 0 rfl rfl
  have hc11 := HX.cell 1 1 rfl rfl
  have hc12 := HX.cell 1 2 rfl rfl
  have hc13 := HX.cell 1 3 rfl rfl
  try simp only [List.getElem_toArray, List.getElem_cons_zero, List.getElem_cons_succ] at hc10 hc11 hc12 hc13
  have hc20 := HX.cell 2 0 rfl rfl
  have hc21 := HX.cell 2 1 rfl rfl
  have hc22 := HX.cell 2 2 rfl rfl
  have hc23 := HX.cell 2 3 rfl rfl
  try simp only [List.getElem_toArray, List.getElem_cons_zero, List.getElem_cons_succ] at hc20 hc21 hc22 hc23
  have HLL := HL.lit wA 26 [⟨ia, Aa, ca, la, fa, ta⟩, ⟨ib, Ab, cb, lb, fb, tb⟩, ⟨ic, Ac, cc, lc, fc, tc⟩] #[.int .i64 ia, .slice Aa la.length ca, .int .i64 fa, .int .i64 ta, .int .i64 ib, .slice Ab lb.length cb, .int .i64 fb, .int .i64 tb, .int .i64 ic, .slice Ac lc.length cc, .int .i64 fc, .int .i64 tc] rfl (fun i x hx => by
    match i, hx with
    | 0, hx => simp at hx; subst hx; exact ⟨EA, hla⟩
    | 1, hx => simp at hx; subst hx; exact ⟨EB, hlb⟩
    | 2, hx => simp at hx; subst hx; exact ⟨EC, hlc⟩
    | i + 3, hx => simp at hx)
  have hb := below_alloc wA (.cells #[.int .i64 ia, .slice Aa la.length ca, .int .i64 fa, .int .i64 ta, .int .i64 ib, .slice Ab lb.length cb, .int .i64 fb, .int .i64 tb, .int .i64 ic, .slice Ac lc.length cc, .int .i64 fc, .int .i64 tc] 26)
  have cF : Calls Tryz.prog 12 #[.slice (some ⟨wA.heap.size, 0, none⟩) 3 3] (wA.alloc (.cells #[.int .i64 ia, .slice Aa la.length ca, .int .i64 fa, .int .i64 ta, .int .i64 ib, .slice Ab lb.length cb, .int .i64 fb, .int .i64 tb, .int .i64 ic, .slice Ac lc.length cc, .int .i64 fc, .int .i64 tc] 26)) (RetB (wA.alloc (.cells #[.int .i64 ia, .slice Aa la.length ca, .int .i64 fa, .int .i64 ta, .int .i64 ib, .slice Ab lb.length cb, .int .i64 fb, .int .i64 tb, .int .i64 ic, .slice Ac lc.length cc, .int .i64 fc, .int .i64 tc] 26)) true) := by
    have h := few_any (some ⟨wA.heap.size, 0, none⟩) 3 [⟨ia, Aa, ca, la, fa, ta⟩, ⟨ib, Ab, cb, lb, fb, tb⟩, ⟨ic, Ac, cc, lc, fc, tc⟩] _ HLL (by simp)
    rw [hfew] at h
    exact h
  go_wp2_with fail
  refine cF.mono ?_
  rintro e wB ⟨rfl, hb2⟩
  replace hb := bel_trans hb hb2
  clear hb2 cF HLL hc00 hc01 hc02 hc03 hc10 hc11 hc12 hc13 hc20 hc21 hc22 hc23
  replace HX := HX.ext hb
  replace hT := hT.ext hb
  replace EA := EA.ext hb
  replace EB := EB.ext hb
  replace EC := EC.ext hb
  clear hb
  have hc00 := HX.cell 0 0 rfl rfl
  have hc01 := HX.cell 0 1 rfl rfl
  have hc02 := HX.cell 0 2 rfl rfl
  have hc03 := HX.cell 0 3 rfl rfl
  try simp only [List.getElem_toArray, List.getElem_cons_zero, List.getElem_cons_succ] at hc00 hc01 hc02 hc03
  have hc10 := HX.cell 1 0 rfl rfl
  have hc11 := HX.cell 1 1 rfl rfl
  have hc12 := HX.cell 1 2 rfl rfl
  have hc13 := HX.cell 1 3 rfl rfl
  try simp only [List.getElem_toArray, List.getElem_cons_zero, List.getElem_cons_succ] at hc10 hc11 hc12 hc13
  go_wp2_with fail
  refine (dist_all Aa Ab ca cb la lb _ EA EB hla hlb h1).mono ?_
  rintro e w1 ⟨s1, X1, n1, c1, Y1, m1, d1, rfl, hb⟩
  clear hc00 hc01 hc02 hc03
  clear hc10 hc11 hc12 hc13
  replace HX := HX.ext hb
  replace hT := hT.ext hb
  replace EA := EA.ext hb
  replace EB := EB.ext hb
  replace EC := EC.ext hb
  clear hb
  go_upto_region 4 with fail
  have hb := below_alloc w1 (.cells #[.bool s1, .slice X1 n1 c1, .slice Y1 m1 d1] 33)
  replace HX := HX.new #[.bool s1, .slice X1 n1 c1, .slice Y1 m1 d1] 33
  simp only [List.cons_append, List.nil_append] at HX
  replace hT := hT.ext hb
  replace EA := EA.ext hb
  replace EB := EB.ext hb
  replace EC := EC.ext hb
  clear hb
  generalize w1.alloc (.cells #[.bool s1, .slice X1 n1 c1, .slice Y1 m1 d1] 33) = V1 at *
  generalize w1.heap.size = g1 at *

  have hc10 := HX.cell 1 0 rfl rfl
  have hc11 := HX.cell 1 1 rfl rfl
  have hc12 := HX.cell 1 2 rfl rfl
  have hc13 := HX.cell 1 3 rfl rfl
  try simp only [List.getElem_toArray, List.getElem_cons_zero, List.getElem_cons_succ] at hc10 hc11 hc12 hc13
  have hc20 := HX.cell 2 0 rfl rfl
  have hc21 := HX.cell 2 1 rfl rfl
  have hc22 := HX.cell 2 2 rfl rfl
  have hc23 := HX.cell 2 3 rfl rfl
  try simp only [List.getElem_toArray, List.getElem_cons_zero, List.getElem_cons_succ] at hc20 hc21 hc22 hc23
  go_wp2_with fail
  refine (dist_all Ab Ac cb cc lb lc _ EB EC hlb hlc h2).mono ?_
  rintro e w2 ⟨s2, X2, n2, c2, Y2, m2, d2, rfl, hb⟩
  clear hc10 hc11 hc12 hc13
  clear hc20 hc21 hc22 hc23
  replace HX := HX.ext hb
  replace hT := hT.ext hb
  replace EA := EA.ext hb
  replace EB := EB.ext hb
  replace EC := EC.ext hb
  clear hb
  go_upto_region 5 with fail
  have hb := below_alloc w2 (.cells #[.bool s2, .slice X2 n2 c2, .slice Y2 m2 d2] 33)
  replace HX := HX.new #[.bool s2, .slice X2 n2 c2, .slice Y2 m2 d2] 33
  simp only [List.cons_append, List.nil_append] at HX
  replace hT := hT.ext hb
  replace EA := EA.ext hb
  replace EB := EB.ext hb
  replace EC := EC.ext hb
  clear hb
  generalize w2.alloc (.cells #[.bool s2, .slice X2 n2 c2, .slice Y2 m2 d2] 33) = V2 at *
  generalize w2.heap.size = g2 at *

  have hc00 := HX.cell 0 0 rfl rfl
  have hc01 := HX.cell 0 1 rfl rfl
  have hc02 := HX.cell 0 2 rfl rfl
  have hc03 := HX.cell 0 3 rfl rfl
  try simp only [List.getElem_toArray, List.getElem_cons_zero, List.getElem_cons_succ] at hc00 hc01 hc02 hc03
  have hc20 := HX.cell 2 0 rfl rfl
  have hc21 := HX.cell 2 1 rfl rfl
  have hc22 := HX.cell 2 2 rfl rfl
  have hc23 := HX.cell 2 3 rfl rfl
  try simp only [List.getElem_toArray, List.getElem_cons_zero, List.getElem_cons_succ] at hc20 hc21 hc22 hc23
  go_wp2_with fail
  refine (dist_all Aa Ac ca cc la lc _ EA EC hla hlc h3).mono ?_
  rintro e w3 ⟨s3, X3, n3, c3, Y3, m3, d3, rfl, hb⟩
  clear hc00 hc01 hc02 hc03
  clear hc20 hc21 hc22 hc23
  replace HX := HX.ext hb
  replace hT := hT.ext hb
  replace EA := EA.ext hb
  replace EB := EB.ext hb
  replace EC := EC.ext hb
  clear hb
  go_upto_region 6 with fail
  have hb := below_alloc w3 (.cells #[.bool s3, .slice X3 n3 c3, .slice Y3 m3 d3] 33)
  replace HX := HX.new #[.bool s3, .slice X3 n3 c3, .slice Y3 m3 d3] 33
  simp only [List.cons_append, List.nil_append] at HX
  replace hT := hT.ext hb
  replace EA := EA.ext hb
  replace EB := EB.ext hb
  replace EC := EC.ext hb
  clear hb
  generalize w3.alloc (.cells #[.bool s3, .slice X3 n3 c3, .slice Y3 m3 d3] 33) = V3 at *
  generalize w3.heap.size = g3 at *

  have hc00 := HX.cell 0 0 rfl rfl
  have hc01 := HX.cell 0 1 rfl rfl
  have hc02 := HX.cell 0 2 rfl rfl
  have hc03 := HX.cell 0 3 rfl rfl
  try simp only [List.getElem_toArray, List.getElem_cons_zero, List.getElem_cons_succ] at hc00 hc01 hc02 hc03
  go_wp2_with fail
  refine (hvalid_any (b := false) Aa ca la _ EA hla NA).mono ?_
  rintro e w10 ⟨rfl, hb⟩
  clear hc00 hc01 hc02 hc03
  replace HX := HX.ext hb
  replace hT := hT.ext hb
  replace EA := EA.ext hb
  replace EB := EB.ext hb
  replace EC := EC.ext hb
  clear hb
  go_wp2
  go_ret
  exact ⟨by first | rfl | simp, HX.below⟩
set_option maxHeartbeats 4000000 in
set_option maxRecDepth 100000 in
theorem tri_b {ia fa ta ib fb tb ic fc tc : Int} {Aa Ab Ac : Option Addr} {ca cb cc : Nat} {la lb lc : List (Int × Int)} (w : World) (hT : Tab w) (EA : Es w Aa la) (hla : la.length ≤ 9223372036854775807) (EB : Es w Ab lb) (hlb : lb.length ≤ 9223372036854775807) (EC : Es w Ac lc) (hlc : lc.length ≤ 9223372036854775807) (hfew : fewS [⟨ia, Aa, ca, la, fa, ta⟩, ⟨ib, Ab, cb, lb, fb, tb⟩, ⟨ic, Ac, cc, lc, fc, tc⟩] = true) (va : HV ia la fa ta) (vb : ¬ HV ib lb fb tb) :
    Calls Tryz.prog 10 #[.agg #[.int .i64 ia, .slice Aa la.length ca, .int .i64 fa, .int .i64 ta], .agg #[.int .i64 ib, .slice Ab lb.length cb, .int .i64 fb, .int .i64 tb], .agg #[.int .i64 ic, .slice Ac lc.length cc, .int .i64 fc, .int .i64 tc]] w (RetB w true) := by
  obtain ⟨e1, h1⟩ := E2.ex (HV ia la fa ta) (HV ib lb fb tb)
  obtain ⟨e2, h2⟩ := E2.ex (HV ib lb fb tb) (HV ic lc fc tc)
  obtain ⟨e3, h3⟩ := E2.ex (HV ia la fa ta) (HV ic lc fc tc)
  obtain rfl : e1 = 1 := by
    rcases h1 with ⟨x, y, h⟩ | ⟨x, h⟩
    · first | exact h | exact absurd x va | exact absurd y vb | exact absurd x vb | exact absurd y vc
    · first | exact h | exact absurd ⟨va, vb⟩ x
  replace h1 := Lib.hid h1
  replace h2 := Lib.hid h2
  replace h3 := Lib.hid h3
  have YA := yes va
  have NB := no vb
  clear va vb
  go_enter Tryz.func10, Tryz.ntmps10
  go_wp2_with fail
  have HX := BL.three w #[.int .i64 ia, .slice Aa la.length ca, .int .i64 fa, .int .i64 ta] #[.int .i64 ib, .slice Ab lb.length cb, .int .i64 fb, .int .i64 tb] #[.int .i64 ic, .slice Ac lc.length cc, .int .i64 fc, .int .i64 tc] 26 26 26
  have e2 : w.heap.size + 2 = w.heap.size + 1 + 1 := rfl
  replace hT := hT.ext HX.below
  replace EA := EA.ext HX.below
  replace EB := EB.ext HX.below
  replace EC := EC.ext HX.below
  generalize ((w.alloc (.cells #[.int .i64 ia, .slice Aa la.length ca, .int .i64 fa, .int .i64 ta] 26)).alloc (.cells #[.int .i64 ib, .slice Ab lb.length cb, .int .i64 fb, .int .i64 tb] 26)).alloc (.cells #[.int .i64 ic, .slice Ac lc.length cc, .int .i64 fc, .int .i64 tc] 26) = wS at *
  rw [e2] at HX
  obtain ⟨b2, hb2⟩ : ∃ b, w.heap.size + 1 + 1 = b := ⟨_, rfl⟩
  rw [hb2] at HX ⊢
  have hlb2 : w.heap.size + 1 < b2 := by omega
  clear hb2 e2
  refine (awake_any _ hT).mono ?_
  rintro e wA ⟨rfl, hb⟩
  replace HX := HX.ext hb
  replace hT := hT.ext hb
  replace EA := EA.ext hb
  replace EB := EB.ext hb
  replace EC := EC.ext hb
  clear hb
  have hc00 := HX.cell 0 0 rfl rfl
  have hc01 := HX.cell 0 1 rfl rfl
  have hc02 := HX.cell 0 2 rfl rfl
  have hc03 := HX.cell 0 3 rfl rfl
  try simp only [List.getElem_toArray, List.getElem_cons_zero, List.getElem_cons_succ] at hc00 hc01 hc02 hc03
  have hc10 := HX.cell 1 0 rfl rfl
  have hc11 := HX.cell 1 1 rfl rfl
  have hc12 := HX.cell 1 2 rfl rfl
  have hc13 := HX.cell 1 3 rfl rfl
  try simp only [List.getElem_toArray, List.getElem_cons_zero, List.getElem_cons_succ] at hc10 hc11 hc12 hc13
  have hc20 := HX.cell 2 0 rfl rfl
  have hc21 := HX.cell 2 1 rfl rfl
  have hc22 := HX.cell 2 2 rfl rfl
  have hc23 := HX.cell 2 3 rfl rfl
  try simp only [List.getElem_toArray, List.getElem_cons_zero, List.getElem_cons_succ] at hc20 hc21 hc22 hc23
  have HLL := HL.lit wA 26 [⟨ia, Aa, ca, la, fa, ta⟩, ⟨ib, Ab, cb, lb, fb, tb⟩, ⟨ic, Ac, cc, lc, fc, tc⟩] #[.int .i64 ia, .slice Aa la.length ca, .int .i64 fa, .int .i64 ta, .int .i64 ib, .slice Ab lb.length cb, .int .i64 fb, .int .i64 tb, .int .i64 ic, .slice Ac lc.length cc, .int .i64 fc, .int .i64 tc] rfl (fun i x hx => by
    match i, hx with
    | 0, hx => simp at hx; subst hx; exact ⟨EA, hla⟩
    | 1, hx => simp at hx; subst hx; exact ⟨EB, hlb⟩
    | 2, hx => simp at hx; subst hx; exact ⟨EC, hlc⟩
    | i + 3, hx => simp at hx)
  have hb := below_alloc wA (.cells #[.int .i64 ia, .slice Aa la.length ca, .int .i64 fa, .int .i64 ta, .int .i64 ib, .slice Ab lb.length cb, .int .i64 fb, .int .i64 tb, .int .i64 ic, .slice Ac lc.length cc, .int .i64 fc, .int .i64 tc] 26)
  have cF : Calls Tryz.prog 12 #[.slice (some ⟨wA.heap.size, 0, none⟩) 3 3] (wA.alloc (.cells #[.int .i64 ia, .slice Aa la.length ca, .int .i64 fa, .int .i64 ta, .int .i64 ib, .slice Ab lb.length cb, .int .i64 fb, .int .i64 tb, .int .i64 ic, .slice Ac lc.length cc, .int .i64 fc, .int .i64 tc] 26)) (RetB (wA.alloc (.cells #[.int .i64 ia, .slice Aa la.length ca, .int .i64 fa, .int .i64 ta, .int .i64 ib, .slice Ab lb.length cb, .int .i64 fb, .int .i64 tb, .int .i64 ic, .slice Ac lc.length cc, .int .i64 fc, .int .i64 tc] 26)) true) := by
    have h := few_any (some ⟨wA.heap.size, 0, none⟩) 3 [⟨ia, Aa, ca, la, fa, ta⟩, ⟨ib, Ab, cb, lb, fb, tb⟩, ⟨ic, Ac, cc, lc, fc, tc⟩] _ HLL (by simp)
    rw [hfew] at h
    exact h
  go_wp2_with fail
  refine cF.mono ?_
  rintro e wB ⟨rfl, hb2⟩
  replace hb := bel_trans hb hb2
  clear hb2 cF HLL hc00 hc01 hc02 hc03 hc10 hc11 hc12 hc13 hc20 hc21 hc22 hc23
  replace HX := HX.ext hb
  replace hT := hT.ext hb
  replace EA := EA.ext hb
  replace EB := EB.ext hb
  replace EC := EC.ext hb
  clear hb
  have hc00 := HX.cell 0 0 rfl rfl
  have hc01 := HX.cell 0 1 rfl rfl
  have hc02 := HX.cell 0 2 rfl rfl
  have hc03 := HX.cell 0 3 rfl rfl
  try simp only [List.getElem_toArray, List.getElem_cons_zero, List.getElem_cons_succ] at hc00 hc01 hc02 hc03
  have hc10 := HX.cell 1 0 rfl rfl
  have hc11 := HX.cell 1 1 rfl rfl
  have hc12 := HX.cell 1 2 rfl rfl
  have hc13 := HX.cell 1 3 rfl rfl
  try simp only [List.getElem_toArray, List.getElem_cons_zero, List.getElem_cons_succ] at hc10 hc11 hc12 hc13
  go_wp2_with fail
  refine (dist_all Aa Ab ca cb la lb _ EA EB hla hlb h1).mono ?_
  rintro e w1 ⟨s1, X1, n1, c1, Y1, m1, d1, rfl, hb⟩
  clear hc00 hc01 hc02 hc03
  clear hc10 hc11 hc12 hc13
  replace HX := HX.ext hb
  replace hT := hT.ext hb
  replace EA := EA.ext hb
  replace EB := EB.ext hb
  replace EC := EC.ext hb
  clear hb
  go_upto_region 4 with fail
  have hb := below_alloc w1 (.cells #[.bool s1, .slice X1 n1 c1, .slice Y1 m1 d1] 33)
  replace HX := HX.new #[.bool s1, .slice X1 n1 c1, .slice Y1 m1 d1] 33
  simp only [List.cons_append, List.nil_append] at HX
  replace hT := hT.ext hb
  replace EA := EA.ext hb
  replace EB := EB.ext hb
  replace EC := EC.ext hb
  clear hb
  generalize w1.alloc (.cells #[.bool s1, .slice X1 n1 c1, .slice Y1 m1 d1] 33) = V1 at *
  generalize w1.heap.size = g1 at *

  have hc10 := HX.cell 1 0 rfl rfl
  have hc11 := HX.cell 1 1 rfl rfl
  have hc12 := HX.cell 1 2 rfl rfl
  have hc13 := HX.cell 1 3 rfl rfl
  try simp only [List.getElem_toArray, List.getElem_cons_zero, List.getElem_cons_succ] at hc10 hc11 hc12 hc13
  have hc20 := HX.cell 2 0 rfl rfl
  have hc21 := HX.cell 2 1 rfl rfl
  have hc22 := HX.cell 2 2 rfl rfl
  have hc23 := HX.cell 2 3 rfl rfl
  try simp only [List.getElem_toArray, List.getElem_cons_zero, List.getElem_cons_succ] at hc20 hc21 hc22 hc23
  go_wp2_with fail
  refine (dist_all Ab Ac cb cc lb lc _ EB EC hlb hlc h2).mono ?_
  rintro e w2 ⟨s2, X2, n2, c2, Y2, m2, d2, rfl, hb⟩
  clear hc10 hc11 hc12 hc13
  clear hc20 hc21 hc22 hc23
  replace HX := HX.ext hb
  replace hT := hT.ext hb
  replace EA := EA.ext hb
  replace EB := EB.ext hb
  replace EC := EC.ext hb
  clear hb
  go_upto_region 5 with fail
  have hb := below_alloc w2 (.cells #[.bool s2, .slice X2 n2 c2, .slice Y2 m2 d2] 33)
  replace HX := HX.new #[.bool s2, .slice X2 n2 c2, .slice Y2 m2 d2] 33
  simp only [List.cons_append, List.nil_append] at HX
  replace hT := hT.ext hb
  replace EA := EA.ext hb
  replace EB := EB.ext hb
  replace EC := EC.ext hb
  clear hb
  generalize w2.alloc (.cells #[.bool s2, .slice X2 n2 c2, .slice Y2 m2 d2] 33) = V2 at *
  generalize w2.heap.size = g2 at *

  have hc00 := HX.cell 0 0 rfl rfl
  have hc01 := HX.cell 0 1 rfl rfl
  have hc02 := HX.cell 0 2 rfl rfl
  have hc03 := HX.cell 0 3 rfl rfl
  try simp only [List.getElem_toArray, List.getElem_cons_zero, List.getElem_cons_succ] at hc00 hc01 hc02 hc03
  have hc20 := HX.cell 2 0 rfl rfl
  have hc21 := HX.cell 2 1 rfl rfl
  have hc22 := HX.cell 2 2 rfl rfl
  have hc23 := HX.cell 2 3 rfl rfl
  try simp only [List.getElem_toArray, List.getElem_cons_zero, List.getElem_cons_succ] at hc20 hc21 hc22 hc23
  go_wp2_with fail
  refine (dist_all Aa Ac ca cc la lc _ EA EC hla hlc h3).mono ?_
  rintro e w3 ⟨s3, X3, n3, c3, Y3, m3, d3, rfl, hb⟩
  clear hc00 hc01 hc02 hc03
  clear hc20 hc21 hc22 hc23
  replace HX := HX.ext hb
  replace hT := hT.ext hb
  replace EA := EA.ext hb
  replace EB := EB.ext hb
  replace EC := EC.ext hb
  clear hb
  go_upto_region 6 with fail
  have hb := below_alloc w3 (.cells #[.bool s3, .slice X3 n3 c3, .slice Y3 m3 d3] 33)
  replace HX := HX.new #[.bool s3, .slice X3 n3 c3, .slice Y3 m3 d3] 33
  simp only [List.cons_append, List.nil_append] at HX
  replace hT := hT.ext hb
  replace EA := EA.ext hb
  replace EB := EB.ext hb
  replace EC := EC.ext hb
  clear hb
  generalize w3.alloc (.cells #[.bool s3, .slice X3 n3 c3, .slice Y3 m3 d3] 33) = V3 at *
  generalize w3.heap.size = g3 at *

  have hc00 := HX.cell 0 0 rfl rfl
  have hc01 := HX.cell 0 1 rfl rfl
  have hc02 := HX.cell 0 2 rfl rfl
  have hc03 := HX.cell 0 3 rfl rfl
  try simp only [List.getElem_toArray, List.getElem_cons_zero, List.getElem_cons_succ] at hc00 hc01 hc02 hc03
  go_wp2_with fail
  refine (hvalid_any (b := true) Aa ca la _ EA hla YA).mono ?_
  rintro e w10 ⟨rfl, hb⟩
  clear hc00 hc01 hc02 hc03
  replace HX := HX.ext hb
  replace hT := hT.ext hb
  replace EA := EA.ext hb
  replace EB := EB.ext hb
  replace EC := EC.ext hb
  clear hb
  have hc10 := HX.cell 1 0 rfl rfl
  have hc11 := HX.cell 1 1 rfl rfl
  have hc12 := HX.cell 1 2 rfl rfl
  have hc13 := HX.cell 1 3 rfl rfl
  try simp only [List.getElem_toArray, List.getElem_cons_zero, List.getElem_cons_succ] at hc10 hc11 hc12 hc13
  go_wp2_with fail
  refine (hvalid_any (b := false) Ab cb lb _ EB hlb NB).mono ?_
  rintro e w11 ⟨rfl, hb⟩
  clear hc10 hc11 hc12 hc13
  replace HX := HX.ext hb
  replace hT := hT.ext hb
  replace EA := EA.ext hb
  replace EB := EB.ext hb
  replace EC := EC.ext hb
  clear hb
  go_wp2
  go_ret
  exact ⟨by first | rfl | simp, HX.below⟩
set_option maxHeartbeats 4000000 in
set_option maxRecDepth 100000 in
theorem tri_c {ia fa ta ib fb tb ic fc tc : Int} {Aa Ab Ac : Option Addr} {ca cb cc : Nat} {la lb lc : List (Int × Int)} (w : World) (hT : Tab w) (EA : Es w Aa la) (hla : la.length ≤ 9223372036854775807) (EB : Es w Ab lb) (hlb : lb.length ≤ 9223372036854775807) (EC : Es w Ac lc) (hlc : lc.length ≤ 9223372036854775807) (hfew : fewS [⟨ia, Aa, ca, la, fa, ta⟩, ⟨ib, Ab, cb, lb, fb, tb⟩, ⟨ic, Ac, cc, lc, fc, tc⟩] = true) (va : HV ia la fa ta) (vb : HV ib lb fb tb) (vc : ¬ HV ic lc fc tc) :
    Calls Tryz.prog 10 #[.agg #[.int .i64 ia, .slice Aa la.length ca, .int .i64 fa, .int .i64 ta], .agg #[.int .i64 ib, .slice Ab lb.length cb, .int .i64 fb, .int .i64 tb], .agg #[.int .i64 ic, .slice Ac lc.length cc, .int .i64 fc, .int .i64 tc]] w (RetB w true) := by
  obtain ⟨e1, h1⟩ := E2.ex (HV ia la fa ta) (HV ib lb fb tb)
  obtain ⟨e2, h2⟩ := E2.ex (HV ib lb fb tb) (HV ic lc fc tc)
  obtain ⟨e3, h3⟩ := E2.ex (HV ia la fa ta) (HV ic lc fc tc)
  obtain rfl : e1 = 0 := by
    rcases h1 with ⟨x, y, h⟩ | ⟨x, h⟩
    · first | exact h | exact absurd x va | exact absurd y vb | exact absurd x vb | exact absurd y vc
    · first | exact h | exact absurd ⟨va, vb⟩ x
  obtain rfl : e2 = 1 := by
    rcases h2 with ⟨x, y, h⟩ | ⟨x, h⟩
    · first | exact h | exact absurd x va | exact absurd y vb | exact absurd x vb | exact absurd y vc
    · first | exact h | exact absurd ⟨va, vb⟩ x
  replace h1 := Lib.hid h1
  replace h2 := Lib.hid h2
  replace h3 := Lib.hid h3
  have YA := yes va
  have YB := yes vb
  have NC := no vc
  clear va vb vc
  go_enter Tryz.func10, Tryz.ntmps10
  go_wp2_with fail
  have HX := BL.three w #[.int .i64 ia, .slice Aa la.length ca, .int .i64 fa, .int .i64 ta] #[.int .i64 ib, .slice Ab lb.length cb, .int .i64 fb, .int .i64 tb] #[.int .i64 ic, .slice Ac lc.length cc, .int .i64 fc, .int .i64 tc] 26 26 26
  have e2 : w.heap.size + 2 = w.heap.size + 1 + 1 := rfl
  replace hT := hT.ext HX.below
  replace EA := EA.ext HX.below
  replace EB := EB.ext HX.below
  replace EC := EC.ext HX.below
  generalize ((w.alloc (.cells #[.int .i64 ia, .slice Aa la.length ca, .int .i64 fa, .int .i64 ta] 26)).alloc (.cells #[.int .i64 ib, .slice Ab lb.length cb, .int .i64 fb, .int .i64 tb] 26)).alloc (.cells #[.int .i64 ic, .slice Ac lc.length cc, .int .i64 fc, .int .i64 tc] 26) = wS at *
  rw [e2] at HX
  obtain ⟨b2, hb2⟩ : ∃ b, w.heap.size + 1 + 1 = b := ⟨_, rfl⟩
  rw [hb2] at HX ⊢
  have hlb2 : w.heap.size + 1 < b2 := by omega
  clear hb2 e2
  refine (awake_any _ hT).mono ?_
  rintro e wA ⟨rfl, hb⟩
  replace HX := HX.ext hb
  replace hT := hT.ext hb
  replace EA := EA.ext hb
  replace EB := EB.ext hb
  replace EC := EC.ext hb
  clear hb
  have hc00 := HX.cell 0 0 rfl rfl
  have hc01 := HX.cell 0 1 rfl rfl
  have hc02 := HX.cell 0 2 rfl rfl
  have hc03 := HX.cell 0 3 rfl rfl
  try simp only [List.getElem_toArray, List.getElem_cons_zero, List.getElem_cons_succ] at hc00 hc01 hc02 hc03
  have hc10 := HX.cell 1 0 rfl rfl
  have hc11 := HX.cell 1 1 rfl rfl
  have hc12 := HX.cell 1 2 rfl rfl
  have hc13 := HX.cell 1 3 rfl rfl
  try simp only [List.getElem_toArray, List.getElem_cons_zero, List.getElem_cons_succ] at hc10 hc11 hc12 hc13
  have hc20 := HX.cell 2 0 rfl rfl
  have hc21 := HX.cell 2 1 rfl rfl
  have hc22 := HX.cell 2 2 rfl rfl
  have hc23 := HX.cell 2 3 rfl rfl
  try simp only [List.getElem_toArray, List.getElem_cons_zero, List.getElem_cons_succ] at hc20 hc21 hc22 hc23
  have HLL := HL.lit wA 26 [⟨ia, Aa, ca, la, fa, ta⟩, ⟨ib, Ab, cb, lb, fb, tb⟩, ⟨ic, Ac, cc, lc, fc, tc⟩] #[.int .i64 ia, .slice Aa la.length ca, .int .i64 fa, .int .i64 ta, .int .i64 ib, .slice Ab lb.length cb, .int .i64 fb, .int .i64 tb, .int .i64 ic, .slice Ac lc.length cc, .int .i64 fc, .int .i64 tc] rfl (fun i x hx => by
    match i, hx with
    | 0, hx => simp at hx; subst hx; exact ⟨EA, hla⟩
    | 1, hx => simp at hx; subst hx; exact ⟨EB, hlb⟩
    | 2, hx => simp at hx; subst hx; exact ⟨EC, hlc⟩
    | i + 3, hx => simp at hx)
  have hb := below_alloc wA (.cells #[.int .i64 ia, .slice Aa la.length ca, .int .i64 fa, .int .i64 ta, .int .i64 ib, .slice Ab lb.length cb, .int .i64 fb, .int .i64 tb, .int .i64 ic, .slice Ac lc.length cc, .int .i64 fc, .int .i64 tc] 26)
  have cF : Calls Tryz.prog 12 #[.slice (some ⟨wA.heap.size, 0, none⟩) 3 3] (wA.alloc (.cells #[.int .i64 ia, .slice Aa la.length ca, .int .i64 fa, .int .i64 ta, .int .i64 ib, .slice Ab lb.length cb, .int .i64 fb, .int .i64 tb, .int .i64 ic, .slice Ac lc.length cc, .int .i64 fc, .int .i64 tc] 26)) (RetB (wA.alloc (.cells #[.int .i64 ia, .slice Aa la.length ca, .int .i64 fa, .int .i64 ta, .int .i64 ib, .slice Ab lb.length cb, .int .i64 fb, .int .i64 tb, .int .i64 ic, .slice Ac lc.length cc, .int .i64 fc, .int .i64 tc] 26)) true) := by
    have h := few_any (some ⟨wA.heap.size, 0, none⟩) 3 [⟨ia, Aa, ca, la, fa, ta⟩, ⟨ib, Ab, cb, lb, fb, tb⟩, ⟨ic, Ac, cc, lc, fc, tc⟩] _ HLL (by simp)
    rw [hfew] at h
    exact h
  go_wp2_with fail
  refine cF.mono ?_
  rintro e wB ⟨rfl, hb2⟩
  replace hb := bel_trans hb hb2
  clear hb2 cF HLL hc00 hc01 hc02 hc03 hc10 hc11 hc12 hc13 hc20 hc21 hc22 hc23
  replace HX := HX.ext hb
  replace hT := hT.ext hb
  replace EA := EA.ext hb
  replace EB := EB.ext hb
  replace EC := EC.ext hb
  clear hb
  have hc00 := HX.cell 0 0 rfl rfl
  have hc01 := HX.cell 0 1 rfl rfl
  have hc02 := HX.cell 0 2 rfl rfl
  have hc03 := HX.cell 0 3 rfl rfl
  try simp only [List.getElem_toArray, List.getElem_cons_zero, List.getElem_cons_succ] at hc00 hc01 hc02 hc03
  have hc10 := HX.cell 1 0 rfl rfl
  have hc11 := HX.cell 1 1 rfl rfl
  have hc12 := HX.cell 1 2 rfl rfl
  have hc13 := HX.cell 1 3 rfl rfl
  try simp only [List.getElem_toArray, List.getElem_cons_zero, List.getElem_cons_succ] at hc10 hc11 hc12 hc13
  go_wp2_with fail
  refine (dist_all Aa Ab ca cb la lb _ EA EB hla hlb h1).mono ?_
  rintro e w1 ⟨s1, X1, n1, c1, Y1, m1, d1, rfl, hb⟩
  clear hc00 hc01 hc02 hc03
  clear hc10 hc11 hc12 hc13
  replace HX := HX.ext hb
  replace hT := hT.ext hb
  replace EA := EA.ext hb
  replace EB := EB.ext hb
  replace EC := EC.ext hb
  clear hb
  go_upto_region 4 with fail
  have hb := below_alloc w1 (.cells #[.bool s1, .slice X1 n1 c1, .slice Y1 m1 d1] 33)
  replace HX := HX.new #[.bool s1, .slice X1 n1 c1, .slice Y1 m1 d1] 33
  simp only [List.cons_append, List.nil_append] at HX
  replace hT := hT.ext hb
  replace EA := EA.ext hb
  replace EB := EB.ext hb
  replace EC := EC.ext hb
  clear hb
  generalize w1.alloc (.cells #[.bool s1, .slice X1 n1 c1, .slice Y1 m1 d1] 33) = V1 at *
  generalize w1.heap.size = g1 at *

  have hc10 := HX.cell 1 0 rfl rfl
  have hc11 := HX.cell 1 1 rfl rfl
  have hc12 := HX.cell 1 2 rfl rfl
  have hc13 := HX.cell 1 3 rfl rfl
  try simp only [List.getElem_toArray, List.getElem_cons_zero, List.getElem_cons_succ] at hc10 hc11 hc12 hc13
  have hc20 := HX.cell 2 0 rfl rfl
  have hc21 := HX.cell 2 1 rfl rfl
  have hc22 := HX.cell 2 2 rfl rfl
  have hc23 := HX.cell 2 3 rfl rfl
  try simp only [List.getElem_toArray, List.getElem_cons_zero, List.getElem_cons_succ] at hc20 hc21 hc22 hc23
  go_wp2_with fail
  refine (dist_all Ab Ac cb cc lb lc _ EB EC hlb hlc h2).mono ?_
  rintro e w2 ⟨s2, X2, n2, c2, Y2, m2, d2, rfl, hb⟩
  clear hc10 hc11 hc12 hc13
  clear hc20 hc21 hc22 hc23
  replace HX := HX.ext hb
  replace hT := hT.ext hb
  replace EA := EA.ext hb
  replace EB := EB.ext hb
  replace EC := EC.ext hb
  clear hb
  go_upto_region 5 with fail
  have hb := below_alloc w2 (.cells #[.bool s2, .slice X2 n2 c2, .slice Y2 m2 d2] 33)
  replace HX := HX.new #[.bool s2, .slice X2 n2 c2, .slice Y2 m2 d2] 33
  simp only [List.cons_append, List.nil_append] at HX
  replace hT := hT.ext hb
  replace EA := EA.ext hb
  replace EB := EB.ext hb
  replace EC := EC.ext hb
  clear hb
  generalize w2.alloc (.cells #[.bool s2, .slice X2 n2 c2, .slice Y2 m2 d2] 33) = V2 at *
  generalize w2.heap.size = g2 at *

  have hc00 := HX.cell 0 0 rfl rfl
  have hc01 := HX.cell 0 1 rfl rfl
  have hc02 := HX.cell 0 2 rfl rfl
  have hc03 := HX.cell 0 3 rfl rfl
  try simp only [List.getElem_toArray, List.getElem_cons_zero, List.getElem_cons_succ] at hc00 hc01 hc02 hc03
  have hc20 := HX.cell 2 0 rfl rfl
  have hc21 := HX.cell 2 1 rfl rfl
  have hc22 := HX.cell 2 2 rfl rfl
  have hc23 := HX.cell 2 3 rfl rfl
  try simp only [List.getElem_toArray, List.getElem_cons_zero, List.getElem_cons_succ] at hc20 hc21 hc22 hc23
  go_wp2_with fail
  refine (dist_all Aa Ac ca cc la lc _ EA EC hla hlc h3).mono ?_
  rintro e w3 ⟨s3, X3, n3, c3, Y3, m3, d3, rfl, hb⟩
  clear hc00 hc01 hc02 hc03
  clear hc20 hc21 hc22 hc23
  replace HX := HX.ext hb
  replace hT := hT.ext hb
  replace EA := EA.ext hb
  replace EB := EB.ext hb
  replace EC := EC.ext hb
  clear hb
  go_upto_region 6 with fail
  have hb := below_alloc w3 (.cells #[.bool s3, .slice X3 n3 c3, .slice Y3 m3 d3] 33)
  replace HX := HX.new #[.bool s3, .slice X3 n3 c3, .slice Y3 m3 d3] 33
  simp only [List.cons_append, List.nil_append] at HX
  replace hT := hT.ext hb
  replace EA := EA.ext hb
  replace EB := EB.ext hb
  replace EC := EC.ext hb
  clear hb
  generalize w3.alloc (.cells #[.bool s3, .slice X3 n3 c3, .slice Y3 m3 d3] 33) = V3 at *
  generalize w3.heap.size = g3 at *

  have hc00 := HX.cell 0 0 rfl rfl
  have hc01 := HX.cell 0 1 rfl rfl
  have hc02 := HX.cell 0 2 rfl rfl
  have hc03 := HX.cell 0 3 rfl rfl
  try simp only [List.getElem_toArray, List.getElem_cons_zero, List.getElem_cons_succ] at hc00 hc01 hc02 hc03
  go_wp2_with fail
  refine (hvalid_any (b := true) Aa ca la _ EA hla YA).mono ?_
  rintro e w10 ⟨rfl, hb⟩
  clear hc00 hc01 hc02 hc03
  replace HX := HX.ext hb
  replace hT := hT.ext hb
  replace EA := EA.ext hb
  replace EB := EB.ext hb
  replace EC := EC.ext hb
  clear hb
  have hc10 := HX.cell 1 0 rfl rfl
  have hc11 := HX.cell 1 1 rfl rfl
  have hc12 := HX.cell 1 2 rfl rfl
  have hc13 := HX.cell 1 3 rfl rfl
  try simp only [List.getElem_toArray, List.getElem_cons_zero, List.getElem_cons_succ] at hc10 hc11 hc12 hc13
  go_wp2_with fail
  refine (hvalid_any (b := true) Ab cb lb _ EB hlb YB).mono ?_
  rintro e w11 ⟨rfl, hb⟩
  clear hc10 hc11 hc12 hc13
  replace HX := HX.ext hb
  replace hT := hT.ext hb
  replace EA := EA.ext hb
  replace EB := EB.ext hb
  replace EC := EC.ext hb
  clear hb
  have hc20 := HX.cell 2 0 rfl rfl
  have hc21 := HX.cell 2 1 rfl rfl
  have hc22 := HX.cell 2 2 rfl rfl
  have hc23 := HX.cell 2 3 rfl rfl
  try simp only [List.getElem_toArray, List.getElem_cons_zero, List.getElem_cons_succ] at hc20 hc21 hc22 hc23
  go_wp2_with fail
  refine (hvalid_any (b := false) Ac cc lc _ EC hlc NC).mono ?_
  rintro e w12 ⟨rfl, hb⟩
  clear hc20 hc21 hc22 hc23
  replace HX := HX.ext hb
  replace hT := hT.ext hb
  replace EA := EA.ext hb
  replace EB := EB.ext hb
  replace EC := EC.ext hb
  clear hb
  go_wp2
  go_ret
  exact ⟨by first | rfl | simp, HX.below⟩
set_option maxHeartbeats 16000000 in
set_option maxRecDepth 100000 in
theorem tri_ok {ia fa ta ib fb tb ic fc tc : Int} {Aa Ab Ac : Option Addr} {ca cb cc : Nat} {la lb lc : List (Int × Int)} (w : World) (hT : Tab w) (EA : Es w Aa la) (hla : la.length ≤ 9223372036854775807) (EB : Es w Ab lb) (hlb : lb.length ≤ 9223372036854775807) (EC : Es w Ac lc) (hlc : lc.length ≤ 9223372036854775807) (hfew : fewS [⟨ia, Aa, ca, la, fa, ta⟩, ⟨ib, Ab, cb, lb, fb, tb⟩, ⟨ic, Ac, cc, lc, fc, tc⟩] = true) (va : HV ia la fa ta) (vb : HV ib lb fb tb) (vc : HV ic lc fc tc) :
    Calls Tryz.prog 10 #[.agg #[.int .i64 ia, .slice Aa la.length ca, .int .i64 fa, .int .i64 ta], .agg #[.int .i64 ib, .slice Ab lb.length cb, .int .i64 fb, .int .i64 tb], .agg #[.int .i64 ic, .slice Ac lc.length cc, .int .i64 fc, .int .i64 tc]] w (RetB w true) := by
  have VA := Lib.hid va
  have VB := Lib.hid vb
  have VC := Lib.hid vc
  have hpa := va.pos
  have hpb := vb.pos
  have hpc := vc.pos
  obtain ⟨dd1, H1⟩ : ∃ q, Hid (disD la lb = q) := ⟨_, Lib.hid rfl⟩
  obtain ⟨dd2, H2⟩ : ∃ q, Hid (disD lb lc = q) := ⟨_, Lib.hid rfl⟩
  obtain ⟨dd3, H3⟩ : ∃ q, Hid (disD la lc = q) := ⟨_, Lib.hid rfl⟩
  obtain ⟨dd4, H4⟩ : ∃ q, Hid (dd1 + dd2 = q) := ⟨_, Lib.hid rfl⟩
  have s1 : Sz dd1 2 := H1.out ▸ dis_sz va vb
  have s2 : Sz dd2 2 := H2.out ▸ dis_sz vb vc
  obtain ⟨x1, HX1⟩ : ∃ x, Hid (cmpQ dd3 dd4 = x) := ⟨_, Lib.hid rfl⟩
  have hx1 : x1 ≤ 0 := by rw [← HX1.out, ← H4.out, ← H1.out, ← H2.out, ← H3.out]; exact cmpQ_le.2 (dis_tri (by omega) (by omega) (by omega))
  have hdx1 : decide (0 < x1) = false := decide_eq_false (by omega)
  obtain ⟨im, lm, fm, tm, k, hM⟩ := MergeIs.ex ia la fa ta ib lb fb tb
  have HM := Lib.hid hM
  have hz4 : Sz dd4 5 := by rw [← H4.out]; exact s1.add s2
  clear va vb vc hM hpa hpb hpc hx1
  go_enter Tryz.func10, Tryz.ntmps10
  go_wp2_with fail
  have HX := BL.three w #[.int .i64 ia, .slice Aa la.length ca, .int .i64 fa, .int .i64 ta] #[.int .i64 ib, .slice Ab lb.length cb, .int .i64 fb, .int .i64 tb] #[.int .i64 ic, .slice Ac lc.length cc, .int .i64 fc, .int .i64 tc] 26 26 26
  have e2 : w.heap.size + 2 = w.heap.size + 1 + 1 := rfl
  replace hT := hT.ext HX.below
  replace EA := EA.ext HX.below
  replace EB := EB.ext HX.below
  replace EC := EC.ext HX.below
  generalize ((w.alloc (.cells #[.int .i64 ia, .slice Aa la.length ca, .int .i64 fa, .int .i64 ta] 26)).alloc (.cells #[.int .i64 ib, .slice Ab lb.length cb, .int .i64 fb, .int .i64 tb] 26)).alloc (.cells #[.int .i64 ic, .slice Ac lc.length cc, .int .i64 fc, .int .i64 tc] 26) = wS at *
  rw [e2] at HX
  obtain ⟨b2, hb2⟩ : ∃ b, w.heap.size + 1 + 1 = b := ⟨_, rfl⟩
  rw [hb2] at HX ⊢
  have hlb2 : w.heap.size + 1 < b2 := by omega
  clear hb2 e2
  refine (awake_any _ hT).mono ?_
  rintro e wA ⟨rfl, hb⟩
  replace HX := HX.ext hb
  replace hT := hT.ext hb
  replace EA := EA.ext hb
  replace EB := EB.ext hb
  replace EC := EC.ext hb
  clear hb
  have hc00 := HX.cell 0 0 rfl rfl
  have hc01 := HX.cell 0 1 rfl rfl
  have hc02 := HX.cell 0 2 rfl rfl
  have hc03 := HX.cell 0 3 rfl rfl
  try simp only [List.getElem_toArray, List.getElem_cons_zero, List.getElem_cons_succ] at hc00 hc01 hc02 hc03
  have hc10 := HX.cell 1 0 rfl rfl
  have hc11 := HX.cell 1 1 rfl rfl
  have hc12 := HX.cell 1 2 rfl rfl
  have hc13 := HX.cell 1 3 rfl rfl
  try simp only [List.getElem_toArray, List.getElem_cons_zero, List.getElem_cons_succ] at hc10 hc11 hc12 hc13
  have hc20 := HX.cell 2 0 rfl rfl
  have hc21 := HX.cell 2 1 rfl rfl
  have hc22 := HX.cell 2 2 rfl rfl
  have hc23 := HX.cell 2 3 rfl rfl
  try simp only [List.getElem_toArray, List.getElem_cons_zero, List.getElem_cons_succ] at hc20 hc21 hc22 hc23
  have HLL := HL.lit wA 26 [⟨ia, Aa, ca, la, fa, ta⟩, ⟨ib, Ab, cb, lb, fb, tb⟩, ⟨ic, Ac, cc, lc, fc, tc⟩] #[.int .i64 ia, .slice Aa la.length ca, .int .i64 fa, .int .i64 ta, .int .i64 ib, .slice Ab lb.length cb, .int .i64 fb, .int .i64 tb, .int .i64 ic, .slice Ac lc.length cc, .int .i64 fc, .int .i64 tc] rfl (fun i x hx => by
    match i, hx with
    | 0, hx => simp at hx; subst hx; exact ⟨EA, hla⟩
    | 1, hx => simp at hx; subst hx; exact ⟨EB, hlb⟩
    | 2, hx => simp at hx; subst hx; exact ⟨EC, hlc⟩
    | i + 3, hx => simp at hx)
  have hb := below_alloc wA (.cells #[.int .i64 ia, .slice Aa la.length ca, .int .i64 fa, .int .i64 ta, .int .i64 ib, .slice Ab lb.length cb, .int .i64 fb, .int .i64 tb, .int .i64 ic, .slice Ac lc.length cc, .int .i64 fc, .int .i64 tc] 26)
  have cF : Calls Tryz.prog 12 #[.slice (some ⟨wA.heap.size, 0, none⟩) 3 3] (wA.alloc (.cells #[.int .i64 ia, .slice Aa la.length ca, .int .i64 fa, .int .i64 ta, .int .i64 ib, .slice Ab lb.length cb, .int .i64 fb, .int .i64 tb, .int .i64 ic, .slice Ac lc.length cc, .int .i64 fc, .int .i64 tc] 26)) (RetB (wA.alloc (.cells #[.int .i64 ia, .slice Aa la.length ca, .int .i64 fa, .int .i64 ta, .int .i64 ib, .slice Ab lb.length cb, .int .i64 fb, .int .i64 tb, .int .i64 ic, .slice Ac lc.length cc, .int .i64 fc, .int .i64 tc] 26)) true) := by
    have h := few_any (some ⟨wA.heap.size, 0, none⟩) 3 [⟨ia, Aa, ca, la, fa, ta⟩, ⟨ib, Ab, cb, lb, fb, tb⟩, ⟨ic, Ac, cc, lc, fc, tc⟩] _ HLL (by simp)
    rw [hfew] at h
    exact h
  go_wp2_with fail
  refine cF.mono ?_
  rintro e wB ⟨rfl, hb2⟩
  replace hb := bel_trans hb hb2
  clear hb2 cF HLL hc00 hc01 hc02 hc03 hc10 hc11 hc12 hc13 hc20 hc21 hc22 hc23
  replace HX := HX.ext hb
  replace hT := hT.ext hb
  replace EA := EA.ext hb
  replace EB := EB.ext hb
  replace EC := EC.ext hb
  clear hb
  have hc00 := HX.cell 0 0 rfl rfl
  have hc01 := HX.cell 0 1 rfl rfl
  have hc02 := HX.cell 0 2 rfl rfl
  have hc03 := HX.cell 0 3 rfl rfl
  try simp only [List.getElem_toArray, List.getElem_cons_zero, List.getElem_cons_succ] at hc00 hc01 hc02 hc03
  have hc10 := HX.cell 1 0 rfl rfl
  have hc11 := HX.cell 1 1 rfl rfl
  have hc12 := HX.cell 1 2 rfl rfl
  have hc13 := HX.cell 1 3 rfl rfl
  try simp only [List.getElem_toArray, List.getElem_cons_zero, List.getElem_cons_succ] at hc10 hc11 hc12 hc13
  go_wp2_with fail
  refine (dist_any Aa Ab ca cb la lb _ EA EB hla hlb VA.out VB.out H1).mono ?_
  rintro e w1 ⟨A7, c7, B7, d7, rfl, F7, hb⟩
  clear hc00 hc01 hc02 hc03
  clear hc10 hc11 hc12 hc13
  replace HX := HX.ext hb
  replace hT := hT.ext hb
  replace EA := EA.ext hb
  replace EB := EB.ext hb
  replace EC := EC.ext hb
  clear hb
  go_upto_region 4 with fail
  have hb := below_alloc w1 (.cells #[.bool (sg dd1), .slice A7 (dig (nu dd1)).length c7, .slice B7 (dig dd1.den).length d7] 33)
  replace HX := HX.new #[.bool (sg dd1), .slice A7 (dig (nu dd1)).length c7, .slice B7 (dig dd1.den).length d7] 33
  simp only [List.cons_append, List.nil_append] at HX
  replace hT := hT.ext hb
  replace EA := EA.ext hb
  replace EB := EB.ext hb
  replace EC := EC.ext hb
  replace F7 := F7.ext hb
  clear hb
  generalize w1.alloc (.cells #[.bool (sg dd1), .slice A7 (dig (nu dd1)).length c7, .slice B7 (dig dd1.den).length d7] 33) = V1 at *
  generalize w1.heap.size = g1 at *
  have hc10 := HX.cell 1 0 rfl rfl
  have hc11 := HX.cell 1 1 rfl rfl
  have hc12 := HX.cell 1 2 rfl rfl
  have hc13 := HX.cell 1 3 rfl rfl
  try simp only [List.getElem_toArray, List.getElem_cons_zero, List.getElem_cons_succ] at hc10 hc11 hc12 hc13
  have hc20 := HX.cell 2 0 rfl rfl
  have hc21 := HX.cell 2 1 rfl rfl
  have hc22 := HX.cell 2 2 rfl rfl
  have hc23 := HX.cell 2 3 rfl rfl
  try simp only [List.getElem_toArray, List.getElem_cons_zero, List.getElem_cons_succ] at hc20 hc21 hc22 hc23
  go_wp2_with fail
  refine (dist_any Ab Ac cb cc lb lc _ EB EC hlb hlc VB.out VC.out H2).mono ?_
  rintro e w2 ⟨A8, c8, B8, d8, rfl, F8, hb⟩
  clear hc10 hc11 hc12 hc13
  clear hc20 hc21 hc22 hc23
  replace HX := HX.ext hb
  replace hT := hT.ext hb
  replace EA := EA.ext hb
  replace EB := EB.ext hb
  replace EC := EC.ext hb
  replace F7 := F7.ext hb
  clear hb
  go_upto_region 5 with fail
  have hb := below_alloc w2 (.cells #[.bool (sg dd2), .slice A8 (dig (nu dd2)).length c8, .slice B8 (dig dd2.den).length d8] 33)
  replace HX := HX.new #[.bool (sg dd2), .slice A8 (dig (nu dd2)).length c8, .slice B8 (dig dd2.den).length d8] 33
  simp only [List.cons_append, List.nil_append] at HX
  replace hT := hT.ext hb
  replace EA := EA.ext hb
  replace EB := EB.ext hb
  replace EC := EC.ext hb
  replace F7 := F7.ext hb
  replace F8 := F8.ext hb
  clear hb
  generalize w2.alloc (.cells #[.bool (sg dd2), .slice A8 (dig (nu dd2)).length c8, .slice B8 (dig dd2.den).length d8] 33) = V2 at *
  generalize w2.heap.size = g2 at *
  have hc00 := HX.cell 0 0 rfl rfl
  have hc01 := HX.cell 0 1 rfl rfl
  have hc02 := HX.cell 0 2 rfl rfl
  have hc03 := HX.cell 0 3 rfl rfl
  try simp only [List.getElem_toArray, List.getElem_cons_zero, List.getElem_cons_succ] at hc00 hc01 hc02 hc03
  have hc20 := HX.cell 2 0 rfl rfl
  have hc21 := HX.cell 2 1 rfl rfl
  have hc22 := HX.cell 2 2 rfl rfl
  have hc23 := HX.cell 2 3 rfl rfl
  try simp only [List.getElem_toArray, List.getElem_cons_zero, List.getElem_cons_succ] at hc20 hc21 hc22 hc23
  go_wp2_with fail
  refine (dist_any Aa Ac ca cc la lc _ EA EC hla hlc VA.out VC.out H3).mono ?_
  rintro e w3 ⟨A9, c9, B9, d9, rfl, F9, hb⟩
  clear hc00 hc01 hc02 hc03
  clear hc20 hc21 hc22 hc23
  replace HX := HX.ext hb
  replace hT := hT.ext hb
  replace EA := EA.ext hb
  replace EB := EB.ext hb
  replace EC := EC.ext hb
  replace F7 := F7.ext hb
  replace F8 := F8.ext hb
  clear hb
  go_upto_region 6 with fail
  have hb := below_alloc w3 (.cells #[.bool (sg dd3), .slice A9 (dig (nu dd3)).length c9, .slice B9 (dig dd3.den).length d9] 33)
  replace HX := HX.new #[.bool (sg dd3), .slice A9 (dig (nu dd3)).length c9, .slice B9 (dig dd3.den).length d9] 33
  simp only [List.cons_append, List.nil_append] at HX
  replace hT := hT.ext hb
  replace EA := EA.ext hb
  replace EB := EB.ext hb
  replace EC := EC.ext hb
  replace F7 := F7.ext hb
  replace F8 := F8.ext hb
  replace F9 := F9.ext hb
  clear hb
  generalize w3.alloc (.cells #[.bool (sg dd3), .slice A9 (dig (nu dd3)).length c9, .slice B9 (dig dd3.den).length d9] 33) = V3 at *
  generalize w3.heap.size = g3 at *
  go_upto_region 8 with fail
  have hTu := hT
  have EAu := EA
  have EBu := EB
  have ECu := EC
  have F7u := F7
  have F8u := F8
  have F9u := F9
  go_cut [74] (fun x wx => x = .bool false ∧ BL w wx [(w.heap.size, #[.int .i64 ia, .slice Aa la.length ca, .int .i64 fa, .int .i64 ta], 26), (w.heap.size + 1, #[.int .i64 ib, .slice Ab lb.length cb, .int .i64 fb, .int .i64 tb], 26), (b2, #[.int .i64 ic, .slice Ac lc.length cc, .int .i64 fc, .int .i64 tc], 26), (g1, #[.bool (sg dd1), .slice A7 (dig (nu dd1)).length c7, .slice B7 (dig dd1.den).length d7], 33), (g2, #[.bool (sg dd2), .slice A8 (dig (nu dd2)).length c8, .slice B8 (dig dd2.den).length d8], 33), (g3, #[.bool (sg dd3), .slice A9 (dig (nu dd3)).length c9, .slice B9 (dig dd3.den).length d9], 33)] ∧ Below V3.heap.size V3 wx)
  case first =>
    have hbx : Below V3.heap.size V3 V3.drew := drew_below (Below.refl _ _) 1
    have held : ∀ {W' : World}, BL w W' [(w.heap.size, #[.int .i64 ia, .slice Aa la.length ca, .int .i64 fa, .int .i64 ta], 26), (w.heap.size + 1, #[.int .i64 ib, .slice Ab lb.length cb, .int .i64 fb, .int .i64 tb], 26), (b2, #[.int .i64 ic, .slice Ac lc.length cc, .int .i64 fc, .int .i64 tc], 26), (g1, #[.bool (sg dd1), .slice A7 (dig (nu dd1)).length c7, .slice B7 (dig dd1.den).length d7], 33), (g2, #[.bool (sg dd2), .slice A8 (dig (nu dd2)).length c8, .slice B8 (dig dd2.den).length d8], 33), (g3, #[.bool (sg dd3), .slice A9 (dig (nu dd3)).length c9, .slice B9 (dig dd3.den).length d9], 33)] → W'.cell? ⟨g1, 0, none⟩ = some (.bool (sg dd1)) ∧ W'.cell? ⟨g1, 1, none⟩ = some (.slice A7 (dig (nu dd1)).length c7) ∧ W'.cell? ⟨g1, 2, none⟩ = some (.slice B7 (dig dd1.den).length d7) ∧ W'.cell? ⟨g2, 0, none⟩ = some (.bool (sg dd2)) ∧ W'.cell? ⟨g2, 1, none⟩ = some (.slice A8 (dig (nu dd2)).length c8) ∧ W'.cell? ⟨g2, 2, none⟩ = some (.slice B8 (dig dd2.den).length d8) ∧ W'.cell? ⟨g3, 0, none⟩ = some (.bool (sg dd3)) ∧ W'.cell? ⟨g3, 1, none⟩ = some (.slice A9 (dig (nu dd3)).length c9) ∧ W'.cell? ⟨g3, 2, none⟩ = some (.slice B9 (dig dd3.den).length d9) := fun h => ⟨h.cell 3 0 rfl rfl, h.cell 3 1 rfl rfl, h.cell 3 2 rfl rfl, h.cell 4 0 rfl rfl, h.cell 4 1 rfl rfl, h.cell 4 2 rfl rfl, h.cell 5 0 rfl rfl, h.cell 5 1 rfl rfl, h.cell 5 2 rfl rfl⟩
    replace HX := HX.ext (drew_ext _)
    replace hT := hT.ext (drew_ext _)
    replace EA := EA.ext (drew_ext _)
    replace EB := EB.ext (drew_ext _)
    replace EC := EC.ext (drew_ext _)
    replace F7 := F7.ext (drew_ext _)
    replace F8 := F8.ext (drew_ext _)
    replace F9 := F9.ext (drew_ext _)
    go_region_held3 (fun W' => W'.cell? ⟨g1, 0, none⟩ = some (.bool (sg dd1)) ∧ W'.cell? ⟨g1, 1, none⟩ = some (.slice A7 (dig (nu dd1)).length c7) ∧ W'.cell? ⟨g1, 2, none⟩ = some (.slice B7 (dig dd1.den).length d7) ∧ W'.cell? ⟨g2, 0, none⟩ = some (.bool (sg dd2)) ∧ W'.cell? ⟨g2, 1, none⟩ = some (.slice A8 (dig (nu dd2)).length c8) ∧ W'.cell? ⟨g2, 2, none⟩ = some (.slice B8 (dig dd2.den).length d8) ∧ W'.cell? ⟨g3, 0, none⟩ = some (.bool (sg dd3)) ∧ W'.cell? ⟨g3, 1, none⟩ = some (.slice A9 (dig (nu dd3)).length c9) ∧ W'.cell? ⟨g3, 2, none⟩ = some (.slice B9 (dig dd3.den).length d9))
      (exact held HX)
      (first
        | (go_at_call 37; refine (fadd_h H4 hz4 F7.fr F8.fr (by omega) (by omega)).mono ?_; rintro e wz ⟨A10, c10, B10, d10, rfl, F10, hb⟩; replace HX := HX.ext hb; replace hbx := bel_trans hbx hb; replace hT := hT.ext hb; replace EA := EA.ext hb; replace EB := EB.ext hb; replace EC := EC.ext hb; replace F7 := F7.ext hb; replace F8 := F8.ext hb; replace F9 := F9.ext hb; clear hb)
        | (go_at_call 17; refine (fcmp_h HX1 F9.fr F10.fr (by omega) (by omega)).mono ?_; rintro e wz ⟨rfl, hb⟩; replace HX := HX.ext hb; replace hbx := bel_trans hbx hb; replace hT := hT.ext hb; replace EA := EA.ext hb; replace EB := EB.ext hb; replace EC := EC.ext hb; replace F7 := F7.ext hb; replace F8 := F8.ext hb; replace F9 := F9.ext hb; (try replace F10 := F10.ext hb); clear hb))
    all_goals (
      go_wp2_with fail
      go_meet
      case rel => exact ⟨by first | rfl | simp, HX, hbx⟩)
  case rest =>
    obtain ⟨rfl, h1, hb⟩ := hcut
    clear HX
    have HX := h1
    clear h1
    replace hT := hTu.ext hb
    replace EA := EAu.ext hb
    replace EB := EBu.ext hb
    replace EC := ECu.ext hb
    replace F7 := F7u.ext hb
    replace F8 := F8u.ext hb
    replace F9 := F9u.ext hb
    clear hb hTu EAu EBu ECu F7u F8u F9u
    have hc00 := HX.cell 0 0 rfl rfl
    have hc01 := HX.cell 0 1 rfl rfl
    have hc02 := HX.cell 0 2 rfl rfl
    have hc03 := HX.cell 0 3 rfl rfl
    try simp only [List.getElem_toArray, List.getElem_cons_zero, List.getElem_cons_succ] at hc00 hc01 hc02 hc03
    have hc10 := HX.cell 1 0 rfl rfl
    have hc11 := HX.cell 1 1 rfl rfl
    have hc12 := HX.cell 1 2 rfl rfl
    have hc13 := HX.cell 1 3 rfl rfl
    try simp only [List.getElem_toArray, List.getElem_cons_zero, List.getElem_cons_succ] at hc10 hc11 hc12 hc13
    go_wp2_with fail
    refine (hmerge_any Aa Ab ca cb la lb _ EA EB hla hlb HM.out).mono ?_
    rintro e w12 ⟨Am, cm, rfl, EM, hb⟩
    clear hc00 hc01 hc02 hc03
    clear hc10 hc11 hc12 hc13
    replace HX := HX.ext hb
    replace hT := hT.ext hb
    replace EA := EA.ext hb
    replace EB := EB.ext hb
    replace EC := EC.ext hb
    replace F7 := F7.ext hb
    replace F8 := F8.ext hb
    replace F9 := F9.ext hb
    clear hb
    go_upto_region 11 with fail
    have hb := below_alloc w12 (.cells #[.int .i64 im, .slice Am lm.length cm, .int .i64 fm, .int .i64 tm] 26)
    replace HX := HX.new #[.int .i64 im, .slice Am lm.length cm, .int .i64 fm, .int .i64 tm] 26
    simp only [List.cons_append, List.nil_append] at HX
    replace hT := hT.ext hb
    replace EA := EA.ext hb
    replace EB := EB.ext hb
    replace EC := EC.ext hb
    replace F7 := F7.ext hb
    replace F8 := F8.ext hb
    replace F9 := F9.ext hb
    replace EM := EM.ext hb
    clear hb
    generalize w12.alloc (.cells #[.int .i64 im, .slice Am lm.length cm, .int .i64 fm, .int .i64 tm] 26) = V12 at *
    generalize w12.heap.size = g10 at *
    by_cases hk0 : k = 0
    · subst hk0
      have hthird := dis_third VA.out VB.out VC.out HM.out
      obtain ⟨vm, _⟩ := near_sums HM.out
      have VM := Lib.hid vm
      have hlm : lm.length ≤ 32 := vm.2.1.2
      obtain ⟨dd5, H5⟩ : ∃ q, Hid (disD lm lc = q) := ⟨_, Lib.hid rfl⟩
      obtain ⟨x2, HX2⟩ : ∃ x, Hid (cmpQ dd5 dd3 = x) := ⟨_, Lib.hid rfl⟩
      obtain ⟨x3, HX3⟩ : ∃ x, Hid (cmpQ dd5 dd2 = x) := ⟨_, Lib.hid rfl⟩
      rw [H5.out, H3.out, H2.out] at hthird
      have hor : x2 ≤ 0 ∨ x3 ≤ 0 := by rw [← HX2.out, ← HX3.out, cmpQ_le, cmpQ_le]; exact hthird
      replace hor := Lib.hid hor
      clear vm hthird
      have hc60 := HX.cell 6 0 rfl rfl
      have hc61 := HX.cell 6 1 rfl rfl
      have hc62 := HX.cell 6 2 rfl rfl
      have hc63 := HX.cell 6 3 rfl rfl
      try simp only [List.getElem_toArray, List.getElem_cons_zero, List.getElem_cons_succ] at hc60 hc61 hc62 hc63
      have hc20 := HX.cell 2 0 rfl rfl
      have hc21 := HX.cell 2 1 rfl rfl
      have hc22 := HX.cell 2 2 rfl rfl
      have hc23 := HX.cell 2 3 rfl rfl
      try simp only [List.getElem_toArray, List.getElem_cons_zero, List.getElem_cons_succ] at hc20 hc21 hc22 hc23
      go_wp2_with fail
      refine (dist_any Am Ac cm cc lm lc _ EM EC (by omega) hlc VM.out VC.out H5).mono ?_
      rintro e w13 ⟨A12, c12, B12, d12, rfl, F12, hb⟩
      clear hc60 hc61 hc62 hc63
      clear hc20 hc21 hc22 hc23
      replace HX := HX.ext hb
      replace hT := hT.ext hb
      replace EA := EA.ext hb
      replace EB := EB.ext hb
      replace EC := EC.ext hb
      replace F7 := F7.ext hb
      replace F8 := F8.ext hb
      replace F9 := F9.ext hb
      replace EM := EM.ext hb
      clear hb
      go_upto_region 14 with fail
      have hb := below_alloc w13 (.cells #[.bool (sg dd5), .slice A12 (dig (nu dd5)).length c12, .slice B12 (dig dd5.den).length d12] 33)
      replace HX := HX.new #[.bool (sg dd5), .slice A12 (dig (nu dd5)).length c12, .slice B12 (dig dd5.den).length d12] 33
      simp only [List.cons_append, List.nil_append] at HX
      replace hT := hT.ext hb
      replace EA := EA.ext hb
      replace EB := EB.ext hb
      replace EC := EC.ext hb
      replace F7 := F7.ext hb
      replace F8 := F8.ext hb
      replace F9 := F9.ext hb
      replace EM := EM.ext hb
      replace F12 := F12.ext hb
      clear hb
      generalize w13.alloc (.cells #[.bool (sg dd5), .slice A12 (dig (nu dd5)).length c12, .slice B12 (dig dd5.den).length d12] 33) = V13 at *
      generalize w13.heap.size = g11 at *
      have hc70 := HX.cell 7 0 rfl rfl
      have hc71 := HX.cell 7 1 rfl rfl
      have hc72 := HX.cell 7 2 rfl rfl
      try simp only [List.getElem_toArray, List.getElem_cons_zero, List.getElem_cons_succ] at hc70 hc71 hc72
      have hc50 := HX.cell 5 0 rfl rfl
      have hc51 := HX.cell 5 1 rfl rfl
      have hc52 := HX.cell 5 2 rfl rfl
      try simp only [List.getElem_toArray, List.getElem_cons_zero, List.getElem_cons_succ] at hc50 hc51 hc52
      go_wp2_with fail
      refine (fcmp_h HX2 F12.fr F9.fr (by omega) (by omega)).mono ?_
      rintro e w14 ⟨rfl, hb⟩
      clear hc70 hc71 hc72
      clear hc50 hc51 hc52
      replace HX := HX.ext hb
      replace hT := hT.ext hb
      replace EA := EA.ext hb
      replace EB := EB.ext hb
      replace EC := EC.ext hb
      replace F7 := F7.ext hb
      replace F8 := F8.ext hb
      replace F9 := F9.ext hb
      replace EM := EM.ext hb
      replace F12 := F12.ext hb
      clear hb
      by_cases hx2 : x2 ≤ 0
      · have hd2 : decide (x2 ≤ 0) = true := decide_eq_true hx2
        go_wp2
        go_ret
        exact ⟨by first | rfl | simp, HX.below⟩
      · have hx3 : x3 ≤ 0 := by have := hor.out; omega
        have hd2 : decide (x2 ≤ 0) = false := decide_eq_false hx2
        have hd3 : decide (x3 ≤ 0) = true := decide_eq_true hx3
        have hc70 := HX.cell 7 0 rfl rfl
        have hc71 := HX.cell 7 1 rfl rfl
        have hc72 := HX.cell 7 2 rfl rfl
        try simp only [List.getElem_toArray, List.getElem_cons_zero, List.getElem_cons_succ] at hc70 hc71 hc72
        have hc40 := HX.cell 4 0 rfl rfl
        have hc41 := HX.cell 4 1 rfl rfl
        have hc42 := HX.cell 4 2 rfl rfl
        try simp only [List.getElem_toArray, List.getElem_cons_zero, List.getElem_cons_succ] at hc40 hc41 hc42
        go_wp2_with fail
        refine (fcmp_h HX3 F12.fr F8.fr (by omega) (by omega)).mono ?_
        rintro e w15 ⟨rfl, hb⟩
        replace HX := HX.ext hb
        go_wp2
        go_ret
        exact ⟨by first | rfl | simp, HX.below⟩
    · obtain ⟨_, rfl⟩ := HM.out.bad hk0
      have hk1 : (k != 0) = true := bne_iff_ne.2 hk0
      clear hk0
      go_wp2
      go_ret
      exact ⟨by first | rfl | simp, HX.below⟩
set_option maxHeartbeats 1000000 in
set_option maxRecDepth 100000 in
theorem triangle_any {ia fa ta ib fb tb ic fc tc : Int} {Aa Ab Ac : Option Addr} {ca cb cc : Nat} {la lb lc : List (Int × Int)} (w : World) (hT : Tab w) (EA : Es w Aa la) (hla : la.length ≤ 9223372036854775807) (EB : Es w Ab lb) (hlb : lb.length ≤ 9223372036854775807) (EC : Es w Ac lc) (hlc : lc.length ≤ 9223372036854775807) :
    Calls Tryz.prog 10 #[.agg #[.int .i64 ia, .slice Aa la.length ca, .int .i64 fa, .int .i64 ta], .agg #[.int .i64 ib, .slice Ab lb.length cb, .int .i64 fb, .int .i64 tb], .agg #[.int .i64 ic, .slice Ac lc.length cc, .int .i64 fc, .int .i64 tc]] w (RetB w true) := by
  cases hfew : fewS [⟨ia, Aa, ca, la, fa, ta⟩, ⟨ib, Ab, cb, lb, fb, tb⟩, ⟨ic, Ac, cc, lc, fc, tc⟩] with
  | false => exact tri_few w hT EA hla EB hlb EC hlc hfew
  | true =>
    by_cases va : HV ia la fa ta
    · by_cases vb : HV ib lb fb tb
      · by_cases vc : HV ic lc fc tc
        · exact tri_ok w hT EA hla EB hlb EC hlc hfew va vb vc
        · exact tri_c w hT EA hla EB hlb EC hlc hfew va vb vc
      · exact tri_b w hT EA hla EB hlb EC hlc hfew va vb
    · exact tri_a w hT EA hla EB hlb EC hlc hfew va
end Go.Proofs.YthempimelfmipaaGreatDoor
