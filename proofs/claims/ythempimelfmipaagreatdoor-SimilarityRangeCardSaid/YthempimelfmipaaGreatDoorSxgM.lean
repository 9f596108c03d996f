/- The statement SimilarityRange: its walk. -/
import Derived.Test.YthempimelfmipaaGreatDoorSxdM
namespace Go.Proofs.YthempimelfmipaaGreatDoor
open Go.RowKit Go.Proofs Go

/-- the same shares, of the first k types -/
def saB (a b : List (Int × Int)) (k : Nat) : Bool := (List.range k).all fun i => decide (difT a b ((i : Int) + 1) = 0)
/-- a type in both, of the first k types -/
def coB (a b : List (Int × Int)) (k : Nat) : Bool := (List.range k).any fun i => decide (0 < numE a ((i : Int) + 1) ∧ 0 < numE b ((i : Int) + 1))
theorem saB_succ (a b : List (Int × Int)) (k : Nat) : saB a b (k + 1) = (saB a b k && decide (difT a b ((k : Int) + 1) = 0)) := by
  rw [saB, saB, List.range_succ, List.all_append]; simp
theorem coB_succ (a b : List (Int × Int)) (k : Nat) : coB a b (k + 1) = (coB a b k || decide (0 < numE a ((k : Int) + 1) ∧ 0 < numE b ((k : Int) + 1))) := by
  rw [coB, coB, List.range_succ, List.any_append]; simp
theorem saB_iff (a b : List (Int × Int)) (k : Nat) : saB a b k = true ↔ sumD a b k = 0 := by
  rw [sumD_zero_iff, saB, List.all_eq_true]
  exact ⟨fun h i hi => of_decide_eq_true (h i (List.mem_range.2 hi)), fun h i hi => decide_eq_true (h i (List.mem_range.1 hi))⟩
theorem coB_iff (a b : List (Int × Int)) (k : Nat) : coB a b k = true ↔ ∃ i, i < k ∧ (0 < numE a ((i : Int) + 1) ∧ 0 < numE b ((i : Int) + 1)) := by
  rw [coB, List.any_eq_true]
  exact ⟨fun ⟨i, hi, h⟩ => ⟨i, List.mem_range.1 hi, of_decide_eq_true h⟩, fun ⟨i, hi, h⟩ => ⟨i, List.mem_range.2 hi, decide_eq_true h⟩⟩
section
variable {ia fa ta ib fb tb : Int} {la lb : List (Int × Int)}
theorem sa_full (ha : HV ia la fa ta) (hb : HV ib lb fb tb) {x : Int} (hx : cmpQ (coD la lb 99) (quo 200 1) = x) : (x == 0) = saB la lb 99 := by
  rw [Bool.eq_iff_iff, beq_iff_eq, saB_iff, ← coD_full ha hb, ← hx, cmpQ_zero]
theorem co_none (ha : HV ia la fa ta) (hb : HV ib lb fb tb) {x : Int} (hx : sgn (coD la lb 99) = x) : decide (0 < x) = coB la lb 99 ∧ 0 ≤ x := by
  have hnn := coD_nn ha hb
  have h0 : quo 0 1 = 0 := by rw [quo, Rat.div_def, Rat.intCast_zero, Rat.zero_mul]
  have hc := coD_common ha hb
  rw [h0] at hnn hc
  have hx0 : x = 0 ↔ coD la lb 99 = 0 := by rw [← hx, sgn_eq_zero]
  have hxn : 0 ≤ x := by
    rcases sgn_cases (coD la lb 99) with ⟨h1, e⟩ | ⟨h1, e⟩ | ⟨h1, e⟩
    · exact absurd h1 (Rat.not_lt.2 hnn)
    · omega
    · omega
  refine ⟨?_, hxn⟩
  rw [Bool.eq_iff_iff, decide_eq_true_iff, coB_iff]
  constructor
  · intro h
    have h1 : ¬ coD la lb 99 = 0 := fun e => by have := hx0.2 e; omega
    rw [hc] at h1
    refine Classical.byContradiction fun hn => h1 fun t t1 t2 ht => hn ⟨(t - 1).toNat, by omega, ?_⟩
    rw [show (((t - 1).toNat : Nat) : Int) + 1 = t by omega]; exact ht
  · rintro ⟨i, hi, h⟩
    have h1 : x ≠ 0 := fun e => (hc.1 (hx0.1 e)) ((i : Int) + 1) (by omega) (by omega) h
    omega
theorem share_cmp (ha : HV ia la fa ta) (hb : HV ib lb fb tb) {t s : Int} (hs : cmpQ (shq la t) (shq lb t) = s) : (s == 0) = decide (difT la lb t = 0) := by
  rw [Bool.eq_iff_iff, beq_iff_eq, decide_eq_true_iff, difT_share ha hb, ← hs, cmpQ_zero]
theorem share_sgn (ha : HV ia la fa ta) {t x : Int} (hx : sgn (shq la t) = x) : 0 < x ↔ 0 < numE la t := by
  have h1 := ha.pos
  have h2 := (ha.nn t).1
  rw [← hx, shq_quo h2 (by omega), sgn_quo _ (by omega)]
  split
  · omega
  · split <;> omega
end
set_option maxHeartbeats 2000000 in
set_option maxRecDepth 100000 in
theorem rg_few {ia fa ta ib fb tb : Int} {Aa Ab : Option Addr} {ca cb : Nat} {la lb : List (Int × Int)} (w : World) (hT : Tab w) (EA : Es w Aa la) (hla : la.length ≤ 9223372036854775807) (EB : Es w Ab lb) (hlb : lb.length ≤ 9223372036854775807) (hfew : fewS [⟨ia, Aa, ca, la, fa, ta⟩, ⟨ib, Ab, cb, lb, fb, tb⟩] = false) :
    Calls Tryz.prog 3 #[.agg #[.int .i64 ia, .slice Aa la.length ca, .int .i64 fa, .int .i64 ta], .agg #[.int .i64 ib, .slice Ab lb.length cb, .int .i64 fb, .int .i64 tb]] w (RetB w true) := by
  go_enter Tryz.func3, Tryz.ntmps3
  go_wp2_with fail
  have HX := BL.two w #[.int .i64 ia, .slice Aa la.length ca, .int .i64 fa, .int .i64 ta] #[.int .i64 ib, .slice Ab lb.length cb, .int .i64 fb, .int .i64 tb] 26 26
  replace hT := hT.ext HX.below
  replace EA := EA.ext HX.below
  replace EB := EB.ext HX.below
  refine (awake_any _ hT).mono ?_
  rintro e wA ⟨rfl, hb⟩
  replace HX := HX.ext hb
  replace hT := hT.ext hb
  replace EA := EA.ext hb
  replace EB := EB.ext hb
  clear hb
  have hc00 := HX.cell 0 0 rfl rfl
  have hc01 := HX.cell 0 1 rfl rfl
  have hc02 := HX.cell 0 2 rfl rfl
  have hc03 := HX.cell 0 3 rfl rfl
  try simp only [List.getElem_toArray, List.getElem_cons_zero, List.getElem_cons_succ] at hc00 hc01 hc02 hc03
  have hc10 := HX.cell 1 0 rfl rfl
  have hc11 := HX.cell 1 1 rfl rfl
  have hc12 := HX.cell 1 2 rfl rfl
  have hc13 := HX.cell 1 3 rfl rfl
  try simp only [List.getElem_toArray, List.getElem_cons_zero, List.getElem_cons_succ] at hc10 hc11 hc12 hc13
  have HLL := HL.lit wA 26 [⟨ia, Aa, ca, la, fa, ta⟩, ⟨ib, Ab, cb, lb, fb, tb⟩] #[.int .i64 ia, .slice Aa la.length ca, .int .i64 fa, .int .i64 ta, .int .i64 ib, .slice Ab lb.length cb, .int .i64 fb, .int .i64 tb] rfl (fun i x hx => by
    match i, hx with
    | 0, hx => simp at hx; subst hx; exact ⟨EA, hla⟩
    | 1, hx => simp at hx; subst hx; exact ⟨EB, hlb⟩
    | i + 2, hx => simp at hx)
  have hb := below_alloc wA (.cells #[.int .i64 ia, .slice Aa la.length ca, .int .i64 fa, .int .i64 ta, .int .i64 ib, .slice Ab lb.length cb, .int .i64 fb, .int .i64 tb] 26)
  have cF : Calls Tryz.prog 12 #[.slice (some ⟨wA.heap.size, 0, none⟩) 2 2] (wA.alloc (.cells #[.int .i64 ia, .slice Aa la.length ca, .int .i64 fa, .int .i64 ta, .int .i64 ib, .slice Ab lb.length cb, .int .i64 fb, .int .i64 tb] 26)) (RetB (wA.alloc (.cells #[.int .i64 ia, .slice Aa la.length ca, .int .i64 fa, .int .i64 ta, .int .i64 ib, .slice Ab lb.length cb, .int .i64 fb, .int .i64 tb] 26)) false) := by
    have h := few_any (some ⟨wA.heap.size, 0, none⟩) 2 [⟨ia, Aa, ca, la, fa, ta⟩, ⟨ib, Ab, cb, lb, fb, tb⟩] _ HLL (by simp)
    rw [hfew] at h
    exact h
  go_wp2_with fail
  refine cF.mono ?_
  rintro e wB ⟨rfl, hb2⟩
  replace hb := bel_trans hb hb2
  clear hb2 cF HLL hc00 hc01 hc02 hc03 hc10 hc11 hc12 hc13
  replace HX := HX.ext hb
  replace hT := hT.ext hb
  replace EA := EA.ext hb
  replace EB := EB.ext hb
  clear hb
  go_wp2_with fail
  refine (awake_any _ hT).mono ?_
  rintro e wz ⟨rfl, hb⟩
  replace HX := HX.ext hb
  clear hb
  go_wp2
  go_ret
  exact ⟨by first | rfl | simp, HX.below⟩
set_option maxHeartbeats 4000000 in
set_option maxRecDepth 100000 in
theorem rg_a {ia fa ta ib fb tb : Int} {Aa Ab : Option Addr} {ca cb : Nat} {la lb : List (Int × Int)} (w : World) (hT : Tab w) (EA : Es w Aa la) (hla : la.length ≤ 9223372036854775807) (EB : Es w Ab lb) (hlb : lb.length ≤ 9223372036854775807) (hfew : fewS [⟨ia, Aa, ca, la, fa, ta⟩, ⟨ib, Ab, cb, lb, fb, tb⟩] = true) (va : ¬ HV ia la fa ta) :
    Calls Tryz.prog 3 #[.agg #[.int .i64 ia, .slice Aa la.length ca, .int .i64 fa, .int .i64 ta], .agg #[.int .i64 ib, .slice Ab lb.length cb, .int .i64 fb, .int .i64 tb]] w (RetB w true) := by
  have HN := Lib.hid (show ¬ (HV ia la fa ta ∧ HV ib lb fb tb) from fun h => va h.1)
  have NA := no va
  clear va
  go_enter Tryz.func3, Tryz.ntmps3
  go_wp2_with fail
  have HX := BL.two w #[.int .i64 ia, .slice Aa la.length ca, .int .i64 fa, .int .i64 ta] #[.int .i64 ib, .slice Ab lb.length cb, .int .i64 fb, .int .i64 tb] 26 26
  replace hT := hT.ext HX.below
  replace EA := EA.ext HX.below
  replace EB := EB.ext HX.below
  refine (awake_any _ hT).mono ?_
  rintro e wA ⟨rfl, hb⟩
  replace HX := HX.ext hb
  replace hT := hT.ext hb
  replace EA := EA.ext hb
  replace EB := EB.ext hb
  clear hb
  have hc00 := HX.cell 0 0 rfl rfl
  have hc01 := HX.cell 0 1 rfl rfl
  have hc02 := HX.cell 0 2 rfl rfl
  have hc03 := HX.cell 0 3 rfl rfl
  try simp only [List.getElem_toArray, List.getElem_cons_zero, List.getElem_cons_succ] at hc00 hc01 hc02 hc03
  have hc10 := HX.cell 1 0 rfl rfl
  have hc11 := HX.cell 1 1 rfl rfl
  have hc12 := HX.cell 1 2 rfl rfl
  have hc13 := HX.cell 1 3 rfl rfl
  try simp only [List.getElem_toArray, List.getElem_cons_zero, List.getElem_cons_succ] at hc10 hc11 hc12 hc13
  have HLL := HL.lit wA 26 [⟨ia, Aa, ca, la, fa, ta⟩, ⟨ib, Ab, cb, lb, fb, tb⟩] #[.int .i64 ia, .slice Aa la.length ca, .int .i64 fa, .int .i64 ta, .int .i64 ib, .slice Ab lb.length cb, .int .i64 fb, .int .i64 tb] rfl (fun i x hx => by
    match i, hx with
    | 0, hx => simp at hx; subst hx; exact ⟨EA, hla⟩
    | 1, hx => simp at hx; subst hx; exact ⟨EB, hlb⟩
    | i + 2, hx => simp at hx)
  have hb := below_alloc wA (.cells #[.int .i64 ia, .slice Aa la.length ca, .int .i64 fa, .int .i64 ta, .int .i64 ib, .slice Ab lb.length cb, .int .i64 fb, .int .i64 tb] 26)
  have cF : Calls Tryz.prog 12 #[.slice (some ⟨wA.heap.size, 0, none⟩) 2 2] (wA.alloc (.cells #[.int .i64 ia, .slice Aa la.length ca, .int .i64 fa, .int .i64 ta, .int .i64 ib, .slice Ab lb.length cb, .int .i64 fb, .int .i64 tb] 26)) (RetB (wA.alloc (.cells #[.int .i64 ia, .slice Aa la.length ca, .int .i64 fa, .int .i64 ta, .int .i64 ib, .slice Ab lb.length cb, .int .i64 fb, .int .i64 tb] 26)) true) := by
    have h := few_any (some ⟨wA.heap.size, 0, none⟩) 2 [⟨ia, Aa, ca, la, fa, ta⟩, ⟨ib, Ab, cb, lb, fb, tb⟩] _ HLL (by simp)
    rw [hfew] at h
    exact h
  go_wp2_with fail
  refine cF.mono ?_
  rintro e wB ⟨rfl, hb2⟩
  replace hb := bel_trans hb hb2
  clear hb2 cF HLL hc00 hc01 hc02 hc03 hc10 hc11 hc12 hc13
  replace HX := HX.ext hb
  replace hT := hT.ext hb
  replace EA := EA.ext hb
  replace EB := EB.ext hb
  clear hb
  have hc00 := HX.cell 0 0 rfl rfl
  have hc01 := HX.cell 0 1 rfl rfl
  have hc02 := HX.cell 0 2 rfl rfl
  have hc03 := HX.cell 0 3 rfl rfl
  try simp only [List.getElem_toArray, List.getElem_cons_zero, List.getElem_cons_succ] at hc00 hc01 hc02 hc03
  have hc10 := HX.cell 1 0 rfl rfl
  have hc11 := HX.cell 1 1 rfl rfl
  have hc12 := HX.cell 1 2 rfl rfl
  have hc13 := HX.cell 1 3 rfl rfl
  try simp only [List.getElem_toArray, List.getElem_cons_zero, List.getElem_cons_succ] at hc10 hc11 hc12 hc13
  go_wp2_with fail
  refine (coeff_no Aa Ab ca cb la lb _ EA EB hla hlb HN.out).mono ?_
  rintro e w1 ⟨rfl, hb⟩
  clear hc00 hc01 hc02 hc03
  clear hc10 hc11 hc12 hc13
  replace HX := HX.ext hb
  replace hT := hT.ext hb
  replace EA := EA.ext hb
  replace EB := EB.ext hb
  clear hb
  go_upto_region 4 with fail
  have hb := below_alloc w1 (.cells #[.bool false, .slice none 0 0, .slice none 0 0] 33)
  replace HX := HX.new #[.bool false, .slice none 0 0, .slice none 0 0] 33
  simp only [List.cons_append, List.nil_append] at HX
  replace hT := hT.ext hb
  replace EA := EA.ext hb
  replace EB := EB.ext hb
  clear hb
  generalize w1.alloc (.cells #[.bool false, .slice none 0 0, .slice none 0 0] 33) = V1 at *
  generalize w1.heap.size = g1 at *
  have hc10 := HX.cell 1 0 rfl rfl
  have hc11 := HX.cell 1 1 rfl rfl
  have hc12 := HX.cell 1 2 rfl rfl
  have hc13 := HX.cell 1 3 rfl rfl
  try simp only [List.getElem_toArray, List.getElem_cons_zero, List.getElem_cons_succ] at hc10 hc11 hc12 hc13
  have hc00 := HX.cell 0 0 rfl rfl
  have hc01 := HX.cell 0 1 rfl rfl
  have hc02 := HX.cell 0 2 rfl rfl
  have hc03 := HX.cell 0 3 rfl rfl
  try simp only [List.getElem_toArray, List.getElem_cons_zero, List.getElem_cons_succ] at hc00 hc01 hc02 hc03
  go_wp2_with fail
  refine (coeff_no Ab Aa cb ca lb la _ EB EA hlb hla (fun h => HN.out ⟨h.2, h.1⟩)).mono ?_
  rintro e w2 ⟨rfl, hb⟩
  clear hc10 hc11 hc12 hc13
  clear hc00 hc01 hc02 hc03
  replace HX := HX.ext hb
  replace hT := hT.ext hb
  replace EA := EA.ext hb
  replace EB := EB.ext hb
  clear hb
  go_upto_region 5 with fail
  have hb := below_alloc w2 (.cells #[.bool false, .slice none 0 0, .slice none 0 0] 33)
  replace HX := HX.new #[.bool false, .slice none 0 0, .slice none 0 0] 33
  simp only [List.cons_append, List.nil_append] at HX
  replace hT := hT.ext hb
  replace EA := EA.ext hb
  replace EB := EB.ext hb
  clear hb
  generalize w2.alloc (.cells #[.bool false, .slice none 0 0, .slice none 0 0] 33) = V2 at *
  generalize w2.heap.size = g2 at *
  have hc20 := HX.cell 2 0 rfl rfl
  have hc21 := HX.cell 2 1 rfl rfl
  have hc22 := HX.cell 2 2 rfl rfl
  try simp only [List.getElem_toArray, List.getElem_cons_zero, List.getElem_cons_succ] at hc20 hc21 hc22
  have hc30 := HX.cell 3 0 rfl rfl
  have hc31 := HX.cell 3 1 rfl rfl
  have hc32 := HX.cell 3 2 rfl rfl
  try simp only [List.getElem_toArray, List.getElem_cons_zero, List.getElem_cons_succ] at hc30 hc31 hc32
  go_wp2_with fail
  refine (bfrac_0).mono ?_
  rintro e w3 ⟨rfl, hb⟩
  clear hc20 hc21 hc22
  clear hc30 hc31 hc32
  replace HX := HX.ext hb
  replace hT := hT.ext hb
  replace EA := EA.ext hb
  replace EB := EB.ext hb
  clear hb
  have hc00 := HX.cell 0 0 rfl rfl
  have hc01 := HX.cell 0 1 rfl rfl
  have hc02 := HX.cell 0 2 rfl rfl
  have hc03 := HX.cell 0 3 rfl rfl
  try simp only [List.getElem_toArray, List.getElem_cons_zero, List.getElem_cons_succ] at hc00 hc01 hc02 hc03
  go_wp2_with fail
  refine (hvalid_any (b := false) Aa ca la _ EA hla NA).mono ?_
  rintro e w10 ⟨rfl, hb⟩
  clear hc00 hc01 hc02 hc03
  replace HX := HX.ext hb
  replace hT := hT.ext hb
  replace EA := EA.ext hb
  replace EB := EB.ext hb
  clear hb
  go_wp2
  go_ret
  exact ⟨by first | rfl | simp, HX.below⟩
set_option maxHeartbeats 4000000 in
set_option maxRecDepth 100000 in
theorem rg_b {ia fa ta ib fb tb : Int} {Aa Ab : Option Addr} {ca cb : Nat} {la lb : List (Int × Int)} (w : World) (hT : Tab w) (EA : Es w Aa la) (hla : la.length ≤ 9223372036854775807) (EB : Es w Ab lb) (hlb : lb.length ≤ 9223372036854775807) (hfew : fewS [⟨ia, Aa, ca, la, fa, ta⟩, ⟨ib, Ab, cb, lb, fb, tb⟩] = true) (va : HV ia la fa ta) (vb : ¬ HV ib lb fb tb) :
    Calls Tryz.prog 3 #[.agg #[.int .i64 ia, .slice Aa la.length ca, .int .i64 fa, .int .i64 ta], .agg #[.int .i64 ib, .slice Ab lb.length cb, .int .i64 fb, .int .i64 tb]] w (RetB w true) := by
  have HN := Lib.hid (show ¬ (HV ia la fa ta ∧ HV ib lb fb tb) from fun h => vb h.2)
  have YA := yes va
  have NB := no vb
  clear va vb
  go_enter Tryz.func3, Tryz.ntmps3
  go_wp2_with fail
  have HX := BL.two w #[.int .i64 ia, .slice Aa la.length ca, .int .i64 fa, .int .i64 ta] #[.int .i64 ib, .slice Ab lb.length cb, .int .i64 fb, .int .i64 tb] 26 26
  replace hT := hT.ext HX.below
  replace EA := EA.ext HX.below
  replace EB := EB.ext HX.below
  refine (awake_any _ hT).mono ?_
  rintro e wA ⟨rfl, hb⟩
  replace HX := HX.ext hb
  replace hT := hT.ext hb
  replace EA := EA.ext hb
  replace EB := EB.ext hb
  clear hb
  have hc00 := HX.cell 0 0 rfl rfl
  have hc01 := HX.cell 0 1 rfl rfl
  have hc02 := HX.cell 0 2 rfl rfl
  have hc03 := HX.cell 0 3 rfl rfl
  try simp only [List.getElem_toArray, List.getElem_cons_zero, List.getElem_cons_succ] at hc00 hc01 hc02 hc03
  have hc10 := HX.cell 1 0 rfl rfl
  have hc11 := HX.cell 1 1 rfl rfl
  have hc12 := HX.cell 1 2 rfl rfl
  have hc13 := HX.cell 1 3 rfl rfl
  try simp only [List.getElem_toArray, List.getElem_cons_zero, List.getElem_cons_succ] at hc10 hc11 hc12 hc13
  have HLL := HL.lit wA 26 [⟨ia, Aa, ca, la, fa, ta⟩, ⟨ib, Ab, cb, lb, fb, tb⟩] #[.int .i64 ia, .slice Aa la.length ca, .int .i64 fa, .int .i64 ta, .int .i64 ib, .slice Ab lb.length cb, .int .i64 fb, .int .i64 tb] rfl (fun i x hx => by
    match i, hx with
    | 0, hx => simp at hx; subst hx; exact ⟨EA, hla⟩
    | 1, hx => simp at hx; subst hx; exact ⟨EB, hlb⟩
    | i + 2, hx => simp at hx)
  have hb := below_alloc wA (.cells #[.int .i64 ia, .slice Aa la.length ca, .int .i64 fa, .int .i64 ta, .int .i64 ib, .slice Ab lb.length cb, .int .i64 fb, .int .i64 tb] 26)
  have cF : Calls Tryz.prog 12 #[.slice (some ⟨wA.heap.size, 0, none⟩) 2 2] (wA.alloc (.cells #[.int .i64 ia, .slice Aa la.length ca, .int .i64 fa, .int .i64 ta, .int .i64 ib, .slice Ab lb.length cb, .int .i64 fb, .int .i64 tb] 26)) (RetB (wA.alloc (.cells #[.int .i64 ia, .slice Aa la.length ca, .int .i64 fa, .int .i64 ta, .int .i64 ib, .slice Ab lb.length cb, .int .i64 fb, .int .i64 tb] 26)) true) := by
    have h := few_any (some ⟨wA.heap.size, 0, none⟩) 2 [⟨ia, Aa, ca, la, fa, ta⟩, ⟨ib, Ab, cb, lb, fb, tb⟩] _ HLL (by simp)
    rw [hfew] at h
    exact h
  go_wp2_with fail
  refine cF.mono ?_
  rintro e wB ⟨rfl, hb2⟩
  replace hb := bel_trans hb hb2
  clear hb2 cF HLL hc00 hc01 hc02 hc03 hc10 hc11 hc12 hc13
  replace HX := HX.ext hb
  replace hT := hT.ext hb
  replace EA := EA.ext hb
  replace EB := EB.ext hb
  clear hb
  have hc00 := HX.cell 0 0 rfl rfl
  have hc01 := HX.cell 0 1 rfl rfl
  have hc02 := HX.cell 0 2 rfl rfl
  have hc03 := HX.cell 0 3 rfl rfl
  try simp only [List.getElem_toArray, List.getElem_cons_zero, List.getElem_cons_succ] at hc00 hc01 hc02 hc03
  have hc10 := HX.cell 1 0 rfl rfl
  have hc11 := HX.cell 1 1 rfl rfl
  have hc12 := HX.cell 1 2 rfl rfl
  have hc13 := HX.cell 1 3 rfl rfl
  try simp only [List.getElem_toArray, List.getElem_cons_zero, List.getElem_cons_succ] at hc10 hc11 hc12 hc13
  go_wp2_with fail
  refine (coeff_no Aa Ab ca cb la lb _ EA EB hla hlb HN.out).mono ?_
  rintro e w1 ⟨rfl, hb⟩
  clear hc00 hc01 hc02 hc03
  clear hc10 hc11 hc12 hc13
  replace HX := HX.ext hb
  replace hT := hT.ext hb
  replace EA := EA.ext hb
  replace EB := EB.ext hb
  clear hb
  go_upto_region 4 with fail
  have hb := below_alloc w1 (.cells #[.bool false, .slice none 0 0, .slice none 0 0] 33)
  replace HX := HX.new #[.bool false, .slice none 0 0, .slice none 0 0] 33
  simp only [List.cons_append, List.nil_append] at HX
  replace hT := hT.ext hb
  replace EA := EA.ext hb
  replace EB := EB.ext hb
  clear hb
  generalize w1.alloc (.cells #[.bool false, .slice none 0 0, .slice none 0 0] 33) = V1 at *
  generalize w1.heap.size = g1 at *
  have hc10 := HX.cell 1 0 rfl rfl
  have hc11 := HX.cell 1 1 rfl rfl
  have hc12 := HX.cell 1 2 rfl rfl
  have hc13 := HX.cell 1 3 rfl rfl
  try simp only [List.getElem_toArray, List.getElem_cons_zero, List.getElem_cons_succ] at hc10 hc11 hc12 hc13
  have hc00 := HX.cell 0 0 rfl rfl
  have hc01 := HX.cell 0 1 rfl rfl
  have hc02 := HX.cell 0 2 rfl rfl
  have hc03 := HX.cell 0 3 rfl rfl
  try simp only [List.getElem_toArray, List.getElem_cons_zero, List.getElem_cons_succ] at hc00 hc01 hc02 hc03
  go_wp2_with fail
  refine (coeff_no Ab Aa cb ca lb la _ EB EA hlb hla (fun h => HN.out ⟨h.2, h.1⟩)).mono ?_
  rintro e w2 ⟨rfl, hb⟩
  clear hc10 hc11 hc12 hc13
  clear hc00 hc01 hc02 hc03
  replace HX := HX.ext hb
  replace hT := hT.ext hb
  replace EA := EA.ext hb
  replace EB := EB.ext hb
  clear hb
  go_upto_region 5 with fail
  have hb := below_alloc w2 (.cells #[.bool false, .slice none 0 0, .slice none 0 0] 33)
  replace HX := HX.new #[.bool false, .slice none 0 0, .slice none 0 0] 33
  simp only [List.cons_append, List.nil_append] at HX
  replace hT := hT.ext hb
  replace EA := EA.ext hb
  replace EB := EB.ext hb
  clear hb
  generalize w2.alloc (.cells #[.bool false, .slice none 0 0, .slice none 0 0] 33) = V2 at *
  generalize w2.heap.size = g2 at *
  have hc20 := HX.cell 2 0 rfl rfl
  have hc21 := HX.cell 2 1 rfl rfl
  have hc22 := HX.cell 2 2 rfl rfl
  try simp only [List.getElem_toArray, List.getElem_cons_zero, List.getElem_cons_succ] at hc20 hc21 hc22
  have hc30 := HX.cell 3 0 rfl rfl
  have hc31 := HX.cell 3 1 rfl rfl
  have hc32 := HX.cell 3 2 rfl rfl
  try simp only [List.getElem_toArray, List.getElem_cons_zero, List.getElem_cons_succ] at hc30 hc31 hc32
  go_wp2_with fail
  refine (bfrac_0).mono ?_
  rintro e w3 ⟨rfl, hb⟩
  clear hc20 hc21 hc22
  clear hc30 hc31 hc32
  replace HX := HX.ext hb
  replace hT := hT.ext hb
  replace EA := EA.ext hb
  replace EB := EB.ext hb
  clear hb
  have hc00 := HX.cell 0 0 rfl rfl
  have hc01 := HX.cell 0 1 rfl rfl
  have hc02 := HX.cell 0 2 rfl rfl
  have hc03 := HX.cell 0 3 rfl rfl
  try simp only [List.getElem_toArray, List.getElem_cons_zero, List.getElem_cons_succ] at hc00 hc01 hc02 hc03
  go_wp2_with fail
  refine (hvalid_any (b := true) Aa ca la _ EA hla YA).mono ?_
  rintro e w10 ⟨rfl, hb⟩
  clear hc00 hc01 hc02 hc03
  replace HX := HX.ext hb
  replace hT := hT.ext hb
  replace EA := EA.ext hb
  replace EB := EB.ext hb
  clear hb
  have hc10 := HX.cell 1 0 rfl rfl
  have hc11 := HX.cell 1 1 rfl rfl
  have hc12 := HX.cell 1 2 rfl rfl
  have hc13 := HX.cell 1 3 rfl rfl
  try simp only [List.getElem_toArray, List.getElem_cons_zero, List.getElem_cons_succ] at hc10 hc11 hc12 hc13
  go_wp2_with fail
  refine (hvalid_any (b := false) Ab cb lb _ EB hlb NB).mono ?_
  rintro e w11 ⟨rfl, hb⟩
  clear hc10 hc11 hc12 hc13
  replace HX := HX.ext hb
  replace hT := hT.ext hb
  replace EA := EA.ext hb
  replace EB := EB.ext hb
  clear hb
  go_wp2
  go_ret
  exact ⟨by first | rfl | simp, HX.below⟩
set_option maxHeartbeats 16000000 in
set_option maxRecDepth 100000 in
theorem rg_ok {ia fa ta ib fb tb : Int} {Aa Ab : Option Addr} {ca cb : Nat} {la lb : List (Int × Int)} (w : World) (hT : Tab w) (EA : Es w Aa la) (hla : la.length ≤ 9223372036854775807) (EB : Es w Ab lb) (hlb : lb.length ≤ 9223372036854775807) (hfew : fewS [⟨ia, Aa, ca, la, fa, ta⟩, ⟨ib, Ab, cb, lb, fb, tb⟩] = true) (va : HV ia la fa ta) (vb : HV ib lb fb tb) :
    Calls Tryz.prog 3 #[.agg #[.int .i64 ia, .slice Aa la.length ca, .int .i64 fa, .int .i64 ta], .agg #[.int .i64 ib, .slice Ab lb.length cb, .int .i64 fb, .int .i64 tb]] w (RetB w true) := by
  have VA := Lib.hid va
  have VB := Lib.hid vb
  obtain ⟨q, HQ⟩ : ∃ q, Hid (coD la lb 99 = q) := ⟨_, Lib.hid rfl⟩
  have HQ2 : Hid (coD lb la 99 = q) := Lib.hid ((coD_comm lb la 99).trans HQ.out)
  obtain ⟨o2, HO2⟩ : ∃ q, Hid (quo 200 1 = q) := ⟨_, Lib.hid rfl⟩
  obtain ⟨x2, HX2⟩ : ∃ x, Hid (cmpQ q o2 = x) := ⟨_, Lib.hid rfl⟩
  obtain ⟨x3, HX3⟩ : ∃ x, Hid (sgn q = x) := ⟨_, Lib.hid rfl⟩
  have hfu := Lib.hid (sa_full va vb (x := x2) (by rw [HQ.out, HO2.out]; exact HX2.out))
  have hno := Lib.hid (co_none va vb (x := x3) (by rw [HQ.out]; exact HX3.out))
  have hle : x2 ≤ 0 := by rw [← HX2.out, ← HQ.out, ← HO2.out]; exact cmpQ_le.2 (coD_le va vb)
  have hnn := hno.out.2
  clear va vb
  go_enter Tryz.func3, Tryz.ntmps3
  go_wp2_with fail
  have HX := BL.two w #[.int .i64 ia, .slice Aa la.length ca, .int .i64 fa, .int .i64 ta] #[.int .i64 ib, .slice Ab lb.length cb, .int .i64 fb, .int .i64 tb] 26 26
  replace hT := hT.ext HX.below
  replace EA := EA.ext HX.below
  replace EB := EB.ext HX.below
  refine (awake_any _ hT).mono ?_
  rintro e wA ⟨rfl, hb⟩
  replace HX := HX.ext hb
  replace hT := hT.ext hb
  replace EA := EA.ext hb
  replace EB := EB.ext hb
  clear hb
  have hc00 := HX.cell 0 0 rfl rfl
  have hc01 := HX.cell 0 1 rfl rfl
  have hc02 := HX.cell 0 2 rfl rfl
  have hc03 := HX.cell 0 3 rfl rfl
  try simp only [List.getElem_toArray, List.getElem_cons_zero, List.getElem_cons_succ] at hc00 hc01 hc02 hc03
  have hc10 := HX.cell 1 0 rfl rfl
  have hc11 := HX.cell 1 1 rfl rfl
  have hc12 := HX.cell 1 2 rfl rfl
  have hc13 := HX.cell 1 3 rfl rfl
  try simp only [List.getElem_toArray, List.getElem_cons_zero, List.getElem_cons_succ] at hc10 hc11 hc12 hc13
  have HLL := HL.lit wA 26 [⟨ia, Aa, ca, la, fa, ta⟩, ⟨ib, Ab, cb, lb, fb, tb⟩] #[.int .i64 ia, .slice Aa la.length ca, .int .i64 fa, .int .i64 ta, .int .i64 ib, .slice Ab lb.length cb, .int .i64 fb, .int .i64 tb] rfl (fun i x hx => by
    match i, hx with
    | 0, hx => simp at hx; subst hx; exact ⟨EA, hla⟩
    | 1, hx => simp at hx; subst hx; exact ⟨EB, hlb⟩
    | i + 2, hx => simp at hx)
  have hb := below_alloc wA (.cells #[.int .i64 ia, .slice Aa la.length ca, .int .i64 fa, .int .i64 ta, .int .i64 ib, .slice Ab lb.length cb, .int .i64 fb, .int .i64 tb] 26)
  have cF : Calls Tryz.prog 12 #[.slice (some ⟨wA.heap.size, 0, none⟩) 2 2] (wA.alloc (.cells #[.int .i64 ia, .slice Aa la.length ca, .int .i64 fa, .int .i64 ta, .int .i64 ib, .slice Ab lb.length cb, .int .i64 fb, .int .i64 tb] 26)) (RetB (wA.alloc (.cells #[.int .i64 ia, .slice Aa la.length ca, .int .i64 fa, .int .i64 ta, .int .i64 ib, .slice Ab lb.length cb, .int .i64 fb, .int .i64 tb] 26)) true) := by
    have h := few_any (some ⟨wA.heap.size, 0, none⟩) 2 [⟨ia, Aa, ca, la, fa, ta⟩, ⟨ib, Ab, cb, lb, fb, tb⟩] _ HLL (by simp)
    rw [hfew] at h
    exact h
  go_wp2_with fail
  refine cF.mono ?_
  rintro e wB ⟨rfl, hb2⟩
  replace hb := bel_trans hb hb2
  clear hb2 cF HLL hc00 hc01 hc02 hc03 hc10 hc11 hc12 hc13
  replace HX := HX.ext hb
  replace hT := hT.ext hb
  replace EA := EA.ext hb
  replace EB := EB.ext hb
  clear hb
  have hc00 := HX.cell 0 0 rfl rfl
  have hc01 := HX.cell 0 1 rfl rfl
  have hc02 := HX.cell 0 2 rfl rfl
  have hc03 := HX.cell 0 3 rfl rfl
  try simp only [List.getElem_toArray, List.getElem_cons_zero, List.getElem_cons_succ] at hc00 hc01 hc02 hc03
  have hc10 := HX.cell 1 0 rfl rfl
  have hc11 := HX.cell 1 1 rfl rfl
  have hc12 := HX.cell 1 2 rfl rfl
  have hc13 := HX.cell 1 3 rfl rfl
  try simp only [List.getElem_toArray, List.getElem_cons_zero, List.getElem_cons_succ] at hc10 hc11 hc12 hc13
  go_wp2_with fail
  refine (coeff_any Aa Ab ca cb la lb _ EA EB hla hlb VA.out VB.out HQ).mono ?_
  rintro e w1 ⟨A5, c5, B5, d5, rfl, F5, hb⟩
  clear hc00 hc01 hc02 hc03
  clear hc10 hc11 hc12 hc13
  replace HX := HX.ext hb
  replace hT := hT.ext hb
  replace EA := EA.ext hb
  replace EB := EB.ext hb
  clear hb
  go_upto_region 4 with fail
  have hb := below_alloc w1 (.cells #[.bool (sg q), .slice A5 (dig (nu q)).length c5, .slice B5 (dig q.den).length d5] 33)
  replace HX := HX.new #[.bool (sg q), .slice A5 (dig (nu q)).length c5, .slice B5 (dig q.den).length d5] 33
  simp only [List.cons_append, List.nil_append] at HX
  replace hT := hT.ext hb
  replace EA := EA.ext hb
  replace EB := EB.ext hb
  replace F5 := F5.ext hb
  clear hb
  generalize w1.alloc (.cells #[.bool (sg q), .slice A5 (dig (nu q)).length c5, .slice B5 (dig q.den).length d5] 33) = V1 at *
  generalize w1.heap.size = g1 at *
  have hc10 := HX.cell 1 0 rfl rfl
  have hc11 := HX.cell 1 1 rfl rfl
  have hc12 := HX.cell 1 2 rfl rfl
  have hc13 := HX.cell 1 3 rfl rfl
  try simp only [List.getElem_toArray, List.getElem_cons_zero, List.getElem_cons_succ] at hc10 hc11 hc12 hc13
  have hc00 := HX.cell 0 0 rfl rfl
  have hc01 := HX.cell 0 1 rfl rfl
  have hc02 := HX.cell 0 2 rfl rfl
  have hc03 := HX.cell 0 3 rfl rfl
  try simp only [List.getElem_toArray, List.getElem_cons_zero, List.getElem_cons_succ] at hc00 hc01 hc02 hc03
  go_wp2_with fail
  refine (coeff_any Ab Aa cb ca lb la _ EB EA hlb hla VB.out VA.out HQ2).mono ?_
  rintro e w2 ⟨A6, c6, B6, d6, rfl, F6, hb⟩
  clear hc10 hc11 hc12 hc13
  clear hc00 hc01 hc02 hc03
  replace HX := HX.ext hb
  replace hT := hT.ext hb
  replace EA := EA.ext hb
  replace EB := EB.ext hb
  replace F5 := F5.ext hb
  clear hb
  go_upto_region 5 with fail
  have hb := below_alloc w2 (.cells #[.bool (sg q), .slice A6 (dig (nu q)).length c6, .slice B6 (dig q.den).length d6] 33)
  replace HX := HX.new #[.bool (sg q), .slice A6 (dig (nu q)).length c6, .slice B6 (dig q.den).length d6] 33
  simp only [List.cons_append, List.nil_append] at HX
  replace hT := hT.ext hb
  replace EA := EA.ext hb
  replace EB := EB.ext hb
  replace F5 := F5.ext hb
  replace F6 := F6.ext hb
  clear hb
  generalize w2.alloc (.cells #[.bool (sg q), .slice A6 (dig (nu q)).length c6, .slice B6 (dig q.den).length d6] 33) = V2 at *
  generalize w2.heap.size = g2 at *
  have hc20 := HX.cell 2 0 rfl rfl
  have hc21 := HX.cell 2 1 rfl rfl
  have hc22 := HX.cell 2 2 rfl rfl
  try simp only [List.getElem_toArray, List.getElem_cons_zero, List.getElem_cons_succ] at hc20 hc21 hc22
  have hc30 := HX.cell 3 0 rfl rfl
  have hc31 := HX.cell 3 1 rfl rfl
  have hc32 := HX.cell 3 2 rfl rfl
  try simp only [List.getElem_toArray, List.getElem_cons_zero, List.getElem_cons_succ] at hc30 hc31 hc32
  go_wp2_with fail
  refine (bfrac_s F5 F6 (by omega) (by omega)).mono ?_
  rintro e w3 ⟨rfl, hb⟩
  clear hc20 hc21 hc22
  clear hc30 hc31 hc32
  replace HX := HX.ext hb
  replace hT := hT.ext hb
  replace EA := EA.ext hb
  replace EB := EB.ext hb
  replace F5 := F5.ext hb
  replace F6 := F6.ext hb
  clear hb
  clear F6
  have HEA := EA
  have HEB := EB
  have HF5 := F5
  obtain ⟨V3, hV3⟩ : ∃ V, V = w3 := ⟨_, rfl⟩
  have hbv : Below V3.heap.size V3 w3 := by rw [hV3]; exact Below.refl _ _
  rw [← hV3] at HEA HEB HF5
  clear hV3 F5 EA EB
  go_wp2
  go_loopg [9, 10, 11] 99 (fun gk s c i wr => ∃ k : Nat, k + gk = 99 ∧ s = .bool (saB la lb k) ∧ c = .bool (coB la lb k) ∧ i = .int .i64 ((k : Int) + 1) ∧ Below V3.heap.size V3 wr ∧ BL w wr [(w.heap.size, #[.int .i64 ia, .slice Aa la.length ca, .int .i64 fa, .int .i64 ta], 26), (w.heap.size + 1, #[.int .i64 ib, .slice Ab lb.length cb, .int .i64 fb, .int .i64 tb], 26), (g1, #[.bool (sg q), .slice A5 (dig (nu q)).length c5, .slice B5 (dig q.den).length d5], 33), (g2, #[.bool (sg q), .slice A6 (dig (nu q)).length c6, .slice B6 (dig q.den).length d6], 33)])
  case atStart => exact ⟨0, by omega, rfl, rfl, rfl, hbv, HX⟩
  case round =>
    clear HX hbv
    obtain ⟨k, hk, rfl, rfl, rfl, hbv, HX⟩ := hrel
    by_cases hk0 : k < 99
    · have EA := HEA.ext hbv
      have EB := HEB.ext hbv
      have hi1 : (k : Int) + 1 ≤ 99 := by omega
      obtain ⟨p, HP⟩ : ∃ q, Hid (shq la ((k : Int) + 1) = q) := ⟨_, Lib.hid rfl⟩
      obtain ⟨r, HR⟩ : ∃ q, Hid (shq lb ((k : Int) + 1) = q) := ⟨_, Lib.hid rfl⟩
      obtain ⟨s, H1⟩ : ∃ s, Hid (cmpQ p r = s) := ⟨_, Lib.hid rfl⟩
      obtain ⟨x, H2⟩ : ∃ s, Hid (sgn p = s) := ⟨_, Lib.hid rfl⟩
      obtain ⟨y, H3⟩ : ∃ s, Hid (sgn r = s) := ⟨_, Lib.hid rfl⟩
      have hs1 := Lib.hid (saB_succ la lb k)
      have hc1 := Lib.hid (coB_succ la lb k)
      have e1 := Lib.hid (share_cmp VA.out VB.out (t := (k : Int) + 1) (s := s) (by rw [HP.out, HR.out]; exact H1.out))
      have e2 := Lib.hid (share_sgn VA.out (t := (k : Int) + 1) (x := x) (by rw [HP.out]; exact H2.out))
      have e3 := Lib.hid (share_sgn VB.out (t := (k : Int) + 1) (x := y) (by rw [HR.out]; exact H3.out))
      obtain ⟨V4, hV4⟩ : ∃ V, wr = V := ⟨_, rfl⟩
      rw [hV4] at HX hbv EA EB ⊢
      clear hV4
      have HV : BL V3 V4 [] := ⟨hbv, fun i p hp => by simp at hp⟩
      have hc00 := HX.cell 0 0 rfl rfl
      have hc01 := HX.cell 0 1 rfl rfl
      have hc02 := HX.cell 0 2 rfl rfl
      have hc03 := HX.cell 0 3 rfl rfl
      try simp only [List.getElem_toArray, List.getElem_cons_zero, List.getElem_cons_succ] at hc00 hc01 hc02 hc03
      go_wp2_with fail
      refine (hshare_yes Aa ca la _ EA hla VA.out HP).mono ?_
      rintro e w5 ⟨A8, c8, B8, d8, rfl, F8, hb⟩
      clear hc00 hc01 hc02 hc03
      replace HX := HX.ext hb
      replace EB := EB.ext hb
      replace HV := HV.ext hb
      clear hb
      go_upto_region 14 with fail
      have hb := below_alloc w5 (.cells #[.bool (sg p), .slice A8 (dig (nu p)).length c8, .slice B8 (dig p.den).length d8] 33)
      replace HX := HX.new #[.bool (sg p), .slice A8 (dig (nu p)).length c8, .slice B8 (dig p.den).length d8] 33
      simp only [List.cons_append, List.nil_append] at HX
      replace EB := EB.ext hb
      replace HV := HV.ext hb
      replace F8 := F8.ext hb
      clear hb
      generalize w5.alloc (.cells #[.bool (sg p), .slice A8 (dig (nu p)).length c8, .slice B8 (dig p.den).length d8] 33) = V5 at *
      generalize w5.heap.size = g5 at *
      have hc10 := HX.cell 1 0 rfl rfl
      have hc11 := HX.cell 1 1 rfl rfl
      have hc12 := HX.cell 1 2 rfl rfl
      have hc13 := HX.cell 1 3 rfl rfl
      try simp only [List.getElem_toArray, List.getElem_cons_zero, List.getElem_cons_succ] at hc10 hc11 hc12 hc13
      go_wp2_with fail
      refine (hshare_yes Ab cb lb _ EB hlb VB.out HR).mono ?_
      rintro e w6 ⟨A9, c9, B9, d9, rfl, F9, hb⟩
      clear hc10 hc11 hc12 hc13
      replace HX := HX.ext hb
      replace EB := EB.ext hb
      replace HV := HV.ext hb
      replace F8 := F8.ext hb
      clear hb
      go_upto_region 15 with fail
      have hb := below_alloc w6 (.cells #[.bool (sg r), .slice A9 (dig (nu r)).length c9, .slice B9 (dig r.den).length d9] 33)
      replace HX := HX.new #[.bool (sg r), .slice A9 (dig (nu r)).length c9, .slice B9 (dig r.den).length d9] 33
      simp only [List.cons_append, List.nil_append] at HX
      replace EB := EB.ext hb
      replace HV := HV.ext hb
      replace F8 := F8.ext hb
      replace F9 := F9.ext hb
      clear hb
      generalize w6.alloc (.cells #[.bool (sg r), .slice A9 (dig (nu r)).length c9, .slice B9 (dig r.den).length d9] 33) = V6 at *
      generalize w6.heap.size = g6 at *
      cases hsa : saB la lb k with
      | true =>
        have hc40 := HX.cell 4 0 rfl rfl
        have hc41 := HX.cell 4 1 rfl rfl
        have hc42 := HX.cell 4 2 rfl rfl
        try simp only [List.getElem_toArray, List.getElem_cons_zero, List.getElem_cons_succ] at hc40 hc41 hc42
        have hc50 := HX.cell 5 0 rfl rfl
        have hc51 := HX.cell 5 1 rfl rfl
        have hc52 := HX.cell 5 2 rfl rfl
        try simp only [List.getElem_toArray, List.getElem_cons_zero, List.getElem_cons_succ] at hc50 hc51 hc52
        go_wp2_with fail
        refine (fcmp_h H1 F8.fr F9.fr (by omega) (by omega)).mono ?_
        rintro e w7 ⟨rfl, hb⟩
        clear hc40 hc41 hc42
        clear hc50 hc51 hc52
        replace HX := HX.ext hb
        replace HV := HV.ext hb
        replace F8 := F8.ext hb
        replace F9 := F9.ext hb
        clear hb
        cases hco : coB la lb k with
        | true =>
          replace HX := HX.front 4
          simp only [List.take_succ_cons, List.take_zero] at HX
          go_wp2
          go_roundg (99 - (k + 1))
          case measure => omega
          case rel => exact ⟨k + 1, by omega, by rw [hs1.out, hsa, e1.out]; first | rfl | simp, by rw [hc1.out, hco]; first | rfl | simp, by go_num, HV.below, HX⟩
        | false =>
          have hc40 := HX.cell 4 0 rfl rfl
          have hc41 := HX.cell 4 1 rfl rfl
          have hc42 := HX.cell 4 2 rfl rfl
          try simp only [List.getElem_toArray, List.getElem_cons_zero, List.getElem_cons_succ] at hc40 hc41 hc42
          go_wp2_with fail
          refine (fsign_h H2 F8.fr (by omega)).mono ?_
          rintro e w8 ⟨rfl, hb⟩
          clear hc40 hc41 hc42
          replace HX := HX.ext hb
          replace HV := HV.ext hb
          replace F9 := F9.ext hb
          clear hb
          by_cases hx0 : 0 < x
          · have hxd : decide (0 < x) = true := decide_eq_true hx0
            have hc50 := HX.cell 5 0 rfl rfl
            have hc51 := HX.cell 5 1 rfl rfl
            have hc52 := HX.cell 5 2 rfl rfl
            try simp only [List.getElem_toArray, List.getElem_cons_zero, List.getElem_cons_succ] at hc50 hc51 hc52
            go_wp2_with fail
            refine (fsign_h H3 F9.fr (by omega)).mono ?_
            rintro e w9 ⟨rfl, hb⟩
            clear hc50 hc51 hc52
            replace HX := HX.ext hb
            replace HV := HV.ext hb
            clear hb
            replace HX := HX.front 4
            simp only [List.take_succ_cons, List.take_zero] at HX
            go_wp2
            go_roundg (99 - (k + 1))
            case measure => omega
            case rel => exact ⟨k + 1, by omega, by rw [hs1.out, hsa, e1.out]; first | rfl | simp, by rw [hc1.out, hco, Bool.false_or, Value.bool.injEq]; exact decide_eq_decide.2 (by have := e2.out; have := e3.out; omega), by go_num, HV.below, HX⟩
          · have hxd : decide (0 < x) = false := decide_eq_false hx0
            replace HX := HX.front 4
            simp only [List.take_succ_cons, List.take_zero] at HX
            go_wp2
            go_roundg (99 - (k + 1))
            case measure => omega
            case rel => exact ⟨k + 1, by omega, by rw [hs1.out, hsa, e1.out]; first | rfl | simp, by rw [hc1.out, hco, Bool.false_or, Value.bool.injEq]; first | exact (decide_eq_false (by have := e2.out; omega)).symm | rfl, by go_num, HV.below, HX⟩
      | false =>
        cases hco : coB la lb k with
        | true =>
          replace HX := HX.front 4
          simp only [List.take_succ_cons, List.take_zero] at HX
          go_wp2
          go_roundg (99 - (k + 1))
          case measure => omega
          case rel => exact ⟨k + 1, by omega, by rw [hs1.out, hsa]; first | rfl | simp, by rw [hc1.out, hco]; first | rfl | simp, by go_num, HV.below, HX⟩
        | false =>
          have hc40 := HX.cell 4 0 rfl rfl
          have hc41 := HX.cell 4 1 rfl rfl
          have hc42 := HX.cell 4 2 rfl rfl
          try simp only [List.getElem_toArray, List.getElem_cons_zero, List.getElem_cons_succ] at hc40 hc41 hc42
          go_wp2_with fail
          refine (fsign_h H2 F8.fr (by omega)).mono ?_
          rintro e w8 ⟨rfl, hb⟩
          clear hc40 hc41 hc42
          replace HX := HX.ext hb
          replace HV := HV.ext hb
          replace F9 := F9.ext hb
          clear hb
          by_cases hx0 : 0 < x
          · have hxd : decide (0 < x) = true := decide_eq_true hx0
            have hc50 := HX.cell 5 0 rfl rfl
            have hc51 := HX.cell 5 1 rfl rfl
            have hc52 := HX.cell 5 2 rfl rfl
            try simp only [List.getElem_toArray, List.getElem_cons_zero, List.getElem_cons_succ] at hc50 hc51 hc52
            go_wp2_with fail
            refine (fsign_h H3 F9.fr (by omega)).mono ?_
            rintro e w9 ⟨rfl, hb⟩
            clear hc50 hc51 hc52
            replace HX := HX.ext hb
            replace HV := HV.ext hb
            clear hb
            replace HX := HX.front 4
            simp only [List.take_succ_cons, List.take_zero] at HX
            go_wp2
            go_roundg (99 - (k + 1))
            case measure => omega
            case rel => exact ⟨k + 1, by omega, by rw [hs1.out, hsa]; first | rfl | simp, by rw [hc1.out, hco, Bool.false_or, Value.bool.injEq]; exact decide_eq_decide.2 (by have := e2.out; have := e3.out; omega), by go_num, HV.below, HX⟩
          · have hxd : decide (0 < x) = false := decide_eq_false hx0
            replace HX := HX.front 4
            simp only [List.take_succ_cons, List.take_zero] at HX
            go_wp2
            go_roundg (99 - (k + 1))
            case measure => omega
            case rel => exact ⟨k + 1, by omega, by rw [hs1.out, hsa]; first | rfl | simp, by rw [hc1.out, hco, Bool.false_or, Value.bool.injEq]; first | exact (decide_eq_false (by have := e2.out; omega)).symm | rfl, by go_num, HV.below, HX⟩
    · obtain rfl : k = 99 := by omega
      have F5 := HF5.ext hbv
      obtain ⟨b1, hb1⟩ : ∃ b, saB la lb 99 = b := ⟨_, rfl⟩
      obtain ⟨b2, hb2⟩ : ∃ b, coB la lb 99 = b := ⟨_, rfl⟩
      have hf1 : (x2 == 0) = b1 := hfu.out.trans hb1
      have hf2 : decide (0 < x3) = b2 := hno.out.1.trans hb2
      rw [hb1, hb2]
      clear hb1 hb2 HEA HEB
      have hd1 : decide (x2 ≤ 0) = true := decide_eq_true hle
      have hd2 : decide (0 ≤ x3) = true := decide_eq_true hnn
      go_upto_region 19 with fail
      have held : ∀ {W' : World}, BL w W' [(w.heap.size, #[.int .i64 ia, .slice Aa la.length ca, .int .i64 fa, .int .i64 ta], 26), (w.heap.size + 1, #[.int .i64 ib, .slice Ab lb.length cb, .int .i64 fb, .int .i64 tb], 26), (g1, #[.bool (sg q), .slice A5 (dig (nu q)).length c5, .slice B5 (dig q.den).length d5], 33), (g2, #[.bool (sg q), .slice A6 (dig (nu q)).length c6, .slice B6 (dig q.den).length d6], 33)] → W'.cell? ⟨g1, 0, none⟩ = some (.bool (sg q)) ∧ W'.cell? ⟨g1, 1, none⟩ = some (.slice A5 (dig (nu q)).length c5) ∧ W'.cell? ⟨g1, 2, none⟩ = some (.slice B5 (dig q.den).length d5) := fun h => ⟨h.cell 2 0 rfl rfl, h.cell 2 1 rfl rfl, h.cell 2 2 rfl rfl⟩
      go_cut [16, 17] (fun u v wx => u = .int .i64 x2 ∧ v = .int .i64 x3 ∧ Below w.heap.size w wx)
      case first =>
        replace HX := HX.ext (drew_ext _)
        replace F5 := F5.ext (drew_ext _)
        go_region_held3 (fun W' => W'.cell? ⟨g1, 0, none⟩ = some (.bool (sg q)) ∧ W'.cell? ⟨g1, 1, none⟩ = some (.slice A5 (dig (nu q)).length c5) ∧ W'.cell? ⟨g1, 2, none⟩ = some (.slice B5 (dig q.den).length d5))
          (exact held HX)
          (first
            | (go_at_call 19; refine (fofq (by decide) HO2 (by decide) (by decide) (by decide)).mono ?_; rintro e wz ⟨A7, c7, B7, d7, rfl, F7, hb⟩; replace HX := HX.ext hb; replace F5 := F5.ext hb; clear hb)
            | (go_at_call 17; refine (fcmp_h HX2 F5.fr F7.fr (by omega) (by omega)).mono ?_; rintro e wz ⟨rfl, hb⟩; replace HX := HX.ext hb; replace F5 := F5.ext hb; (try replace F7 := F7.ext hb); clear hb)
            | (go_at_call 18; refine (fsign_h HX3 F5.fr (by omega)).mono ?_; rintro e wz ⟨rfl, hb⟩; replace HX := HX.ext hb; replace F5 := F5.ext hb; (try replace F7 := F7.ext hb); clear hb))
        all_goals (
          go_wp2_with fail
          go_meet
          case rel => exact ⟨rfl, rfl, HX.below⟩)
      case rest =>
        obtain ⟨rfl, rfl, hb⟩ := hcut
        cases b1 <;> cases b2 <;> (go_wp2; go_ret; exact ⟨by first | rfl | simp, hb⟩)
set_option maxHeartbeats 1000000 in
set_option maxRecDepth 100000 in
theorem range_any {ia fa ta ib fb tb : Int} {Aa Ab : Option Addr} {ca cb : Nat} {la lb : List (Int × Int)} (w : World) (hT : Tab w) (EA : Es w Aa la) (hla : la.length ≤ 9223372036854775807) (EB : Es w Ab lb) (hlb : lb.length ≤ 9223372036854775807) :
    Calls Tryz.prog 3 #[.agg #[.int .i64 ia, .slice Aa la.length ca, .int .i64 fa, .int .i64 ta], .agg #[.int .i64 ib, .slice Ab lb.length cb, .int .i64 fb, .int .i64 tb]] w (RetB w true) := by
  cases hfew : fewS [⟨ia, Aa, ca, la, fa, ta⟩, ⟨ib, Ab, cb, lb, fb, tb⟩] with
  | false => exact rg_few w hT EA hla EB hlb hfew
  | true =>
    by_cases va : HV ia la fa ta
    · by_cases vb : HV ib lb fb tb
      · exact rg_ok w hT EA hla EB hlb hfew va vb
      · exact rg_b w hT EA hla EB hlb hfew va vb
    · exact rg_a w hT EA hla EB hlb hfew va
end Go.Proofs.YthempimelfmipaaGreatDoor
