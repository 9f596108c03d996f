/- The statements HoardLatest and HoardNumbers: their walks. -/
import Derived.Test.YtajddhkepbnilaaDoorHaw
namespace Go.Proofs.YtajddhkepbnilaaDoor
open Go.RowKit Go.Proofs Go

set_option maxHeartbeats 1000000 in
set_option maxRecDepth 100000 in
theorem hlatest_few {ia fa ta : Int} {Aa : Option Addr} {ca : Nat} {la : List (Int × Int)} {At : Option Addr} {ct : Nat} {ts : List (Int × Int)} (w : World) (hT : Tab w) (Ea : Es w Aa la) (hla : la.length ≤ 9223372036854775807) (Et : Es w At ts) (hts : ts.length ≤ 9223372036854775807) (hlens : Hid (∀ x ∈ [(HE.mk ia Aa la.length ca fa ta)], x.n ≤ 9223372036854775807)) (hfew : Hid (fewH [(HE.mk ia Aa la.length ca fa ta)] = false)) :
    Calls Tryd.prog 4 #[.agg #[.int .i64 ia, .slice Aa la.length ca, .int .i64 fa, .int .i64 ta], .slice At ts.length ct] w (RetB w true) := by
  go_enter Tryd.func4, Tryd.ntmps4
  go_wp2_with fail
  have HX := BL.one w #[.int .i64 ia, .slice Aa la.length ca, .int .i64 fa, .int .i64 ta] 26
  replace hT := hT.ext HX.below
  replace Ea := Ea.ext HX.below
  replace Et := Et.ext HX.below
  refine (hawake_any _ hT).mono ?_
  rintro e w1 ⟨rfl, hb⟩
  replace HX := HX.ext hb
  replace hT := hT.ext hb
  replace Ea := Ea.ext hb
  replace Et := Et.ext hb
  clear hb
  have hc00 := HX.cell 0 0 rfl rfl
  have hc01 := HX.cell 0 1 rfl rfl
  have hc02 := HX.cell 0 2 rfl rfl
  have hc03 := HX.cell 0 3 rfl rfl
  try simp only [List.getElem_toArray, List.getElem_cons_zero, List.getElem_cons_succ] at hc00 hc01 hc02 hc03
  go_wp2_with fail
  have hfs := HFS.lit w1 26 [(HE.mk ia Aa la.length ca fa ta)] #[.int .i64 ia, .slice Aa la.length ca, .int .i64 fa, .int .i64 ta] rfl
  refine (hfew_any _ 1 1 _ _ hfs rfl (by omega) hlens.out).mono ?_
  rintro e w2 ⟨rfl, rfl⟩
  rw [hfew.out]
  have hb := below_alloc w1 (.cells #[.int .i64 ia, .slice Aa la.length ca, .int .i64 fa, .int .i64 ta] 26)
  clear hfs
  clear hc00 hc01 hc02 hc03
  replace HX := HX.ext hb
  replace hT := hT.ext hb
  replace Ea := Ea.ext hb
  replace Et := Et.ext hb
  clear hb
  generalize w1.alloc (.cells #[.int .i64 ia, .slice Aa la.length ca, .int .i64 fa, .int .i64 ta] 26) = w2 at *
  go_wp2_with fail
  refine (hawake_any _ hT).mono ?_
  rintro e w3 ⟨rfl, hb⟩
  replace HX := HX.ext hb
  go_wp2
  go_ret
  exact ⟨by first | rfl | simp, HX.below⟩
set_option maxHeartbeats 4000000 in
set_option maxRecDepth 100000 in
theorem hlatest_yes {ia fa ta : Int} {Aa : Option Addr} {ca : Nat} {la : List (Int × Int)} {At : Option Addr} {ct : Nat} {ts : List (Int × Int)} (w : World) (hT : Tab w) (Ea : Es w Aa la) (hla : la.length ≤ 9223372036854775807) (Et : Es w At ts) (hts : ts.length ≤ 9223372036854775807) (hlens : Hid (∀ x ∈ [(HE.mk ia Aa la.length ca fa ta)], x.n ≤ 9223372036854775807)) (hfew : Hid (fewH [(HE.mk ia Aa la.length ca fa ta)] = true)) (mla : la.length ≤ 40) :
    Calls Tryd.prog 4 #[.agg #[.int .i64 ia, .slice Aa la.length ca, .int .i64 fa, .int .i64 ta], .slice At ts.length ct] w (RetB w true) := by
  obtain ⟨r, err, hr⟩ := LateIs.ex ia la fa ta ts
  by_cases h120 : 120 < ts.length
  · have h120b : decide ((120 : Int) < (ts.length : Int)) = true := decide_eq_true (by omega)
    clear hr
    go_enter Tryd.func4, Tryd.ntmps4
    go_wp2_with fail
    have HX := BL.one w #[.int .i64 ia, .slice Aa la.length ca, .int .i64 fa, .int .i64 ta] 26
    replace hT := hT.ext HX.below
    replace Ea := Ea.ext HX.below
    replace Et := Et.ext HX.below
    refine (hawake_any _ hT).mono ?_
    rintro e w1 ⟨rfl, hb⟩
    replace HX := HX.ext hb
    replace hT := hT.ext hb
    replace Ea := Ea.ext hb
    replace Et := Et.ext hb
    clear hb
    have hc00 := HX.cell 0 0 rfl rfl
    have hc01 := HX.cell 0 1 rfl rfl
    have hc02 := HX.cell 0 2 rfl rfl
    have hc03 := HX.cell 0 3 rfl rfl
    try simp only [List.getElem_toArray, List.getElem_cons_zero, List.getElem_cons_succ] at hc00 hc01 hc02 hc03
    go_wp2_with fail
    have hfs := HFS.lit w1 26 [(HE.mk ia Aa la.length ca fa ta)] #[.int .i64 ia, .slice Aa la.length ca, .int .i64 fa, .int .i64 ta] rfl
    refine (hfew_any _ 1 1 _ _ hfs rfl (by omega) hlens.out).mono ?_
    rintro e w2 ⟨rfl, rfl⟩
    rw [hfew.out]
    have hb := below_alloc w1 (.cells #[.int .i64 ia, .slice Aa la.length ca, .int .i64 fa, .int .i64 ta] 26)
    clear hfs
    clear hc00 hc01 hc02 hc03
    replace HX := HX.ext hb
    replace hT := hT.ext hb
    replace Ea := Ea.ext hb
    replace Et := Et.ext hb
    clear hb
    generalize w1.alloc (.cells #[.int .i64 ia, .slice Aa la.length ca, .int .i64 fa, .int .i64 ta] 26) = w2 at *
    go_wp2_with fail
    refine (hawake_any _ hT).mono ?_
    rintro e w3 ⟨rfl, hb⟩
    replace HX := HX.ext hb
    go_wp2
    go_ret
    exact ⟨by first | rfl | simp, HX.below⟩
  · have h120b : decide ((120 : Int) < (ts.length : Int)) = false := decide_eq_false (by omega)
    go_enter Tryd.func4, Tryd.ntmps4
    go_wp2_with fail
    have HX := BL.one w #[.int .i64 ia, .slice Aa la.length ca, .int .i64 fa, .int .i64 ta] 26
    replace hT := hT.ext HX.below
    replace Ea := Ea.ext HX.below
    replace Et := Et.ext HX.below
    refine (hawake_any _ hT).mono ?_
    rintro e w1 ⟨rfl, hb⟩
    replace HX := HX.ext hb
    replace hT := hT.ext hb
    replace Ea := Ea.ext hb
    replace Et := Et.ext hb
    clear hb
    have hc00 := HX.cell 0 0 rfl rfl
    have hc01 := HX.cell 0 1 rfl rfl
    have hc02 := HX.cell 0 2 rfl rfl
    have hc03 := HX.cell 0 3 rfl rfl
    try simp only [List.getElem_toArray, List.getElem_cons_zero, List.getElem_cons_succ] at hc00 hc01 hc02 hc03
    go_wp2_with fail
    have hfs := HFS.lit w1 26 [(HE.mk ia Aa la.length ca fa ta)] #[.int .i64 ia, .slice Aa la.length ca, .int .i64 fa, .int .i64 ta] rfl
    refine (hfew_any _ 1 1 _ _ hfs rfl (by omega) hlens.out).mono ?_
    rintro e w2 ⟨rfl, rfl⟩
    rw [hfew.out]
    have hb := below_alloc w1 (.cells #[.int .i64 ia, .slice Aa la.length ca, .int .i64 fa, .int .i64 ta] 26)
    clear hfs
    clear hc00 hc01 hc02 hc03
    replace HX := HX.ext hb
    replace hT := hT.ext hb
    replace Ea := Ea.ext hb
    replace Et := Et.ext hb
    clear hb
    generalize w1.alloc (.cells #[.int .i64 ia, .slice Aa la.length ca, .int .i64 fa, .int .i64 ta] 26) = w2 at *
    clear hlens hfew
    have hc00 := HX.cell 0 0 rfl rfl
    have hc01 := HX.cell 0 1 rfl rfl
    have hc02 := HX.cell 0 2 rfl rfl
    have hc03 := HX.cell 0 3 rfl rfl
    try simp only [List.getElem_toArray, List.getElem_cons_zero, List.getElem_cons_succ] at hc00 hc01 hc02 hc03
    go_wp2_with fail
    refine (hlate_any _ _ _ _ la ts _ Ea Et hla hts hr).mono ?_
    rintro e w3 ⟨rfl, hb⟩
    clear hc00 hc01 hc02 hc03
    replace HX := HX.ext hb
    replace hT := hT.ext hb
    replace Ea := Ea.ext hb
    replace Et := Et.ext hb
    clear hb
    have hc00 := HX.cell 0 0 rfl rfl
    have hc01 := HX.cell 0 1 rfl rfl
    have hc02 := HX.cell 0 2 rfl rfl
    have hc03 := HX.cell 0 3 rfl rfl
    try simp only [List.getElem_toArray, List.getElem_cons_zero, List.getElem_cons_succ] at hc00 hc01 hc02 hc03
    go_wp2_with fail
    refine (rlate_any _ _ _ _ la ts _ Ea Et hla hts hr).mono ?_
    rintro e w4 ⟨rfl, hb⟩
    clear hc00 hc01 hc02 hc03
    replace HX := HX.ext hb
    replace hT := hT.ext hb
    replace Ea := Ea.ext hb
    replace Et := Et.ext hb
    clear hb
    have hs1 : (r == r) = true := beq_self_eq_true _
    have hs2 : (err == err) = true := beq_self_eq_true _
    go_wp2
    go_ret
    exact ⟨by first | rfl | simp, HX.below⟩
theorem hlatest_any {ia fa ta : Int} {Aa : Option Addr} {ca : Nat} {la : List (Int × Int)} {At : Option Addr} {ct : Nat} {ts : List (Int × Int)} (w : World) (hT : Tab w) (Ea : Es w Aa la) (hla : la.length ≤ 9223372036854775807) (Et : Es w At ts) (hts : ts.length ≤ 9223372036854775807) :
    Calls Tryd.prog 4 #[.agg #[.int .i64 ia, .slice Aa la.length ca, .int .i64 fa, .int .i64 ta], .slice At ts.length ct] w (RetB w true) := by
  have hlens : ∀ x ∈ [(HE.mk ia Aa la.length ca fa ta)], x.n ≤ 9223372036854775807 := by
    intro x hx
    simp only [List.mem_cons, List.not_mem_nil, or_false] at hx
    subst hx; exact hla
  cases hf : fewH [(HE.mk ia Aa la.length ca fa ta)]
  · exact hlatest_few w hT Ea hla Et hts (Lib.hid hlens) (Lib.hid hf)
  · have hf2 := hf
    simp only [fewH, List.all_cons, List.all_nil, Bool.and_true, Bool.and_eq_true, decide_eq_true_eq] at hf2
    exact hlatest_yes w hT Ea hla Et hts (Lib.hid hlens) (Lib.hid hf) (by omega)
set_option maxHeartbeats 1000000 in
set_option maxRecDepth 100000 in
theorem hnumbers_few {ia fa ta : Int} {Aa : Option Addr} {ca : Nat} {la : List (Int × Int)} {s : Int} (w : World) (hT : Tab w) (Ea : Es w Aa la) (hla : la.length ≤ 9223372036854775807) (hlens : Hid (∀ x ∈ [(HE.mk ia Aa la.length ca fa ta)], x.n ≤ 9223372036854775807)) (hfew : Hid (fewH [(HE.mk ia Aa la.length ca fa ta)] = false)) :
    Calls Tryd.prog 3 #[.agg #[.int .i64 ia, .slice Aa la.length ca, .int .i64 fa, .int .i64 ta], .int .i64 s] w (RetB w true) := by
  go_enter Tryd.func3, Tryd.ntmps3
  go_wp2_with fail
  have HX := BL.one w #[.int .i64 ia, .slice Aa la.length ca, .int .i64 fa, .int .i64 ta] 26
  replace hT := hT.ext HX.below
  replace Ea := Ea.ext HX.below
  refine (hawake_any _ hT).mono ?_
  rintro e w1 ⟨rfl, hb⟩
  replace HX := HX.ext hb
  replace hT := hT.ext hb
  replace Ea := Ea.ext hb
  clear hb
  have hc00 := HX.cell 0 0 rfl rfl
  have hc01 := HX.cell 0 1 rfl rfl
  have hc02 := HX.cell 0 2 rfl rfl
  have hc03 := HX.cell 0 3 rfl rfl
  try simp only [List.getElem_toArray, List.getElem_cons_zero, List.getElem_cons_succ] at hc00 hc01 hc02 hc03
  go_wp2_with fail
  have hfs := HFS.lit w1 26 [(HE.mk ia Aa la.length ca fa ta)] #[.int .i64 ia, .slice Aa la.length ca, .int .i64 fa, .int .i64 ta] rfl
  refine (hfew_any _ 1 1 _ _ hfs rfl (by omega) hlens.out).mono ?_
  rintro e w2 ⟨rfl, rfl⟩
  rw [hfew.out]
  have hb := below_alloc w1 (.cells #[.int .i64 ia, .slice Aa la.length ca, .int .i64 fa, .int .i64 ta] 26)
  clear hfs
  clear hc00 hc01 hc02 hc03
  replace HX := HX.ext hb
  replace hT := hT.ext hb
  replace Ea := Ea.ext hb
  clear hb
  generalize w1.alloc (.cells #[.int .i64 ia, .slice Aa la.length ca, .int .i64 fa, .int .i64 ta] 26) = w2 at *
  go_wp2_with fail
  refine (hawake_any _ hT).mono ?_
  rintro e w3 ⟨rfl, hb⟩
  replace HX := HX.ext hb
  go_wp2
  go_ret
  exact ⟨by first | rfl | simp, HX.below⟩
set_option maxHeartbeats 4000000 in
set_option maxRecDepth 100000 in
theorem hnumbers_ok_yes {ia fa ta : Int} {Aa : Option Addr} {ca : Nat} {la : List (Int × Int)} {s : Int} (w : World) (hT : Tab w) (Ea : Es w Aa la) (hla : la.length ≤ 9223372036854775807) (hlens : Hid (∀ x ∈ [(HE.mk ia Aa la.length ca fa ta)], x.n ≤ 9223372036854775807)) (hfew : Hid (fewH [(HE.mk ia Aa la.length ca fa ta)] = true)) (mla : la.length ≤ 40) (hv : HV ia la fa ta) :
    Calls Tryd.prog 3 #[.agg #[.int .i64 ia, .slice Aa la.length ca, .int .i64 fa, .int .i64 ta], .int .i64 s] w (RetB w true) := by
  obtain ⟨n, hn⟩ := NumIs.ex ia la fa ta s
  obtain ⟨m, hm⟩ := TotIs.ex ia la fa ta
  obtain ⟨q, HQ⟩ : ∃ q, Hid (shq la s = q) := ⟨_, Lib.hid rfl⟩
  have HVH := Lib.hid hv
  clear hv
  go_enter Tryd.func3, Tryd.ntmps3
  go_wp2_with fail
  have HX := BL.one w #[.int .i64 ia, .slice Aa la.length ca, .int .i64 fa, .int .i64 ta] 26
  replace hT := hT.ext HX.below
  replace Ea := Ea.ext HX.below
  refine (hawake_any _ hT).mono ?_
  rintro e w1 ⟨rfl, hb⟩
  replace HX := HX.ext hb
  replace hT := hT.ext hb
  replace Ea := Ea.ext hb
  clear hb
  have hc00 := HX.cell 0 0 rfl rfl
  have hc01 := HX.cell 0 1 rfl rfl
  have hc02 := HX.cell 0 2 rfl rfl
  have hc03 := HX.cell 0 3 rfl rfl
  try simp only [List.getElem_toArray, List.getElem_cons_zero, List.getElem_cons_succ] at hc00 hc01 hc02 hc03
  go_wp2_with fail
  have hfs := HFS.lit w1 26 [(HE.mk ia Aa la.length ca fa ta)] #[.int .i64 ia, .slice Aa la.length ca, .int .i64 fa, .int .i64 ta] rfl
  refine (hfew_any _ 1 1 _ _ hfs rfl (by omega) hlens.out).mono ?_
  rintro e w2 ⟨rfl, rfl⟩
  rw [hfew.out]
  have hb := below_alloc w1 (.cells #[.int .i64 ia, .slice Aa la.length ca, .int .i64 fa, .int .i64 ta] 26)
  clear hfs
  clear hc00 hc01 hc02 hc03
  replace HX := HX.ext hb
  replace hT := hT.ext hb
  replace Ea := Ea.ext hb
  clear hb
  generalize w1.alloc (.cells #[.int .i64 ia, .slice Aa la.length ca, .int .i64 fa, .int .i64 ta] 26) = w2 at *
  clear hlens hfew
  have hc00 := HX.cell 0 0 rfl rfl
  have hc01 := HX.cell 0 1 rfl rfl
  have hc02 := HX.cell 0 2 rfl rfl
  have hc03 := HX.cell 0 3 rfl rfl
  try simp only [List.getElem_toArray, List.getElem_cons_zero, List.getElem_cons_succ] at hc00 hc01 hc02 hc03
  go_wp2_with fail
  refine (hshare_yes _ _ la _ Ea hla HVH.out HQ).mono ?_
  rintro e w3 ⟨A3, c3, B3, d3, rfl, F3, hb⟩
  clear hc00 hc01 hc02 hc03
  replace HX := HX.ext hb
  replace hT := hT.ext hb
  replace Ea := Ea.ext hb
  clear hb
  go_upto_region 4 with fail
  have hlg30 := HX.lt 0 rfl
  simp only [] at hlg30
  have hb := below_alloc w3 (.cells #[.bool (sg q), .slice A3 (dig (nu q)).length c3, .slice B3 (dig q.den).length d3] 33)
  replace HX := HX.new #[.bool (sg q), .slice A3 (dig (nu q)).length c3, .slice B3 (dig q.den).length d3] 33
  simp only [List.cons_append, List.nil_append] at HX
  replace hT := hT.ext hb
  replace Ea := Ea.ext hb
  replace F3 := F3.ext hb
  clear hb
  generalize w3.alloc (.cells #[.bool (sg q), .slice A3 (dig (nu q)).length c3, .slice B3 (dig q.den).length d3] 33) = W3 at *
  generalize w3.heap.size = g3 at *
  have hc00 := HX.cell 0 0 rfl rfl
  have hc01 := HX.cell 0 1 rfl rfl
  have hc02 := HX.cell 0 2 rfl rfl
  have hc03 := HX.cell 0 3 rfl rfl
  try simp only [List.getElem_toArray, List.getElem_cons_zero, List.getElem_cons_succ] at hc00 hc01 hc02 hc03
  go_wp2_with fail
  refine (rshare_yes _ _ la _ Ea hla HVH.out HQ).mono ?_
  rintro e w4 ⟨A4, c4, B4, d4, rfl, F4, hb⟩
  clear hc00 hc01 hc02 hc03
  replace HX := HX.ext hb
  replace hT := hT.ext hb
  replace Ea := Ea.ext hb
  replace F3 := F3.ext hb
  clear hb
  go_upto_region 5 with fail
  have hlg40 := HX.lt 0 rfl
  simp only [] at hlg40
  have hlg41 := HX.lt 1 rfl
  simp only [] at hlg41
  have hb := below_alloc w4 (.cells #[.bool (sg q), .slice A4 (dig (nu q)).length c4, .slice B4 (dig q.den).length d4] 33)
  replace HX := HX.new #[.bool (sg q), .slice A4 (dig (nu q)).length c4, .slice B4 (dig q.den).length d4] 33
  simp only [List.cons_append, List.nil_append] at HX
  replace hT := hT.ext hb
  replace Ea := Ea.ext hb
  replace F3 := F3.ext hb
  replace F4 := F4.ext hb
  clear hb
  generalize w4.alloc (.cells #[.bool (sg q), .slice A4 (dig (nu q)).length c4, .slice B4 (dig q.den).length d4] 33) = W4 at *
  generalize w4.heap.size = g4 at *
  have held : ∀ {W' : World}, BL w W' [(w.heap.size, #[.int .i64 ia, .slice Aa la.length ca, .int .i64 fa, .int .i64 ta], 26), (g3, #[.bool (sg q), .slice A3 (dig (nu q)).length c3, .slice B3 (dig q.den).length d3], 33), (g4, #[.bool (sg q), .slice A4 (dig (nu q)).length c4, .slice B4 (dig q.den).length d4], 33)] → W'.cell? ⟨w.heap.size, 0, none⟩ = some (.int .i64 ia) ∧ W'.cell? ⟨w.heap.size, 1, none⟩ = some (.slice Aa la.length ca) ∧ W'.cell? ⟨w.heap.size, 2, none⟩ = some (.int .i64 fa) ∧ W'.cell? ⟨w.heap.size, 3, none⟩ = some (.int .i64 ta) ∧ W'.cell? ⟨g3, 0, none⟩ = some (.bool (sg q)) ∧ W'.cell? ⟨g3, 1, none⟩ = some (.slice A3 (dig (nu q)).length c3) ∧ W'.cell? ⟨g3, 2, none⟩ = some (.slice B3 (dig q.den).length d3) ∧ W'.cell? ⟨g4, 0, none⟩ = some (.bool (sg q)) ∧ W'.cell? ⟨g4, 1, none⟩ = some (.slice A4 (dig (nu q)).length c4) ∧ W'.cell? ⟨g4, 2, none⟩ = some (.slice B4 (dig q.den).length d4) := fun h => ⟨h.cell 0 0 rfl rfl, h.cell 0 1 rfl rfl, h.cell 0 2 rfl rfl, h.cell 0 3 rfl rfl, h.cell 1 0 rfl rfl, h.cell 1 1 rfl rfl, h.cell 1 2 rfl rfl, h.cell 2 0 rfl rfl, h.cell 2 1 rfl rfl, h.cell 2 2 rfl rfl⟩
  have hs1 : (m == m) = true := beq_self_eq_true _
  have hs2 : (n == n) = true := beq_self_eq_true _
  replace HX := HX.ext (drew_ext _)
  replace hT := hT.ext (drew_ext _)
  replace Ea := Ea.ext (drew_ext _)
  replace F3 := F3.ext (drew_ext _)
  replace F4 := F4.ext (drew_ext _)
  go_region_held3 (fun W' => W'.cell? ⟨w.heap.size, 0, none⟩ = some (.int .i64 ia) ∧ W'.cell? ⟨w.heap.size, 1, none⟩ = some (.slice Aa la.length ca) ∧ W'.cell? ⟨w.heap.size, 2, none⟩ = some (.int .i64 fa) ∧ W'.cell? ⟨w.heap.size, 3, none⟩ = some (.int .i64 ta) ∧ W'.cell? ⟨g3, 0, none⟩ = some (.bool (sg q)) ∧ W'.cell? ⟨g3, 1, none⟩ = some (.slice A3 (dig (nu q)).length c3) ∧ W'.cell? ⟨g3, 2, none⟩ = some (.slice B3 (dig q.den).length d3) ∧ W'.cell? ⟨g4, 0, none⟩ = some (.bool (sg q)) ∧ W'.cell? ⟨g4, 1, none⟩ = some (.slice A4 (dig (nu q)).length c4) ∧ W'.cell? ⟨g4, 2, none⟩ = some (.slice B4 (dig q.den).length d4))
    (exact held HX)
    (first
      | (go_at_call 13; refine (htotal_any _ _ la _ Ea hla hm).mono ?_; rintro e w5 ⟨rfl, hb⟩; replace HX := HX.ext hb; replace hT := hT.ext hb; replace Ea := Ea.ext hb; replace F3 := F3.ext hb; replace F4 := F4.ext hb; clear hb)
      | (go_at_call 14; refine (rtotal_any _ _ la _ Ea hla hm).mono ?_; rintro e w6 ⟨rfl, hb⟩; replace HX := HX.ext hb; replace hT := hT.ext hb; replace Ea := Ea.ext hb; replace F3 := F3.ext hb; replace F4 := F4.ext hb; clear hb)
      | (go_at_call 15; refine (hnumber_any _ _ la _ Ea hla hn).mono ?_; rintro e w7 ⟨rfl, hb⟩; replace HX := HX.ext hb; replace hT := hT.ext hb; replace Ea := Ea.ext hb; replace F3 := F3.ext hb; replace F4 := F4.ext hb; clear hb)
      | (go_at_call 16; refine (rnumber_any _ _ la _ Ea hla hn).mono ?_; rintro e w8 ⟨rfl, hb⟩; replace HX := HX.ext hb; replace hT := hT.ext hb; replace Ea := Ea.ext hb; replace F3 := F3.ext hb; replace F4 := F4.ext hb; clear hb)
      | (go_at_call 17; refine (bfrac_s F3 F4 (by omega) (by omega)).mono ?_; rintro e w9 ⟨rfl, hb⟩; replace HX := HX.ext hb; replace hT := hT.ext hb; replace Ea := Ea.ext hb; replace F3 := F3.ext hb; replace F4 := F4.ext hb; clear hb))
  all_goals (
    go_wp2
    go_ret
    exact ⟨by first | rfl | simp, HX.below⟩)
set_option maxHeartbeats 4000000 in
set_option maxRecDepth 100000 in
theorem hnumbers_bad_yes {ia fa ta : Int} {Aa : Option Addr} {ca : Nat} {la : List (Int × Int)} {s : Int} (w : World) (hT : Tab w) (Ea : Es w Aa la) (hla : la.length ≤ 9223372036854775807) (hlens : Hid (∀ x ∈ [(HE.mk ia Aa la.length ca fa ta)], x.n ≤ 9223372036854775807)) (hfew : Hid (fewH [(HE.mk ia Aa la.length ca fa ta)] = true)) (mla : la.length ≤ 40) (hv : ¬ HV ia la fa ta) :
    Calls Tryd.prog 3 #[.agg #[.int .i64 ia, .slice Aa la.length ca, .int .i64 fa, .int .i64 ta], .int .i64 s] w (RetB w true) := by
  obtain ⟨n, hn⟩ := NumIs.ex ia la fa ta s
  obtain ⟨m, hm⟩ := TotIs.ex ia la fa ta
  have HVH := Lib.hid hv
  clear hv
  go_enter Tryd.func3, Tryd.ntmps3
  go_wp2_with fail
  have HX := BL.one w #[.int .i64 ia, .slice Aa la.length ca, .int .i64 fa, .int .i64 ta] 26
  replace hT := hT.ext HX.below
  replace Ea := Ea.ext HX.below
  refine (hawake_any _ hT).mono ?_
  rintro e w1 ⟨rfl, hb⟩
  replace HX := HX.ext hb
  replace hT := hT.ext hb
  replace Ea := Ea.ext hb
  clear hb
  have hc00 := HX.cell 0 0 rfl rfl
  have hc01 := HX.cell 0 1 rfl rfl
  have hc02 := HX.cell 0 2 rfl rfl
  have hc03 := HX.cell 0 3 rfl rfl
  try simp only [List.getElem_toArray, List.getElem_cons_zero, List.getElem_cons_succ] at hc00 hc01 hc02 hc03
  go_wp2_with fail
  have hfs := HFS.lit w1 26 [(HE.mk ia Aa la.length ca fa ta)] #[.int .i64 ia, .slice Aa la.length ca, .int .i64 fa, .int .i64 ta] rfl
  refine (hfew_any _ 1 1 _ _ hfs rfl (by omega) hlens.out).mono ?_
  rintro e w2 ⟨rfl, rfl⟩
  rw [hfew.out]
  have hb := below_alloc w1 (.cells #[.int .i64 ia, .slice Aa la.length ca, .int .i64 fa, .int .i64 ta] 26)
  clear hfs
  clear hc00 hc01 hc02 hc03
  replace HX := HX.ext hb
  replace hT := hT.ext hb
  replace Ea := Ea.ext hb
  clear hb
  generalize w1.alloc (.cells #[.int .i64 ia, .slice Aa la.length ca, .int .i64 fa, .int .i64 ta] 26) = w2 at *
  clear hlens hfew
  have hc00 := HX.cell 0 0 rfl rfl
  have hc01 := HX.cell 0 1 rfl rfl
  have hc02 := HX.cell 0 2 rfl rfl
  have hc03 := HX.cell 0 3 rfl rfl
  try simp only [List.getElem_toArray, List.getElem_cons_zero, List.getElem_cons_succ] at hc00 hc01 hc02 hc03
  go_wp2_with fail
  refine (hshare_no _ _ la _ Ea hla HVH.out).mono ?_
  rintro e w3 ⟨rfl, hb⟩
  clear hc00 hc01 hc02 hc03
  replace HX := HX.ext hb
  replace hT := hT.ext hb
  replace Ea := Ea.ext hb
  clear hb
  go_upto_region 4 with fail
  have hlg30 := HX.lt 0 rfl
  simp only [] at hlg30
  have hb := below_alloc w3 (.cells #[.bool false, .slice none 0 0, .slice none 0 0] 33)
  replace HX := HX.new #[.bool false, .slice none 0 0, .slice none 0 0] 33
  simp only [List.cons_append, List.nil_append] at HX
  replace hT := hT.ext hb
  replace Ea := Ea.ext hb
  clear hb
  generalize w3.alloc (.cells #[.bool false, .slice none 0 0, .slice none 0 0] 33) = W3 at *
  generalize w3.heap.size = g3 at *
  have hc00 := HX.cell 0 0 rfl rfl
  have hc01 := HX.cell 0 1 rfl rfl
  have hc02 := HX.cell 0 2 rfl rfl
  have hc03 := HX.cell 0 3 rfl rfl
  try simp only [List.getElem_toArray, List.getElem_cons_zero, List.getElem_cons_succ] at hc00 hc01 hc02 hc03
  go_wp2_with fail
  refine (rshare_no _ _ la _ Ea hla HVH.out).mono ?_
  rintro e w4 ⟨rfl, hb⟩
  clear hc00 hc01 hc02 hc03
  replace HX := HX.ext hb
  replace hT := hT.ext hb
  replace Ea := Ea.ext hb
  clear hb
  go_upto_region 5 with fail
  have hlg40 := HX.lt 0 rfl
  simp only [] at hlg40
  have hlg41 := HX.lt 1 rfl
  simp only [] at hlg41
  have hb := below_alloc w4 (.cells #[.bool false, .slice none 0 0, .slice none 0 0] 33)
  replace HX := HX.new #[.bool false, .slice none 0 0, .slice none 0 0] 33
  simp only [List.cons_append, List.nil_append] at HX
  replace hT := hT.ext hb
  replace Ea := Ea.ext hb
  clear hb
  generalize w4.alloc (.cells #[.bool false, .slice none 0 0, .slice none 0 0] 33) = W4 at *
  generalize w4.heap.size = g4 at *
  have held : ∀ {W' : World}, BL w W' [(w.heap.size, #[.int .i64 ia, .slice Aa la.length ca, .int .i64 fa, .int .i64 ta], 26), (g3, #[.bool false, .slice none 0 0, .slice none 0 0], 33), (g4, #[.bool false, .slice none 0 0, .slice none 0 0], 33)] → W'.cell? ⟨w.heap.size, 0, none⟩ = some (.int .i64 ia) ∧ W'.cell? ⟨w.heap.size, 1, none⟩ = some (.slice Aa la.length ca) ∧ W'.cell? ⟨w.heap.size, 2, none⟩ = some (.int .i64 fa) ∧ W'.cell? ⟨w.heap.size, 3, none⟩ = some (.int .i64 ta) ∧ W'.cell? ⟨g3, 0, none⟩ = some (.bool false) ∧ W'.cell? ⟨g3, 1, none⟩ = some (.slice none 0 0) ∧ W'.cell? ⟨g3, 2, none⟩ = some (.slice none 0 0) ∧ W'.cell? ⟨g4, 0, none⟩ = some (.bool false) ∧ W'.cell? ⟨g4, 1, none⟩ = some (.slice none 0 0) ∧ W'.cell? ⟨g4, 2, none⟩ = some (.slice none 0 0) := fun h => ⟨h.cell 0 0 rfl rfl, h.cell 0 1 rfl rfl, h.cell 0 2 rfl rfl, h.cell 0 3 rfl rfl, h.cell 1 0 rfl rfl, h.cell 1 1 rfl rfl, h.cell 1 2 rfl rfl, h.cell 2 0 rfl rfl, h.cell 2 1 rfl rfl, h.cell 2 2 rfl rfl⟩
  have hs1 : (m == m) = true := beq_self_eq_true _
  have hs2 : (n == n) = true := beq_self_eq_true _
  replace HX := HX.ext (drew_ext _)
  replace hT := hT.ext (drew_ext _)
  replace Ea := Ea.ext (drew_ext _)
  go_region_held3 (fun W' => W'.cell? ⟨w.heap.size, 0, none⟩ = some (.int .i64 ia) ∧ W'.cell? ⟨w.heap.size, 1, none⟩ = some (.slice Aa la.length ca) ∧ W'.cell? ⟨w.heap.size, 2, none⟩ = some (.int .i64 fa) ∧ W'.cell? ⟨w.heap.size, 3, none⟩ = some (.int .i64 ta) ∧ W'.cell? ⟨g3, 0, none⟩ = some (.bool false) ∧ W'.cell? ⟨g3, 1, none⟩ = some (.slice none 0 0) ∧ W'.cell? ⟨g3, 2, none⟩ = some (.slice none 0 0) ∧ W'.cell? ⟨g4, 0, none⟩ = some (.bool false) ∧ W'.cell? ⟨g4, 1, none⟩ = some (.slice none 0 0) ∧ W'.cell? ⟨g4, 2, none⟩ = some (.slice none 0 0))
    (exact held HX)
    (first
      | (go_at_call 13; refine (htotal_any _ _ la _ Ea hla hm).mono ?_; rintro e w5 ⟨rfl, hb⟩; replace HX := HX.ext hb; replace hT := hT.ext hb; replace Ea := Ea.ext hb; clear hb)
      | (go_at_call 14; refine (rtotal_any _ _ la _ Ea hla hm).mono ?_; rintro e w6 ⟨rfl, hb⟩; replace HX := HX.ext hb; replace hT := hT.ext hb; replace Ea := Ea.ext hb; clear hb)
      | (go_at_call 15; refine (hnumber_any _ _ la _ Ea hla hn).mono ?_; rintro e w7 ⟨rfl, hb⟩; replace HX := HX.ext hb; replace hT := hT.ext hb; replace Ea := Ea.ext hb; clear hb)
      | (go_at_call 16; refine (rnumber_any _ _ la _ Ea hla hn).mono ?_; rintro e w8 ⟨rfl, hb⟩; replace HX := HX.ext hb; replace hT := hT.ext hb; replace Ea := Ea.ext hb; clear hb)
      | (go_at_call 17; refine (bfrac_0).mono ?_; rintro e w9 ⟨rfl, hb⟩; replace HX := HX.ext hb; replace hT := hT.ext hb; replace Ea := Ea.ext hb; clear hb))
  all_goals (
    go_wp2
    go_ret
    exact ⟨by first | rfl | simp, HX.below⟩)
set_option maxHeartbeats 4000000 in
set_option maxRecDepth 100000 in
theorem hnumbers_yes {ia fa ta : Int} {Aa : Option Addr} {ca : Nat} {la : List (Int × Int)} {s : Int} (w : World) (hT : Tab w) (Ea : Es w Aa la) (hla : la.length ≤ 9223372036854775807) (hlens : Hid (∀ x ∈ [(HE.mk ia Aa la.length ca fa ta)], x.n ≤ 9223372036854775807)) (hfew : Hid (fewH [(HE.mk ia Aa la.length ca fa ta)] = true)) (mla : la.length ≤ 40) :
    Calls Tryd.prog 3 #[.agg #[.int .i64 ia, .slice Aa la.length ca, .int .i64 fa, .int .i64 ta], .int .i64 s] w (RetB w true) := by
  by_cases hv : HV ia la fa ta
  · exact hnumbers_ok_yes w hT Ea hla hlens hfew mla hv
  · exact hnumbers_bad_yes w hT Ea hla hlens hfew mla hv
theorem hnumbers_any {ia fa ta : Int} {Aa : Option Addr} {ca : Nat} {la : List (Int × Int)} {s : Int} (w : World) (hT : Tab w) (Ea : Es w Aa la) (hla : la.length ≤ 9223372036854775807) :
    Calls Tryd.prog 3 #[.agg #[.int .i64 ia, .slice Aa la.length ca, .int .i64 fa, .int .i64 ta], .int .i64 s] w (RetB w true) := by
  have hlens : ∀ x ∈ [(HE.mk ia Aa la.length ca fa ta)], x.n ≤ 9223372036854775807 := by
    intro x hx
    simp only [List.mem_cons, List.not_mem_nil, or_false] at hx
    subst hx; exact hla
  cases hf : fewH [(HE.mk ia Aa la.length ca fa ta)]
  · exact hnumbers_few w hT Ea hla  (Lib.hid hlens) (Lib.hid hf)
  · have hf2 := hf
    simp only [fewH, List.all_cons, List.all_nil, Bool.and_true, Bool.and_eq_true, decide_eq_true_eq] at hf2
    exact hnumbers_yes w hT Ea hla  (Lib.hid hlens) (Lib.hid hf) (by omega)
end Go.Proofs.YtajddhkepbnilaaDoor
