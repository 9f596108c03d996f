/- The statement SimilarityPairs: its walk. -/
import Derived.Test.YthempimelfmipaaGreatDoorSxdM
import Derived.Test.YthempimelfmipaaGreatDoorSq0M
namespace Go.Proofs.YthempimelfmipaaGreatDoor
open Go.RowKit Go.Proofs Go

theorem qofq {w : World} {u : Rat} {x y : Int} (hy : 0 < y) (hu : Hid (quo x y = u)) (hx1 : -1000000000 < x) (hx2 : x < 1000000000) (hy2 : y < 1000000000) : Calls Tryz.prog 63 #[.int .i64 x, .int .i64 y] w (RetG w u 1) :=
  qof_h (Lib.hid ((of_quo x hy).trans hu.out)) (hu.out ▸ quo_sz1 hx1 hx2 hy hy2) (by omega) (by omega) (by omega) (by omega)
set_option maxHeartbeats 2000000 in
set_option maxRecDepth 100000 in
theorem rcoef_no {ia fa ta ib fb tb : Int} (Aa Ab : Option Addr) (ca cb : Nat) (la lb : List (Int × Int)) (w : World) (HA : Es w Aa la) (HB : Es w Ab lb) (hla : la.length ≤ 9223372036854775807) (hlb : lb.length ≤ 9223372036854775807) (hn : ¬ (HV ia la fa ta ∧ HV ib lb fb tb)) :
    Calls Tryz.prog 28 #[.agg #[.int .i64 ia, .slice Aa la.length ca, .int .i64 fa, .int .i64 ta], .agg #[.int .i64 ib, .slice Ab lb.length cb, .int .i64 fb, .int .i64 tb]] w (RetZE w 1) := by
  by_cases va : HV ia la fa ta
  · have vb : ¬ HV ib lb fb tb := fun h => hn ⟨va, h⟩
    have YA := yes va
    have NB := no vb
    clear va vb hn
    go_enter Tryz.func28, Tryz.ntmps28
    go_wp2_with fail
    have HX := BL.three w #[.int .i64 ia, .slice Aa la.length ca, .int .i64 fa, .int .i64 ta] #[.int .i64 ib, .slice Ab lb.length cb, .int .i64 fb, .int .i64 tb] #[.bool false, .slice none 0 0, .slice none 0 0] 26 26 33
    replace HA := HA.ext HX.below
    replace HB := HB.ext HX.below
    refine (bhoard_any (b := true) Aa ca la _ HA hla YA).mono ?_
    rintro e w1 ⟨rfl, hb⟩
    replace HX := HX.ext hb
    replace HB := HB.ext hb
    clear hb
    have hc10 := HX.cell 1 0 rfl rfl
    have hc11 := HX.cell 1 1 rfl rfl
    have hc12 := HX.cell 1 2 rfl rfl
    have hc13 := HX.cell 1 3 rfl rfl
    try simp only [List.getElem_toArray, List.getElem_cons_zero, List.getElem_cons_succ] at hc10 hc11 hc12 hc13
    go_wp2_with fail
    refine (bhoard_any (b := false) Ab cb lb _ HB hlb NB).mono ?_
    rintro e w3 ⟨rfl, hb⟩
    clear hc10 hc11 hc12 hc13
    replace HX := HX.ext hb
    clear hb
    have hc20 := HX.cell 2 0 rfl rfl
    have hf20 := HX.free 2 0 rfl
    have hc21 := HX.cell 2 1 rfl rfl
    have hf21 := HX.free 2 1 rfl
    have hc22 := HX.cell 2 2 rfl rfl
    have hf22 := HX.free 2 2 rfl
    try simp only [List.getElem_toArray, List.getElem_cons_zero, List.getElem_cons_succ] at hc20 hf20 hc21 hf21 hc22 hf22
    go_wp2
    clear hc20 hf20 hc21 hf21 hc22 hf22
    replace HX := HX.put3 2 rfl (by omega) (by intro k q hk hne; match k, hk with | 0, hk => (simp at hk; subst hk; simp at hne ⊢; try omega) | 1, hk => (simp at hk; subst hk; simp at hne ⊢; try omega) | 2, hk => (simp at hk; subst hk; simp at hne ⊢; try omega) | k + 3, hk => simp at hk) (.bool false) (.slice none 0 0) (.slice none 0 0)
    simp only [List.set_cons_zero, List.set_cons_succ] at HX
    have hc20 := HX.cell 2 0 rfl rfl
    have hc21 := HX.cell 2 1 rfl rfl
    have hc22 := HX.cell 2 2 rfl rfl
    try simp only [List.getElem_toArray, List.getElem_cons_zero, List.getElem_cons_succ] at hc20 hc21 hc22
    exact bodyPost_ret (v := .tuple #[.agg #[.bool false, .slice none 0 0, .slice none 0 0], .int .i64 1]) (by simp [results, Tryz.results28, go_sem, hc20, hc21, hc22]) rfl ⟨rfl, HX.below⟩
  · have NA := no va
    clear va hn
    go_enter Tryz.func28, Tryz.ntmps28
    go_wp2_with fail
    have HX := BL.three w #[.int .i64 ia, .slice Aa la.length ca, .int .i64 fa, .int .i64 ta] #[.int .i64 ib, .slice Ab lb.length cb, .int .i64 fb, .int .i64 tb] #[.bool false, .slice none 0 0, .slice none 0 0] 26 26 33
    replace HA := HA.ext HX.below
    refine (bhoard_any (b := false) Aa ca la _ HA hla NA).mono ?_
    rintro e w1 ⟨rfl, hb⟩
    replace HX := HX.ext hb
    clear hb
    have hc20 := HX.cell 2 0 rfl rfl
    have hf20 := HX.free 2 0 rfl
    have hc21 := HX.cell 2 1 rfl rfl
    have hf21 := HX.free 2 1 rfl
    have hc22 := HX.cell 2 2 rfl rfl
    have hf22 := HX.free 2 2 rfl
    try simp only [List.getElem_toArray, List.getElem_cons_zero, List.getElem_cons_succ] at hc20 hf20 hc21 hf21 hc22 hf22
    go_wp2
    clear hc20 hf20 hc21 hf21 hc22 hf22
    replace HX := HX.put3 2 rfl (by omega) (by intro k q hk hne; match k, hk with | 0, hk => (simp at hk; subst hk; simp at hne ⊢; try omega) | 1, hk => (simp at hk; subst hk; simp at hne ⊢; try omega) | 2, hk => (simp at hk; subst hk; simp at hne ⊢; try omega) | k + 3, hk => simp at hk) (.bool false) (.slice none 0 0) (.slice none 0 0)
    simp only [List.set_cons_zero, List.set_cons_succ] at HX
    have hc20 := HX.cell 2 0 rfl rfl
    have hc21 := HX.cell 2 1 rfl rfl
    have hc22 := HX.cell 2 2 rfl rfl
    try simp only [List.getElem_toArray, List.getElem_cons_zero, List.getElem_cons_succ] at hc20 hc21 hc22
    exact bodyPost_ret (v := .tuple #[.agg #[.bool false, .slice none 0 0, .slice none 0 0], .int .i64 1]) (by simp [results, Tryz.results28, go_sem, hc20, hc21, hc22]) rfl ⟨rfl, HX.below⟩
set_option maxHeartbeats 8000000 in
set_option maxRecDepth 100000 in
theorem rcoef_any {ia fa ta ib fb tb : Int} (Aa Ab : Option Addr) (ca cb : Nat) (la lb : List (Int × Int)) (w : World) (HA : Es w Aa la) (HB : Es w Ab lb) (hla : la.length ≤ 9223372036854775807) (hlb : lb.length ≤ 9223372036854775807) (va : HV ia la fa ta) (vb : HV ib lb fb tb) {u : Rat} (hu : Hid (coD la lb 99 = u)) :
    Calls Tryz.prog 28 #[.agg #[.int .i64 ia, .slice Aa la.length ca, .int .i64 fa, .int .i64 ta], .agg #[.int .i64 ib, .slice Ab lb.length cb, .int .i64 fb, .int .i64 tb]] w (RetGE w u 2) := by
  have hpa := va.pos
  have hpb := vb.pos
  have VA := Lib.hid va
  have VB := Lib.hid vb
  have YA := yes va
  have YB := yes vb
  obtain ⟨q0, hq0⟩ : ∃ q, Hid (coD la lb 0 = q) := ⟨_, Lib.hid rfl⟩
  have HO0 : Hid (quo 200 1 = q0) := Lib.hid ((coD_start (by omega) (by omega)).symm.trans hq0.out)
  obtain ⟨o1, HO1⟩ : ∃ o, Hid (quo 100 1 = o) := ⟨_, Lib.hid rfl⟩
  clear va vb
  have HWA := HA
  have HWB := HB
  go_enter Tryz.func28, Tryz.ntmps28
  go_wp2_with fail
  have HX := BL.three w #[.int .i64 ia, .slice Aa la.length ca, .int .i64 fa, .int .i64 ta] #[.int .i64 ib, .slice Ab lb.length cb, .int .i64 fb, .int .i64 tb] #[.bool false, .slice none 0 0, .slice none 0 0] 26 26 33
  replace HA := HA.ext HX.below
  replace HB := HB.ext HX.below
  refine (bhoard_any (b := true) Aa ca la _ HA hla YA).mono ?_
  rintro e w1 ⟨rfl, hb⟩
  replace HX := HX.ext hb
  replace HB := HB.ext hb
  clear hb
  have hc10 := HX.cell 1 0 rfl rfl
  have hc11 := HX.cell 1 1 rfl rfl
  have hc12 := HX.cell 1 2 rfl rfl
  have hc13 := HX.cell 1 3 rfl rfl
  try simp only [List.getElem_toArray, List.getElem_cons_zero, List.getElem_cons_succ] at hc10 hc11 hc12 hc13
  go_wp2_with fail
  refine (bhoard_any (b := true) Ab cb lb _ HB hlb YB).mono ?_
  rintro e w2 ⟨rfl, hb⟩
  clear hc10 hc11 hc12 hc13
  replace HX := HX.ext hb
  clear hb
  clear HA HB
  go_wp2_with fail
  refine (qofq (by decide) HO0 (by decide) (by decide) (by decide)).mono ?_
  rintro e w2 ⟨A3, c3, B3, d3, rfl, F3, hb⟩
  replace HX := HX.ext hb
  clear hb
  replace F3 : Fc w2 A3 c3 B3 d3 q0 2 := ⟨F3.num, F3.den, hq0.out ▸ coD_sz VA.out VB.out (by omega)⟩
  go_upto_region 4 with fail
  have hlg30 := HX.lt 0 rfl
  simp only [] at hlg30
  have hlg31 := HX.lt 1 rfl
  simp only [] at hlg31
  have hlg32 := HX.lt 2 rfl
  simp only [] at hlg32
  have hb := below_alloc w2 (.cells #[.bool (sg q0), .slice A3 (dig (nu q0)).length c3, .slice B3 (dig q0.den).length d3] 33)
  replace HX := HX.new #[.bool (sg q0), .slice A3 (dig (nu q0)).length c3, .slice B3 (dig q0.den).length d3] 33
  simp only [List.cons_append, List.nil_append] at HX
  replace F3 := F3.ext hb
  clear hb
  generalize w2.alloc (.cells #[.bool (sg q0), .slice A3 (dig (nu q0)).length c3, .slice B3 (dig q0.den).length d3] 33) = V3 at *
  generalize w2.heap.size = g3 at *
  go_wp2
  go_loopg [7] 99 (fun kk v wr => ∃ (k : Nat) (q : Rat) (A3 B3 : Option Addr) (c3 d3 : Nat), k + kk = 99 ∧ v = .int .i64 ((k : Int) + 1) ∧ Hid (coD la lb k = q) ∧ Fc wr A3 c3 B3 d3 q 2 ∧ BL w wr [(w.heap.size, #[.int .i64 ia, .slice Aa la.length ca, .int .i64 fa, .int .i64 ta], 26), (w.heap.size + 1, #[.int .i64 ib, .slice Ab lb.length cb, .int .i64 fb, .int .i64 tb], 26), (w.heap.size + 2, #[.bool false, .slice none 0 0, .slice none 0 0], 33), (g3, #[.bool (sg q), .slice A3 (dig (nu q)).length c3, .slice B3 (dig q.den).length d3], 33)])
  case atStart => exact ⟨0, q0, A3, B3, c3, d3, rfl, rfl, hq0, F3, HX⟩
  case round =>
    clear HX F3 hq0 HO0
    obtain ⟨k, q, A3, B3, c3, d3, hk, rfl, HQ, F3, HX⟩ := hrel
    by_cases hk0 : k < 99
    · have HA : Es wr Aa la := HWA.ext HX.below
      have HB : Es wr Ab lb := HWB.ext HX.below
      obtain ⟨q2, HQ2⟩ : ∃ q, Hid (shq la ((k : Int) + 1) = q) := ⟨_, Lib.hid rfl⟩
      obtain ⟨q3, HQ3⟩ : ∃ q, Hid (shq lb ((k : Int) + 1) = q) := ⟨_, Lib.hid rfl⟩
      obtain ⟨q4, HQ4⟩ : ∃ q, Hid (q2 - q3 = q) := ⟨_, Lib.hid rfl⟩
      have hq4 : Hid (quo (numE la ((k : Int) + 1) * totE lb - numE lb ((k : Int) + 1) * totE la) (totE la * totE lb) = q4) := Lib.hid (by rw [← HQ4.out, ← HQ2.out, ← HQ3.out, dif_quo (by omega) (by omega) (VA.out.nn _).1 (VB.out.nn _).1])
      have htt := tots VA.out VB.out
      have hdb := dif_bd VA.out VB.out ((k : Int) + 1)
      have z4 : Sz q4 2 := hq4.out ▸ quo_sz (by omega) (by omega) (by omega) (by omega)
      obtain ⟨q5, hq5⟩ : ∃ q, Hid (quo (difT la lb ((k : Int) + 1)) (totE la * totE lb) = q) := ⟨_, Lib.hid rfl⟩
      have z5 : Sz q5 2 := hq5.out ▸ quo_sz (by omega) (by omega) (by omega) (by omega)
      obtain ⟨q6, HM6⟩ : ∃ q, Hid (o1 * q5 = q) := ⟨_, Lib.hid rfl⟩
      have z6 : Sz q6 2 := by
        rw [← HM6.out, ← hq5.out, ← HO1.out, quo_mul _ _ (by omega) (by omega), Int.one_mul]
        exact quo_sz (by omega) (by omega) (by omega) (by omega)
      obtain ⟨q7, HQ7⟩ : ∃ q, Hid (coD la lb (k + 1) = q) := ⟨_, Lib.hid rfl⟩
      have z7 : Sz q7 2 := HQ7.out ▸ coD_sz VA.out VB.out (by omega)
      have HA7 : Hid (q - q6 = q7) := Lib.hid (by
        have e := coD_step (a := la) (b := lb) (by omega) (by omega) k
        rw [HQ7.out, HQ.out, ← quo_neg, hq5.out, HO1.out] at e
        rw [e, ← HM6.out]; grind)
      obtain ⟨x, HS⟩ : ∃ x, Hid (sgn q4 = x) := ⟨_, Lib.hid rfl⟩
      have hcase : Hid ((x < 0 ∧ -q4 = q5) ∨ (0 ≤ x ∧ q4 = q5)) := Lib.hid (by
        have h1 := HS.out
        rw [← hq4.out, sgn_quo _ (by omega)] at h1
        by_cases hN : numE la ((k : Int) + 1) * totE lb - numE lb ((k : Int) + 1) * totE la < 0
        · rw [if_pos hN] at h1
          refine .inl ⟨by omega, ?_⟩
          rw [← hq4.out, ← hq5.out, quo_neg, difT, mag, if_pos hN]
        · refine .inr ⟨by split at h1 <;> (try split at h1) <;> omega, ?_⟩
          rw [← hq4.out, ← hq5.out, difT, mag, if_neg hN])
      clear htt hdb hq4 hq5 HQ
      have hi1 : (1 : Int) ≤ (k : Int) + 1 := by omega
      have hi2 : (k : Int) + 1 ≤ 99 := by omega
      generalize wr = V5 at *
      have hc00 := HX.cell 0 0 rfl rfl
      have hc01 := HX.cell 0 1 rfl rfl
      have hc02 := HX.cell 0 2 rfl rfl
      have hc03 := HX.cell 0 3 rfl rfl
      try simp only [List.getElem_toArray, List.getElem_cons_zero, List.getElem_cons_succ] at hc00 hc01 hc02 hc03
      go_wp2_with fail
      refine (rshare_yes Aa ca la _ HA hla VA.out HQ2).mono ?_
      rintro e w6 ⟨A6, c6, B6, d6, rfl, F6, hb⟩
      clear hc00 hc01 hc02 hc03
      replace HX := HX.ext hb
      replace HB := HB.ext hb
      replace F3 := F3.ext hb
      clear hb
      go_upto_region 8 with fail
      have hlg60 := HX.lt 0 rfl
      simp only [] at hlg60
      have hlg61 := HX.lt 1 rfl
      simp only [] at hlg61
      have hlg62 := HX.lt 2 rfl
      simp only [] at hlg62
      have hlg63 := HX.lt 3 rfl
      simp only [] at hlg63
      have hb := below_alloc w6 (.cells #[.bool (sg q2), .slice A6 (dig (nu q2)).length c6, .slice B6 (dig q2.den).length d6] 33)
      replace HX := HX.new #[.bool (sg q2), .slice A6 (dig (nu q2)).length c6, .slice B6 (dig q2.den).length d6] 33
      simp only [List.cons_append, List.nil_append] at HX
      replace HB := HB.ext hb
      replace F3 := F3.ext hb
      replace F6 := F6.ext hb
      clear hb
      generalize w6.alloc (.cells #[.bool (sg q2), .slice A6 (dig (nu q2)).length c6, .slice B6 (dig q2.den).length d6] 33) = V6 at *
      generalize w6.heap.size = g6 at *
      have hc10 := HX.cell 1 0 rfl rfl
      have hc11 := HX.cell 1 1 rfl rfl
      have hc12 := HX.cell 1 2 rfl rfl
      have hc13 := HX.cell 1 3 rfl rfl
      try simp only [List.getElem_toArray, List.getElem_cons_zero, List.getElem_cons_succ] at hc10 hc11 hc12 hc13
      go_wp2_with fail
      refine (rshare_yes Ab cb lb _ HB hlb VB.out HQ3).mono ?_
      rintro e w7 ⟨A7, c7, B7, d7, rfl, F7, hb⟩
      clear hc10 hc11 hc12 hc13
      replace HX := HX.ext hb
      replace F3 := F3.ext hb
      replace F6 := F6.ext hb
      clear hb
      go_upto_region 9 with fail
      have hlg70 := HX.lt 0 rfl
      simp only [] at hlg70
      have hlg71 := HX.lt 1 rfl
      simp only [] at hlg71
      have hlg72 := HX.lt 2 rfl
      simp only [] at hlg72
      have hlg73 := HX.lt 3 rfl
      simp only [] at hlg73
      have hlg74 := HX.lt 4 rfl
      simp only [] at hlg74
      have hb := below_alloc w7 (.cells #[.bool (sg q3), .slice A7 (dig (nu q3)).length c7, .slice B7 (dig q3.den).length d7] 33)
      replace HX := HX.new #[.bool (sg q3), .slice A7 (dig (nu q3)).length c7, .slice B7 (dig q3.den).length d7] 33
      simp only [List.cons_append, List.nil_append] at HX
      replace F3 := F3.ext hb
      replace F6 := F6.ext hb
      replace F7 := F7.ext hb
      clear hb
      generalize w7.alloc (.cells #[.bool (sg q3), .slice A7 (dig (nu q3)).length c7, .slice B7 (dig q3.den).length d7] 33) = V7 at *
      generalize w7.heap.size = g7 at *
      have hc40 := HX.cell 4 0 rfl rfl
      have hc41 := HX.cell 4 1 rfl rfl
      have hc42 := HX.cell 4 2 rfl rfl
      try simp only [List.getElem_toArray, List.getElem_cons_zero, List.getElem_cons_succ] at hc40 hc41 hc42
      have hc50 := HX.cell 5 0 rfl rfl
      have hc51 := HX.cell 5 1 rfl rfl
      have hc52 := HX.cell 5 2 rfl rfl
      try simp only [List.getElem_toArray, List.getElem_cons_zero, List.getElem_cons_succ] at hc50 hc51 hc52
      go_wp2_with fail
      refine (qsub_r HQ4 z4 F6.fr F7.fr (by omega) (by omega)).mono ?_
      rintro e w8 ⟨A8, c8, B8, d8, rfl, F8, hb⟩
      clear F6 F7 HA HB
      clear hc40 hc41 hc42
      clear hc50 hc51 hc52
      replace HX := HX.ext hb
      replace F3 := F3.ext hb
      clear hb
      go_upto_region 10 with fail
      have hlg80 := HX.lt 0 rfl
      simp only [] at hlg80
      have hlg81 := HX.lt 1 rfl
      simp only [] at hlg81
      have hlg82 := HX.lt 2 rfl
      simp only [] at hlg82
      have hlg83 := HX.lt 3 rfl
      simp only [] at hlg83
      have hlg84 := HX.lt 4 rfl
      simp only [] at hlg84
      have hlg85 := HX.lt 5 rfl
      simp only [] at hlg85
      have hb := below_alloc w8 (.cells #[.bool (sg q4), .slice A8 (dig (nu q4)).length c8, .slice B8 (dig q4.den).length d8] 33)
      replace HX := HX.new #[.bool (sg q4), .slice A8 (dig (nu q4)).length c8, .slice B8 (dig q4.den).length d8] 33
      simp only [List.cons_append, List.nil_append] at HX
      replace F3 := F3.ext hb
      replace F8 := F8.ext hb
      clear hb
      generalize w8.alloc (.cells #[.bool (sg q4), .slice A8 (dig (nu q4)).length c8, .slice B8 (dig q4.den).length d8] 33) = V8 at *
      generalize w8.heap.size = g8 at *
      have hc60 := HX.cell 6 0 rfl rfl
      have hc61 := HX.cell 6 1 rfl rfl
      have hc62 := HX.cell 6 2 rfl rfl
      try simp only [List.getElem_toArray, List.getElem_cons_zero, List.getElem_cons_succ] at hc60 hc61 hc62
      go_wp2_with fail
      refine (qsign_r HS F8.fr (by omega)).mono ?_
      rintro e w9 ⟨rfl, hb⟩
      clear hc60 hc61 hc62
      replace HX := HX.ext hb
      replace F3 := F3.ext hb
      replace F8 := F8.ext hb
      clear hb
      rcases hcase.out with ⟨hx, hn⟩ | ⟨hx, rfl⟩
      · have HN := Lib.hid hn
        have hdx : decide (x < 0) = true := decide_eq_true hx
        clear hn hcase
        have hc60 := HX.cell 6 0 rfl rfl
        have hf60 := HX.free 6 0 rfl
        have hc61 := HX.cell 6 1 rfl rfl
        have hf61 := HX.free 6 1 rfl
        have hc62 := HX.cell 6 2 rfl rfl
        have hf62 := HX.free 6 2 rfl
        try simp only [List.getElem_toArray, List.getElem_cons_zero, List.getElem_cons_succ] at hc60 hf60 hc61 hf61 hc62 hf62
        go_wp2_with fail
        refine (qneg_r HN z5 F8.fr (by omega)).mono ?_
        rintro e w10 ⟨A9, c9, B9, d9, rfl, F9, hb⟩
        clear F8
        clear hc60 hf60 hc61 hf61 hc62 hf62
        replace HX := HX.ext hb
        replace F3 := F3.ext hb
        clear hb
        have hc60 := HX.cell 6 0 rfl rfl
        have hf60 := HX.free 6 0 rfl
        have hc61 := HX.cell 6 1 rfl rfl
        have hf61 := HX.free 6 1 rfl
        have hc62 := HX.cell 6 2 rfl rfl
        have hf62 := HX.free 6 2 rfl
        try simp only [List.getElem_toArray, List.getElem_cons_zero, List.getElem_cons_succ] at hc60 hf60 hc61 hf61 hc62 hf62
        go_upto_region 12 with fail
        clear hc60 hf60 hc61 hf61 hc62 hf62
        have hl0 := HX.lt 0 rfl
        have hl1 := HX.lt 1 rfl
        have hl2 := HX.lt 2 rfl
        have hl3 := HX.lt 3 rfl
        have hl4 := HX.lt 4 rfl
        have hl5 := HX.lt 5 rfl
        have hl6 := HX.lt 6 rfl
        simp only [] at hl0 hl1 hl2 hl3 hl4 hl5 hl6
        have hk := HX.keep3 6 rfl rfl rfl rfl (by omega) (.bool (sg q5)) (.slice A9 (dig (nu q5)).length c9) (.slice B9 (dig q5.den).length d9)
        replace HX := HX.put3 6 rfl (by omega) (by intro k q hk hne; match k, hk with | 0, hk => (simp at hk; subst hk; simp at hne ⊢; try omega) | 1, hk => (simp at hk; subst hk; simp at hne ⊢; try omega) | 2, hk => (simp at hk; subst hk; simp at hne ⊢; try omega) | 3, hk => (simp at hk; subst hk; simp at hne ⊢; try omega) | 4, hk => (simp at hk; subst hk; simp at hne ⊢; try omega) | 5, hk => (simp at hk; subst hk; simp at hne ⊢; try omega) | 6, hk => (simp at hk; subst hk; simp at hne ⊢; try omega) | k + 7, hk => simp at hk) (.bool (sg q5)) (.slice A9 (dig (nu q5)).length c9) (.slice B9 (dig q5.den).length d9)
        replace F9 := F9.stay hk
        replace F3 := F3.stay hk
        clear hk
        simp only [List.set_cons_zero, List.set_cons_succ] at HX
        generalize ((w10.setCell ⟨g8, 0, none⟩ (.bool (sg q5))).setCell ⟨g8, 1, none⟩ (.slice A9 (dig (nu q5)).length c9)).setCell ⟨g8, 2, none⟩ (.slice B9 (dig q5.den).length d9) = V9 at *
        refine wp_region_x (al := []) (late := [5]) (dst := fun i => 0) (zt := fun _ => (#[], 0)) (B := V9.heap.size) (n := 5) (r := 1) (by kernel_rfl) (by kernel_rfl) (by decide) ?_ (by kernel_rfl) (by kernel_rfl) (by intro _ _ _ d _ h; cases d <;> exact h) (sz := 6) (by rfl) (by rfl) (Nat.le_refl _) ?_
        · intro i hi; cases hi
        have hE : Ext V9 V9.drew := drew_ext V9
        replace HX := HX.ext hE
        replace F3 := F3.ext hE
        replace F9 := F9.ext hE
        clear hE
        refine wpX_take (i := 0) (v := .agg #[.bool (sg q), .slice A3 (dig (nu q)).length c3, .slice B3 (dig q.den).length d3]) rfl (by kernel_rfl) (by kernel_rfl) (by kernel_rfl) (fun _ _ _ h => h) (Or.inl ⟨by rfl, fun W hW => ?_⟩) ?_
        · have h0 := (HX.ext hW).cell 3 0 rfl rfl
          have h1 := (HX.ext hW).cell 3 1 rfl rfl
          have h2 := (HX.ext hW).cell 3 2 rfl rfl
          simp only [] at h0 h1 h2
          go_simp
          try rfl
        try simp only [Act.put, List.setIfInBounds_toArray]
        refine wpX_take (i := 2) (v := .agg #[.bool (sg q5), .slice A9 (dig (nu q5)).length c9, .slice B9 (dig q5.den).length d9]) rfl (by kernel_rfl) (by kernel_rfl) (by kernel_rfl) (fun _ _ _ h => h) (Or.inl ⟨by rfl, fun W hW => ?_⟩) ?_
        · have h0 := (HX.ext hW).cell 6 0 rfl rfl
          have h1 := (HX.ext hW).cell 6 1 rfl rfl
          have h2 := (HX.ext hW).cell 6 2 rfl rfl
          simp only [] at h0 h1 h2
          go_simp
          try rfl
        try simp only [Act.put]
        refine wpX_step (i := 1) (by kernel_rfl) rfl (fun W1 K hE hK => ?_)
        replace HX := HX.ext hE
        replace F3 := F3.ext hE
        replace F9 := F9.ext hE
        clear hE
        go_simp
        refine (qofq (by decide) HO1 (by decide) (by decide) (by decide)).mono ?_
        rintro e W2 ⟨A10, c10, B10, d10, rfl, F10, hb⟩
        go_wp2_with fail
        refine hK.out _ _ hb ?_
        clear hK K
        replace HX := HX.ext hb
        replace F3 := F3.ext hb
        replace F9 := F9.ext hb
        clear hb
        try simp only [Act.put, List.setIfInBounds_toArray, List.set_cons_zero, List.set_cons_succ]
        skip
        refine wpX_step (i := 3) (by kernel_rfl) rfl (fun W1 K hE hK => ?_)
        replace HX := HX.ext hE
        replace F3 := F3.ext hE
        replace F9 := F9.ext hE
        replace F10 := F10.ext hE
        clear hE
        go_simp
        refine (qmul_r HM6 z6 F10.fr F9.fr (by omega) (by omega)).mono ?_
        rintro e W2 ⟨A11, c11, B11, d11, rfl, F11, hb⟩
        go_wp2_with fail
        refine hK.out _ _ hb ?_
        clear hK K
        replace HX := HX.ext hb
        replace F3 := F3.ext hb
        replace F9 := F9.ext hb
        replace F10 := F10.ext hb
        clear hb
        try simp only [Act.put, List.setIfInBounds_toArray, List.set_cons_zero, List.set_cons_succ]
        skip
        refine wpX_step (i := 4) (by kernel_rfl) rfl (fun W1 K hE hK => ?_)
        replace HX := HX.ext hE
        replace F3 := F3.ext hE
        replace F9 := F9.ext hE
        replace F10 := F10.ext hE
        replace F11 := F11.ext hE
        clear hE
        go_simp
        refine (qsub_r HA7 z7 F3.fr F11.fr (by omega) (by omega)).mono ?_
        rintro e W2 ⟨A12, c12, B12, d12, rfl, F12, hb⟩
        go_wp2_with fail
        refine hK.out _ _ hb ?_
        clear hK K
        replace HX := HX.ext hb
        replace F3 := F3.ext hb
        replace F9 := F9.ext hb
        replace F10 := F10.ext hb
        replace F11 := F11.ext hb
        clear hb
        try simp only [Act.put, List.setIfInBounds_toArray, List.set_cons_zero, List.set_cons_succ]
        skip
        clear F3 F9 F10 F11
        refine wpX_end (by kernel_rfl) (fun W12 ga m hE hg hm => ?_)
        replace HX := HX.ext hE
        replace F12 := F12.ext hE
        clear hE
        clear hg
        simp only [putAll, setAll]
        clear ga
        have hc30 := HX.cell 3 0 rfl rfl
        have hf30 := HX.free 3 0 rfl
        have hc31 := HX.cell 3 1 rfl rfl
        have hf31 := HX.free 3 1 rfl
        have hc32 := HX.cell 3 2 rfl rfl
        have hf32 := HX.free 3 2 rfl
        try simp only [List.getElem_toArray, List.getElem_cons_zero, List.getElem_cons_succ] at hc30 hf30 hc31 hf31 hc32 hf32
        refine wpAny_step (i := 5) (by kernel_rfl) rfl (by omega) (fun K hK => ?_)
        go_simp
        refine hK.out _ _ ?_
        clear hK K
        clear hc30 hf30 hc31 hf31 hc32 hf32
        have hk := HX.keep3 3 rfl rfl rfl rfl (by omega) (.bool (sg q7)) (.slice A12 (dig (nu q7)).length c12) (.slice B12 (dig q7.den).length d12)
        replace HX := HX.put3 3 rfl (by omega) (by intro k q hk hne; match k, hk with | 0, hk => (simp at hk; subst hk; simp at hne ⊢; try omega) | 1, hk => (simp at hk; subst hk; simp at hne ⊢; try omega) | 2, hk => (simp at hk; subst hk; simp at hne ⊢; try omega) | 3, hk => (simp at hk; subst hk; simp at hne ⊢; try omega) | 4, hk => (simp at hk; subst hk; simp at hne ⊢; try omega) | 5, hk => (simp at hk; subst hk; simp at hne ⊢; try omega) | 6, hk => (simp at hk; subst hk; simp at hne ⊢; try omega) | k + 7, hk => simp at hk) (.bool (sg q7)) (.slice A12 (dig (nu q7)).length c12) (.slice B12 (dig q7.den).length d12)
        replace F12 := F12.stay hk
        clear hk
        simp only [List.set_cons_zero, List.set_cons_succ] at HX
        refine wpAny_done (by kernel_rfl) ?_ _
        generalize ((W12.setCell ⟨g3, 0, none⟩ (.bool (sg q7))).setCell ⟨g3, 1, none⟩ (.slice A12 (dig (nu q7)).length c12)).setCell ⟨g3, 2, none⟩ (.slice B12 (dig q7.den).length d12) = W13 at *
        replace HX := HX.front 4
        simp only [List.take_succ_cons, List.take_zero] at HX
        go_wp2
        go_roundg (99 - (k + 1))
        case measure => omega
        case rel => exact ⟨k + 1, q7, A12, B12, c12, d12, by omega, by go_num, HQ7, F12, HX⟩
      · have hdx : decide (x < 0) = false := decide_eq_false (by omega)
        clear hcase
        go_upto_region 12 with fail
        generalize w9 = V9 at *
        refine wp_region_x (al := []) (late := [5]) (dst := fun i => 0) (zt := fun _ => (#[], 0)) (B := V9.heap.size) (n := 5) (r := 1) (by kernel_rfl) (by kernel_rfl) (by decide) ?_ (by kernel_rfl) (by kernel_rfl) (by intro _ _ _ d _ h; cases d <;> exact h) (sz := 6) (by rfl) (by rfl) (Nat.le_refl _) ?_
        · intro i hi; cases hi
        have hE : Ext V9 V9.drew := drew_ext V9
        replace HX := HX.ext hE
        replace F3 := F3.ext hE
        replace F8 := F8.ext hE
        clear hE
        refine wpX_take (i := 0) (v := .agg #[.bool (sg q), .slice A3 (dig (nu q)).length c3, .slice B3 (dig q.den).length d3]) rfl (by kernel_rfl) (by kernel_rfl) (by kernel_rfl) (fun _ _ _ h => h) (Or.inl ⟨by rfl, fun W hW => ?_⟩) ?_
        · have h0 := (HX.ext hW).cell 3 0 rfl rfl
          have h1 := (HX.ext hW).cell 3 1 rfl rfl
          have h2 := (HX.ext hW).cell 3 2 rfl rfl
          simp only [] at h0 h1 h2
          go_simp
          try rfl
        try simp only [Act.put, List.setIfInBounds_toArray]
        refine wpX_take (i := 2) (v := .agg #[.bool (sg q4), .slice A8 (dig (nu q4)).length c8, .slice B8 (dig q4.den).length d8]) rfl (by kernel_rfl) (by kernel_rfl) (by kernel_rfl) (fun _ _ _ h => h) (Or.inl ⟨by rfl, fun W hW => ?_⟩) ?_
        · have h0 := (HX.ext hW).cell 6 0 rfl rfl
          have h1 := (HX.ext hW).cell 6 1 rfl rfl
          have h2 := (HX.ext hW).cell 6 2 rfl rfl
          simp only [] at h0 h1 h2
          go_simp
          try rfl
        try simp only [Act.put]
        refine wpX_step (i := 1) (by kernel_rfl) rfl (fun W1 K hE hK => ?_)
        replace HX := HX.ext hE
        replace F3 := F3.ext hE
        replace F8 := F8.ext hE
        clear hE
        go_simp
        refine (qofq (by decide) HO1 (by decide) (by decide) (by decide)).mono ?_
        rintro e W2 ⟨A10, c10, B10, d10, rfl, F10, hb⟩
        go_wp2_with fail
        refine hK.out _ _ hb ?_
        clear hK K
        replace HX := HX.ext hb
        replace F3 := F3.ext hb
        replace F8 := F8.ext hb
        clear hb
        try simp only [Act.put, List.setIfInBounds_toArray, List.set_cons_zero, List.set_cons_succ]
        skip
        refine wpX_step (i := 3) (by kernel_rfl) rfl (fun W1 K hE hK => ?_)
        replace HX := HX.ext hE
        replace F3 := F3.ext hE
        replace F8 := F8.ext hE
        replace F10 := F10.ext hE
        clear hE
        go_simp
        refine (qmul_r HM6 z6 F10.fr F8.fr (by omega) (by omega)).mono ?_
        rintro e W2 ⟨A11, c11, B11, d11, rfl, F11, hb⟩
        go_wp2_with fail
        refine hK.out _ _ hb ?_
        clear hK K
        replace HX := HX.ext hb
        replace F3 := F3.ext hb
        replace F8 := F8.ext hb
        replace F10 := F10.ext hb
        clear hb
        try simp only [Act.put, List.setIfInBounds_toArray, List.set_cons_zero, List.set_cons_succ]
        skip
        refine wpX_step (i := 4) (by kernel_rfl) rfl (fun W1 K hE hK => ?_)
        replace HX := HX.ext hE
        replace F3 := F3.ext hE
        replace F8 := F8.ext hE
        replace F10 := F10.ext hE
        replace F11 := F11.ext hE
        clear hE
        go_simp
        refine (qsub_r HA7 z7 F3.fr F11.fr (by omega) (by omega)).mono ?_
        rintro e W2 ⟨A12, c12, B12, d12, rfl, F12, hb⟩
        go_wp2_with fail
        refine hK.out _ _ hb ?_
        clear hK K
        replace HX := HX.ext hb
        replace F3 := F3.ext hb
        replace F8 := F8.ext hb
        replace F10 := F10.ext hb
        replace F11 := F11.ext hb
        clear hb
        try simp only [Act.put, List.setIfInBounds_toArray, List.set_cons_zero, List.set_cons_succ]
        skip
        clear F3 F8 F10 F11
        refine wpX_end (by kernel_rfl) (fun W12 ga m hE hg hm => ?_)
        replace HX := HX.ext hE
        replace F12 := F12.ext hE
        clear hE
        clear hg
        simp only [putAll, setAll]
        clear ga
        have hc30 := HX.cell 3 0 rfl rfl
        have hf30 := HX.free 3 0 rfl
        have hc31 := HX.cell 3 1 rfl rfl
        have hf31 := HX.free 3 1 rfl
        have hc32 := HX.cell 3 2 rfl rfl
        have hf32 := HX.free 3 2 rfl
        try simp only [List.getElem_toArray, List.getElem_cons_zero, List.getElem_cons_succ] at hc30 hf30 hc31 hf31 hc32 hf32
        refine wpAny_step (i := 5) (by kernel_rfl) rfl (by omega) (fun K hK => ?_)
        go_simp
        refine hK.out _ _ ?_
        clear hK K
        clear hc30 hf30 hc31 hf31 hc32 hf32
        have hk := HX.keep3 3 rfl rfl rfl rfl (by omega) (.bool (sg q7)) (.slice A12 (dig (nu q7)).length c12) (.slice B12 (dig q7.den).length d12)
        replace HX := HX.put3 3 rfl (by omega) (by intro k q hk hne; match k, hk with | 0, hk => (simp at hk; subst hk; simp at hne ⊢; try omega) | 1, hk => (simp at hk; subst hk; simp at hne ⊢; try omega) | 2, hk => (simp at hk; subst hk; simp at hne ⊢; try omega) | 3, hk => (simp at hk; subst hk; simp at hne ⊢; try omega) | 4, hk => (simp at hk; subst hk; simp at hne ⊢; try omega) | 5, hk => (simp at hk; subst hk; simp at hne ⊢; try omega) | 6, hk => (simp at hk; subst hk; simp at hne ⊢; try omega) | k + 7, hk => simp at hk) (.bool (sg q7)) (.slice A12 (dig (nu q7)).length c12) (.slice B12 (dig q7.den).length d12)
        replace F12 := F12.stay hk
        clear hk
        simp only [List.set_cons_zero, List.set_cons_succ] at HX
        refine wpAny_done (by kernel_rfl) ?_ _
        generalize ((W12.setCell ⟨g3, 0, none⟩ (.bool (sg q7))).setCell ⟨g3, 1, none⟩ (.slice A12 (dig (nu q7)).length c12)).setCell ⟨g3, 2, none⟩ (.slice B12 (dig q7.den).length d12) = W13 at *
        replace HX := HX.front 4
        simp only [List.take_succ_cons, List.take_zero] at HX
        go_wp2
        go_roundg (99 - (k + 1))
        case measure => omega
        case rel => exact ⟨k + 1, q7, A12, B12, c12, d12, by omega, by go_num, HQ7, F12, HX⟩
    · obtain rfl : k = 99 := by omega
      obtain rfl : q = u := by rw [← HQ.out, hu.out]
      have hl0 := HX.lt 0 rfl
      have hl1 := HX.lt 1 rfl
      have hl2 := HX.lt 2 rfl
      have hl3 := HX.lt 3 rfl
      simp only [] at hl0 hl1 hl2 hl3
      have hc30 := HX.cell 3 0 rfl rfl
      have hc31 := HX.cell 3 1 rfl rfl
      have hc32 := HX.cell 3 2 rfl rfl
      try simp only [List.getElem_toArray, List.getElem_cons_zero, List.getElem_cons_succ] at hc30 hc31 hc32
      have hc20 := HX.cell 2 0 rfl rfl
      have hf20 := HX.free 2 0 rfl
      have hc21 := HX.cell 2 1 rfl rfl
      have hf21 := HX.free 2 1 rfl
      have hc22 := HX.cell 2 2 rfl rfl
      have hf22 := HX.free 2 2 rfl
      try simp only [List.getElem_toArray, List.getElem_cons_zero, List.getElem_cons_succ] at hc20 hf20 hc21 hf21 hc22 hf22
      go_wp2
      clear hc30 hc31 hc32
      clear hc20 hf20 hc21 hf21 hc22 hf22
      have hk := HX.keep3 2 rfl rfl rfl rfl (by omega) (.bool (sg q)) (.slice A3 (dig (nu q)).length c3) (.slice B3 (dig q.den).length d3)
      replace HX := HX.put3 2 rfl (by omega) (by intro k q hk hne; match k, hk with | 0, hk => (simp at hk; subst hk; simp at hne ⊢; try omega) | 1, hk => (simp at hk; subst hk; simp at hne ⊢; try omega) | 2, hk => (simp at hk; subst hk; simp at hne ⊢; try omega) | 3, hk => (simp at hk; subst hk; simp at hne ⊢; try omega) | k + 4, hk => simp at hk) (.bool (sg q)) (.slice A3 (dig (nu q)).length c3) (.slice B3 (dig q.den).length d3)
      replace F3 := F3.stay hk
      clear hk
      simp only [List.set_cons_zero, List.set_cons_succ] at HX
      have hc20 := HX.cell 2 0 rfl rfl
      have hc21 := HX.cell 2 1 rfl rfl
      have hc22 := HX.cell 2 2 rfl rfl
      try simp only [List.getElem_toArray, List.getElem_cons_zero, List.getElem_cons_succ] at hc20 hc21 hc22
      exact bodyPost_ret (v := .tuple #[.agg #[.bool (sg q), .slice A3 (dig (nu q)).length c3, .slice B3 (dig q.den).length d3], .int .i64 0]) (by simp [results, Tryz.results28, go_sem, hc20, hc21, hc22]) rfl ⟨A3, c3, B3, d3, rfl, F3, HX.below⟩
set_option maxHeartbeats 2000000 in
set_option maxRecDepth 100000 in
theorem rdist_any {ia fa ta ib fb tb : Int} {u : Rat} (Aa Ab : Option Addr) (ca cb : Nat) (la lb : List (Int × Int)) (w : World) (HA : Es w Aa la) (HB : Es w Ab lb) (hla : la.length ≤ 9223372036854775807) (hlb : lb.length ≤ 9223372036854775807) (va : HV ia la fa ta) (vb : HV ib lb fb tb) (hu : Hid (disD la lb = u)) :
    Calls Tryz.prog 30 #[.agg #[.int .i64 ia, .slice Aa la.length ca, .int .i64 fa, .int .i64 ta], .agg #[.int .i64 ib, .slice Ab lb.length cb, .int .i64 fb, .int .i64 tb]] w (RetGE w u 2) := by
  have hpa := va.pos
  have hpb := vb.pos
  have htt := tots va vb
  have hsd := sumD_bd va vb (Nat.le_refl 99)
  obtain ⟨v, hv⟩ : ∃ v, Hid (coD la lb 99 = v) := ⟨_, Lib.hid rfl⟩
  obtain ⟨o1, HO1⟩ : ∃ o, Hid (quo 200 1 = o) := ⟨_, Lib.hid rfl⟩
  obtain ⟨o2, HO2⟩ : ∃ o, Hid (quo 1 2 = o) := ⟨_, Lib.hid rfl⟩
  obtain ⟨q1, HQ1⟩ : ∃ q, Hid (o1 - v = q) := ⟨_, Lib.hid rfl⟩
  have z1 : Sz q1 2 := by
    rw [← HQ1.out, ← HO1.out, ← hv.out, coD, quo_sub _ _ (by omega) (by omega), Int.mul_one, Int.one_mul]
    exact quo_sz (by omega) (by omega) (by omega) (by omega)
  have HM : Hid (q1 * o2 = u) := Lib.hid (by rw [← HQ1.out, ← HO1.out, ← HO2.out, ← hv.out, dis_eq (by omega) (by omega), hu.out])
  have zu : Sz u 2 := by
    rw [← hu.out, disD]
    exact quo_sz (by omega) (by omega) (by omega) (by omega)
  have VA := Lib.hid va
  have VB := Lib.hid vb
  clear va vb htt hsd hu
  go_enter Tryz.func30, Tryz.ntmps30
  go_wp2_with fail
  have HX := BL.three w #[.int .i64 ia, .slice Aa la.length ca, .int .i64 fa, .int .i64 ta] #[.int .i64 ib, .slice Ab lb.length cb, .int .i64 fb, .int .i64 tb] #[.bool false, .slice none 0 0, .slice none 0 0] 26 26 33
  replace HA := HA.ext HX.below
  replace HB := HB.ext HX.below
  refine (rcoef_any Aa Ab ca cb la lb _ HA HB hla hlb VA.out VB.out hv).mono ?_
  rintro e w3 ⟨A3, c3, B3, d3, rfl, F3, hb⟩
  clear HA HB
  replace HX := HX.ext hb
  clear hb
  go_upto_region 2 with fail
  have hlg30 := HX.lt 0 rfl
  simp only [] at hlg30
  have hlg31 := HX.lt 1 rfl
  simp only [] at hlg31
  have hlg32 := HX.lt 2 rfl
  simp only [] at hlg32
  have hb := below_alloc w3 (.cells #[.bool (sg v), .slice A3 (dig (nu v)).length c3, .slice B3 (dig v.den).length d3] 33)
  replace HX := HX.new #[.bool (sg v), .slice A3 (dig (nu v)).length c3, .slice B3 (dig v.den).length d3] 33
  simp only [List.cons_append, List.nil_append] at HX
  replace F3 := F3.ext hb
  clear hb
  generalize w3.alloc (.cells #[.bool (sg v), .slice A3 (dig (nu v)).length c3, .slice B3 (dig v.den).length d3] 33) = V3 at *
  generalize w3.heap.size = g3 at *
  go_upto_region 4 with fail
  have held : ∀ {W' : World} {u : Array Value}, BL w W' [(w.heap.size, #[.int .i64 ia, .slice Aa la.length ca, .int .i64 fa, .int .i64 ta], 26), (w.heap.size + 1, #[.int .i64 ib, .slice Ab lb.length cb, .int .i64 fb, .int .i64 tb], 26), (w.heap.size + 2, u, 33), (g3, #[.bool (sg v), .slice A3 (dig (nu v)).length c3, .slice B3 (dig v.den).length d3], 33)] → W'.cell? ⟨g3, 0, none⟩ = some (.bool (sg v)) ∧ W'.cell? ⟨g3, 1, none⟩ = some (.slice A3 (dig (nu v)).length c3) ∧ W'.cell? ⟨g3, 2, none⟩ = some (.slice B3 (dig v.den).length d3) := fun h => ⟨h.cell 3 0 rfl rfl, h.cell 3 1 rfl rfl, h.cell 3 2 rfl rfl⟩
  replace HX := HX.ext (drew_ext _)
  replace F3 := F3.ext (drew_ext _)
  go_region_held3 (fun W' => W'.cell? ⟨g3, 0, none⟩ = some (.bool (sg v)) ∧ W'.cell? ⟨g3, 1, none⟩ = some (.slice A3 (dig (nu v)).length c3) ∧ W'.cell? ⟨g3, 2, none⟩ = some (.slice B3 (dig v.den).length d3))
    (first | exact held HX | exact held (HX.put3 2 rfl (by omega) (by intro k q hk hne; match k, hk with | 0, hk => (simp at hk; subst hk; simp at hne ⊢; try omega) | 1, hk => (simp at hk; subst hk; simp at hne ⊢; try omega) | 2, hk => (simp at hk; subst hk; simp at hne ⊢; try omega) | 3, hk => (simp at hk; subst hk; simp at hne ⊢; try omega) | k + 4, hk => simp at hk) _ _ _))
    (first
      | (go_at_call_of 63 (Value.int IntKind.i64 200); refine (qofq (by decide) HO1 (by decide) (by decide) (by decide)).mono ?_; rintro e w7 ⟨A7, c7, B7, d7, rfl, F7, hb⟩; replace HX := HX.ext hb; replace F3 := F3.ext hb; (try replace F8 := F8.ext hb); (try replace F9 := F9.ext hb); clear hb)
      | (go_at_call_of 63 (Value.int IntKind.i64 2); refine (qofq (by decide) HO2 (by decide) (by decide) (by decide)).mono ?_; rintro e w9 ⟨A9, c9, B9, d9, rfl, F9, hb⟩; replace HX := HX.ext hb; replace F3 := F3.ext hb; (try replace F7 := F7.ext hb); (try replace F8 := F8.ext hb); clear hb)
      | (go_at_call 65; refine (qsub_r HQ1 z1 F7.fr F3.fr (by omega) (by omega)).mono ?_; rintro e w8 ⟨A8, c8, B8, d8, rfl, F8, hb⟩; replace HX := HX.ext hb; replace F3 := F3.ext hb; (try replace F7 := F7.ext hb); (try replace F9 := F9.ext hb); clear hb)
      | (go_at_call 68; refine (qmul_r HM zu F8.fr F9.fr (by omega) (by omega)).mono ?_; rintro e w10 ⟨A5, c5, B5, d5, rfl, F5, hb⟩; replace HX := HX.ext hb; replace F3 := F3.ext hb; clear hb; have hc20 := HX.cell 2 0 rfl rfl; have hf20 := HX.free 2 0 rfl; have hc21 := HX.cell 2 1 rfl rfl; have hf21 := HX.free 2 1 rfl; have hc22 := HX.cell 2 2 rfl rfl; have hf22 := HX.free 2 2 rfl; (try simp only [List.getElem_toArray, List.getElem_cons_zero, List.getElem_cons_succ] at hc20 hf20 hc21 hf21 hc22 hf22)))
  all_goals (
    clear held hc20 hf20 hc21 hf21 hc22 hf22
    have hk := HX.keep3 2 rfl rfl rfl rfl (by omega) (.bool (sg u)) (.slice A5 (dig (nu u)).length c5) (.slice B5 (dig u.den).length d5)
    replace HX := HX.put3 2 rfl (by omega) (by intro k q hk hne; match k, hk with | 0, hk => (simp at hk; subst hk; simp at hne ⊢; try omega) | 1, hk => (simp at hk; subst hk; simp at hne ⊢; try omega) | 2, hk => (simp at hk; subst hk; simp at hne ⊢; try omega) | 3, hk => (simp at hk; subst hk; simp at hne ⊢; try omega) | k + 4, hk => simp at hk) (.bool (sg u)) (.slice A5 (dig (nu u)).length c5) (.slice B5 (dig u.den).length d5)
    replace F5 := F5.stay hk
    clear hk
    simp only [List.set_cons_zero, List.set_cons_succ] at HX
    have hc20 := HX.cell 2 0 rfl rfl
    have hc21 := HX.cell 2 1 rfl rfl
    have hc22 := HX.cell 2 2 rfl rfl
    try simp only [List.getElem_toArray, List.getElem_cons_zero, List.getElem_cons_succ] at hc20 hc21 hc22
    go_wp2
    exact bodyPost_ret (v := .tuple #[.agg #[.bool (sg u), .slice A5 (dig (nu u)).length c5, .slice B5 (dig u.den).length d5], .int .i64 0]) (by simp [results, Tryz.results30, go_sem, hc20, hc21, hc22]) rfl ⟨A5, c5, B5, d5, rfl, F5, HX.below⟩)
set_option maxHeartbeats 2000000 in
set_option maxRecDepth 100000 in
theorem rdist_no {ia fa ta ib fb tb : Int} (Aa Ab : Option Addr) (ca cb : Nat) (la lb : List (Int × Int)) (w : World) (HA : Es w Aa la) (HB : Es w Ab lb) (hla : la.length ≤ 9223372036854775807) (hlb : lb.length ≤ 9223372036854775807) (hn : ¬ (HV ia la fa ta ∧ HV ib lb fb tb)) :
    Calls Tryz.prog 30 #[.agg #[.int .i64 ia, .slice Aa la.length ca, .int .i64 fa, .int .i64 ta], .agg #[.int .i64 ib, .slice Ab lb.length cb, .int .i64 fb, .int .i64 tb]] w (RetZE w 1) := by
  have HN := Lib.hid hn
  clear hn
  go_enter Tryz.func30, Tryz.ntmps30
  go_wp2_with fail
  have HX := BL.three w #[.int .i64 ia, .slice Aa la.length ca, .int .i64 fa, .int .i64 ta] #[.int .i64 ib, .slice Ab lb.length cb, .int .i64 fb, .int .i64 tb] #[.bool false, .slice none 0 0, .slice none 0 0] 26 26 33
  replace HA := HA.ext HX.below
  replace HB := HB.ext HX.below
  refine (rcoef_no Aa Ab ca cb la lb _ HA HB hla hlb HN.out).mono ?_
  rintro e w3 ⟨rfl, hb⟩
  clear HA HB
  replace HX := HX.ext hb
  clear hb
  go_upto_region 2 with fail
  have hl0 := HX.lt 0 rfl
  have hl1 := HX.lt 1 rfl
  have hl2 := HX.lt 2 rfl
  simp only [] at hl0 hl1 hl2
  replace HX := HX.new #[.bool false, .slice none 0 0, .slice none 0 0] 33
  simp only [List.cons_append, List.nil_append] at HX
  generalize w3.alloc (.cells #[.bool false, .slice none 0 0, .slice none 0 0] 33) = V3 at *
  generalize w3.heap.size = g3 at *
  have hc20 := HX.cell 2 0 rfl rfl
  have hf20 := HX.free 2 0 rfl
  have hc21 := HX.cell 2 1 rfl rfl
  have hf21 := HX.free 2 1 rfl
  have hc22 := HX.cell 2 2 rfl rfl
  have hf22 := HX.free 2 2 rfl
  try simp only [List.getElem_toArray, List.getElem_cons_zero, List.getElem_cons_succ] at hc20 hf20 hc21 hf21 hc22 hf22
  go_wp2
  clear hc20 hf20 hc21 hf21 hc22 hf22
  replace HX := HX.put3 2 rfl (by omega) (by intro k q hk hne; match k, hk with | 0, hk => (simp at hk; subst hk; simp at hne ⊢; try omega) | 1, hk => (simp at hk; subst hk; simp at hne ⊢; try omega) | 2, hk => (simp at hk; subst hk; simp at hne ⊢; try omega) | 3, hk => (simp at hk; subst hk; simp at hne ⊢; try omega) | k + 4, hk => simp at hk) (.bool false) (.slice none 0 0) (.slice none 0 0)
  simp only [List.set_cons_zero, List.set_cons_succ] at HX
  have hc20 := HX.cell 2 0 rfl rfl
  have hc21 := HX.cell 2 1 rfl rfl
  have hc22 := HX.cell 2 2 rfl rfl
  try simp only [List.getElem_toArray, List.getElem_cons_zero, List.getElem_cons_succ] at hc20 hc21 hc22
  exact bodyPost_ret (v := .tuple #[.agg #[.bool false, .slice none 0 0, .slice none 0 0], .int .i64 1]) (by simp [results, Tryz.results30, go_sem, hc20, hc21, hc22]) rfl ⟨rfl, HX.below⟩
end Go.Proofs.YthempimelfmipaaGreatDoor

namespace Go.Proofs.YthempimelfmipaaGreatDoor
open Go.RowKit Go.Proofs Go

set_option maxHeartbeats 2000000 in
set_option maxRecDepth 100000 in
theorem pr_few {ia fa ta ib fb tb : Int} {Aa Ab : Option Addr} {ca cb : Nat} {la lb : List (Int × Int)} (w : World) (hT : Tab w) (EA : Es w Aa la) (hla : la.length ≤ 9223372036854775807) (EB : Es w Ab lb) (hlb : lb.length ≤ 9223372036854775807) (hfew : fewS [⟨ia, Aa, ca, la, fa, ta⟩, ⟨ib, Ab, cb, lb, fb, tb⟩] = false) :
    Calls Tryz.prog 7 #[.agg #[.int .i64 ia, .slice Aa la.length ca, .int .i64 fa, .int .i64 ta], .agg #[.int .i64 ib, .slice Ab lb.length cb, .int .i64 fb, .int .i64 tb]] w (RetB w true) := by
  go_enter Tryz.func7, Tryz.ntmps7
  go_wp2_with fail
  have HX := BL.two w #[.int .i64 ia, .slice Aa la.length ca, .int .i64 fa, .int .i64 ta] #[.int .i64 ib, .slice Ab lb.length cb, .int .i64 fb, .int .i64 tb] 26 26
  replace hT := hT.ext HX.below
  replace EA := EA.ext HX.below
  replace EB := EB.ext HX.below
  refine (awake_any _ hT).mono ?_
  rintro e wA ⟨rfl, hb⟩
  replace HX := HX.ext hb
  replace hT := hT.ext hb
  replace EA := EA.ext hb
  replace EB := EB.ext hb
  clear hb
  have hc00 := HX.cell 0 0 rfl rfl
  have hc01 := HX.cell 0 1 rfl rfl
  have hc02 := HX.cell 0 2 rfl rfl
  have hc03 := HX.cell 0 3 rfl rfl
  try simp only [List.getElem_toArray, List.getElem_cons_zero, List.getElem_cons_succ] at hc00 hc01 hc02 hc03
  have hc10 := HX.cell 1 0 rfl rfl
  have hc11 := HX.cell 1 1 rfl rfl
  have hc12 := HX.cell 1 2 rfl rfl
  have hc13 := HX.cell 1 3 rfl rfl
  try simp only [List.getElem_toArray, List.getElem_cons_zero, List.getElem_cons_succ] at hc10 hc11 hc12 hc13
  have HLL := HL.lit wA 26 [⟨ia, Aa, ca, la, fa, ta⟩, ⟨ib, Ab, cb, lb, fb, tb⟩] #[.int .i64 ia, .slice Aa la.length ca, .int .i64 fa, .int .i64 ta, .int .i64 ib, .slice Ab lb.length cb, .int .i64 fb, .int .i64 tb] rfl (fun i x hx => by
    match i, hx with
    | 0, hx => simp at hx; subst hx; exact ⟨EA, hla⟩
    | 1, hx => simp at hx; subst hx; exact ⟨EB, hlb⟩
    | i + 2, hx => simp at hx)
  have hb := below_alloc wA (.cells #[.int .i64 ia, .slice Aa la.length ca, .int .i64 fa, .int .i64 ta, .int .i64 ib, .slice Ab lb.length cb, .int .i64 fb, .int .i64 tb] 26)
  have cF : Calls Tryz.prog 12 #[.slice (some ⟨wA.heap.size, 0, none⟩) 2 2] (wA.alloc (.cells #[.int .i64 ia, .slice Aa la.length ca, .int .i64 fa, .int .i64 ta, .int .i64 ib, .slice Ab lb.length cb, .int .i64 fb, .int .i64 tb] 26)) (RetB (wA.alloc (.cells #[.int .i64 ia, .slice Aa la.length ca, .int .i64 fa, .int .i64 ta, .int .i64 ib, .slice Ab lb.length cb, .int .i64 fb, .int .i64 tb] 26)) false) := by
    have h := few_any (some ⟨wA.heap.size, 0, none⟩) 2 [⟨ia, Aa, ca, la, fa, ta⟩, ⟨ib, Ab, cb, lb, fb, tb⟩] _ HLL (by simp)
    rw [hfew] at h
    exact h
  go_wp2_with fail
  refine cF.mono ?_
  rintro e wB ⟨rfl, hb2⟩
  replace hb := bel_trans hb hb2
  clear hb2 cF HLL hc00 hc01 hc02 hc03 hc10 hc11 hc12 hc13
  replace HX := HX.ext hb
  replace hT := hT.ext hb
  replace EA := EA.ext hb
  replace EB := EB.ext hb
  clear hb
  go_wp2_with fail
  refine (awake_any _ hT).mono ?_
  rintro e wz ⟨rfl, hb⟩
  replace HX := HX.ext hb
  clear hb
  go_wp2
  go_ret
  exact ⟨by first | rfl | simp, HX.below⟩
set_option maxHeartbeats 4000000 in
set_option maxRecDepth 100000 in
theorem pr_no {ia fa ta ib fb tb : Int} {Aa Ab : Option Addr} {ca cb : Nat} {la lb : List (Int × Int)} (w : World) (hT : Tab w) (EA : Es w Aa la) (hla : la.length ≤ 9223372036854775807) (EB : Es w Ab lb) (hlb : lb.length ≤ 9223372036854775807) (hfew : fewS [⟨ia, Aa, ca, la, fa, ta⟩, ⟨ib, Ab, cb, lb, fb, tb⟩] = true) (hn : ¬ (HV ia la fa ta ∧ HV ib lb fb tb)) :
    Calls Tryz.prog 7 #[.agg #[.int .i64 ia, .slice Aa la.length ca, .int .i64 fa, .int .i64 ta], .agg #[.int .i64 ib, .slice Ab lb.length cb, .int .i64 fb, .int .i64 tb]] w (RetB w true) := by
  have HN := Lib.hid hn
  clear hn
  go_enter Tryz.func7, Tryz.ntmps7
  go_wp2_with fail
  have HX := BL.two w #[.int .i64 ia, .slice Aa la.length ca, .int .i64 fa, .int .i64 ta] #[.int .i64 ib, .slice Ab lb.length cb, .int .i64 fb, .int .i64 tb] 26 26
  replace hT := hT.ext HX.below
  replace EA := EA.ext HX.below
  replace EB := EB.ext HX.below
  refine (awake_any _ hT).mono ?_
  rintro e wA ⟨rfl, hb⟩
  replace HX := HX.ext hb
  replace hT := hT.ext hb
  replace EA := EA.ext hb
  replace EB := EB.ext hb
  clear hb
  have hc00 := HX.cell 0 0 rfl rfl
  have hc01 := HX.cell 0 1 rfl rfl
  have hc02 := HX.cell 0 2 rfl rfl
  have hc03 := HX.cell 0 3 rfl rfl
  try simp only [List.getElem_toArray, List.getElem_cons_zero, List.getElem_cons_succ] at hc00 hc01 hc02 hc03
  have hc10 := HX.cell 1 0 rfl rfl
  have hc11 := HX.cell 1 1 rfl rfl
  have hc12 := HX.cell 1 2 rfl rfl
  have hc13 := HX.cell 1 3 rfl rfl
  try simp only [List.getElem_toArray, List.getElem_cons_zero, List.getElem_cons_succ] at hc10 hc11 hc12 hc13
  have HLL := HL.lit wA 26 [⟨ia, Aa, ca, la, fa, ta⟩, ⟨ib, Ab, cb, lb, fb, tb⟩] #[.int .i64 ia, .slice Aa la.length ca, .int .i64 fa, .int .i64 ta, .int .i64 ib, .slice Ab lb.length cb, .int .i64 fb, .int .i64 tb] rfl (fun i x hx => by
    match i, hx with
    | 0, hx => simp at hx; subst hx; exact ⟨EA, hla⟩
    | 1, hx => simp at hx; subst hx; exact ⟨EB, hlb⟩
    | i + 2, hx => simp at hx)
  have hb := below_alloc wA (.cells #[.int .i64 ia, .slice Aa la.length ca, .int .i64 fa, .int .i64 ta, .int .i64 ib, .slice Ab lb.length cb, .int .i64 fb, .int .i64 tb] 26)
  have cF : Calls Tryz.prog 12 #[.slice (some ⟨wA.heap.size, 0, none⟩) 2 2] (wA.alloc (.cells #[.int .i64 ia, .slice Aa la.length ca, .int .i64 fa, .int .i64 ta, .int .i64 ib, .slice Ab lb.length cb, .int .i64 fb, .int .i64 tb] 26)) (RetB (wA.alloc (.cells #[.int .i64 ia, .slice Aa la.length ca, .int .i64 fa, .int .i64 ta, .int .i64 ib, .slice Ab lb.length cb, .int .i64 fb, .int .i64 tb] 26)) true) := by
    have h := few_any (some ⟨wA.heap.size, 0, none⟩) 2 [⟨ia, Aa, ca, la, fa, ta⟩, ⟨ib, Ab, cb, lb, fb, tb⟩] _ HLL (by simp)
    rw [hfew] at h
    exact h
  go_wp2_with fail
  refine cF.mono ?_
  rintro e wB ⟨rfl, hb2⟩
  replace hb := bel_trans hb hb2
  clear hb2 cF HLL hc00 hc01 hc02 hc03 hc10 hc11 hc12 hc13
  replace HX := HX.ext hb
  replace hT := hT.ext hb
  replace EA := EA.ext hb
  replace EB := EB.ext hb
  clear hb
  have hc00 := HX.cell 0 0 rfl rfl
  have hc01 := HX.cell 0 1 rfl rfl
  have hc02 := HX.cell 0 2 rfl rfl
  have hc03 := HX.cell 0 3 rfl rfl
  try simp only [List.getElem_toArray, List.getElem_cons_zero, List.getElem_cons_succ] at hc00 hc01 hc02 hc03
  have hc10 := HX.cell 1 0 rfl rfl
  have hc11 := HX.cell 1 1 rfl rfl
  have hc12 := HX.cell 1 2 rfl rfl
  have hc13 := HX.cell 1 3 rfl rfl
  try simp only [List.getElem_toArray, List.getElem_cons_zero, List.getElem_cons_succ] at hc10 hc11 hc12 hc13
  go_wp2_with fail
  refine (coeff_no Aa Ab ca cb la lb _ EA EB hla hlb HN.out).mono ?_
  rintro e w1 ⟨rfl, hb⟩
  clear hc00 hc01 hc02 hc03
  clear hc10 hc11 hc12 hc13
  replace HX := HX.ext hb
  replace hT := hT.ext hb
  replace EA := EA.ext hb
  replace EB := EB.ext hb
  clear hb
  go_upto_region 4 with fail
  have hb := below_alloc w1 (.cells #[.bool false, .slice none 0 0, .slice none 0 0] 33)
  replace HX := HX.new #[.bool false, .slice none 0 0, .slice none 0 0] 33
  simp only [List.cons_append, List.nil_append] at HX
  replace hT := hT.ext hb
  replace EA := EA.ext hb
  replace EB := EB.ext hb
  clear hb
  generalize w1.alloc (.cells #[.bool false, .slice none 0 0, .slice none 0 0] 33) = V1 at *
  generalize w1.heap.size = g1 at *
  have hc00 := HX.cell 0 0 rfl rfl
  have hc01 := HX.cell 0 1 rfl rfl
  have hc02 := HX.cell 0 2 rfl rfl
  have hc03 := HX.cell 0 3 rfl rfl
  try simp only [List.getElem_toArray, List.getElem_cons_zero, List.getElem_cons_succ] at hc00 hc01 hc02 hc03
  have hc10 := HX.cell 1 0 rfl rfl
  have hc11 := HX.cell 1 1 rfl rfl
  have hc12 := HX.cell 1 2 rfl rfl
  have hc13 := HX.cell 1 3 rfl rfl
  try simp only [List.getElem_toArray, List.getElem_cons_zero, List.getElem_cons_succ] at hc10 hc11 hc12 hc13
  go_wp2_with fail
  refine (rcoef_no Aa Ab ca cb la lb _ EA EB hla hlb HN.out).mono ?_
  rintro e w2 ⟨rfl, hb⟩
  clear hc00 hc01 hc02 hc03
  clear hc10 hc11 hc12 hc13
  replace HX := HX.ext hb
  replace hT := hT.ext hb
  replace EA := EA.ext hb
  replace EB := EB.ext hb
  clear hb
  go_upto_region 5 with fail
  have hb := below_alloc w2 (.cells #[.bool false, .slice none 0 0, .slice none 0 0] 33)
  replace HX := HX.new #[.bool false, .slice none 0 0, .slice none 0 0] 33
  simp only [List.cons_append, List.nil_append] at HX
  replace hT := hT.ext hb
  replace EA := EA.ext hb
  replace EB := EB.ext hb
  clear hb
  generalize w2.alloc (.cells #[.bool false, .slice none 0 0, .slice none 0 0] 33) = V2 at *
  generalize w2.heap.size = g2 at *
  have hc00 := HX.cell 0 0 rfl rfl
  have hc01 := HX.cell 0 1 rfl rfl
  have hc02 := HX.cell 0 2 rfl rfl
  have hc03 := HX.cell 0 3 rfl rfl
  try simp only [List.getElem_toArray, List.getElem_cons_zero, List.getElem_cons_succ] at hc00 hc01 hc02 hc03
  have hc10 := HX.cell 1 0 rfl rfl
  have hc11 := HX.cell 1 1 rfl rfl
  have hc12 := HX.cell 1 2 rfl rfl
  have hc13 := HX.cell 1 3 rfl rfl
  try simp only [List.getElem_toArray, List.getElem_cons_zero, List.getElem_cons_succ] at hc10 hc11 hc12 hc13
  go_wp2_with fail
  refine (dist_no Aa Ab ca cb la lb _ EA EB hla hlb HN.out).mono ?_
  rintro e w3 ⟨rfl, hb⟩
  clear hc00 hc01 hc02 hc03
  clear hc10 hc11 hc12 hc13
  replace HX := HX.ext hb
  replace hT := hT.ext hb
  replace EA := EA.ext hb
  replace EB := EB.ext hb
  clear hb
  go_upto_region 6 with fail
  have hb := below_alloc w3 (.cells #[.bool false, .slice none 0 0, .slice none 0 0] 33)
  replace HX := HX.new #[.bool false, .slice none 0 0, .slice none 0 0] 33
  simp only [List.cons_append, List.nil_append] at HX
  replace hT := hT.ext hb
  replace EA := EA.ext hb
  replace EB := EB.ext hb
  clear hb
  generalize w3.alloc (.cells #[.bool false, .slice none 0 0, .slice none 0 0] 33) = V3 at *
  generalize w3.heap.size = g3 at *
  have hc00 := HX.cell 0 0 rfl rfl
  have hc01 := HX.cell 0 1 rfl rfl
  have hc02 := HX.cell 0 2 rfl rfl
  have hc03 := HX.cell 0 3 rfl rfl
  try simp only [List.getElem_toArray, List.getElem_cons_zero, List.getElem_cons_succ] at hc00 hc01 hc02 hc03
  have hc10 := HX.cell 1 0 rfl rfl
  have hc11 := HX.cell 1 1 rfl rfl
  have hc12 := HX.cell 1 2 rfl rfl
  have hc13 := HX.cell 1 3 rfl rfl
  try simp only [List.getElem_toArray, List.getElem_cons_zero, List.getElem_cons_succ] at hc10 hc11 hc12 hc13
  go_wp2_with fail
  refine (rdist_no Aa Ab ca cb la lb _ EA EB hla hlb HN.out).mono ?_
  rintro e w4 ⟨rfl, hb⟩
  clear hc00 hc01 hc02 hc03
  clear hc10 hc11 hc12 hc13
  replace HX := HX.ext hb
  replace hT := hT.ext hb
  replace EA := EA.ext hb
  replace EB := EB.ext hb
  clear hb
  go_upto_region 7 with fail
  have hb := below_alloc w4 (.cells #[.bool false, .slice none 0 0, .slice none 0 0] 33)
  replace HX := HX.new #[.bool false, .slice none 0 0, .slice none 0 0] 33
  simp only [List.cons_append, List.nil_append] at HX
  replace hT := hT.ext hb
  replace EA := EA.ext hb
  replace EB := EB.ext hb
  clear hb
  generalize w4.alloc (.cells #[.bool false, .slice none 0 0, .slice none 0 0] 33) = V4 at *
  generalize w4.heap.size = g4 at *
  have hc20 := HX.cell 2 0 rfl rfl
  have hc21 := HX.cell 2 1 rfl rfl
  have hc22 := HX.cell 2 2 rfl rfl
  try simp only [List.getElem_toArray, List.getElem_cons_zero, List.getElem_cons_succ] at hc20 hc21 hc22
  have hc30 := HX.cell 3 0 rfl rfl
  have hc31 := HX.cell 3 1 rfl rfl
  have hc32 := HX.cell 3 2 rfl rfl
  try simp only [List.getElem_toArray, List.getElem_cons_zero, List.getElem_cons_succ] at hc30 hc31 hc32
  go_wp2_with fail
  refine (bfrac_0).mono ?_
  rintro e w20 ⟨rfl, hb⟩
  clear hc20 hc21 hc22
  clear hc30 hc31 hc32
  replace HX := HX.ext hb
  replace hT := hT.ext hb
  replace EA := EA.ext hb
  replace EB := EB.ext hb
  clear hb
  have hc40 := HX.cell 4 0 rfl rfl
  have hc41 := HX.cell 4 1 rfl rfl
  have hc42 := HX.cell 4 2 rfl rfl
  try simp only [List.getElem_toArray, List.getElem_cons_zero, List.getElem_cons_succ] at hc40 hc41 hc42
  have hc50 := HX.cell 5 0 rfl rfl
  have hc51 := HX.cell 5 1 rfl rfl
  have hc52 := HX.cell 5 2 rfl rfl
  try simp only [List.getElem_toArray, List.getElem_cons_zero, List.getElem_cons_succ] at hc50 hc51 hc52
  go_wp2_with fail
  refine (bfrac_0).mono ?_
  rintro e w21 ⟨rfl, hb⟩
  clear hc40 hc41 hc42
  clear hc50 hc51 hc52
  replace HX := HX.ext hb
  replace hT := hT.ext hb
  replace EA := EA.ext hb
  replace EB := EB.ext hb
  clear hb
  go_wp2
  go_ret
  exact ⟨by first | rfl | simp, HX.below⟩
set_option maxHeartbeats 8000000 in
set_option maxRecDepth 100000 in
theorem pr_ok {ia fa ta ib fb tb : Int} {Aa Ab : Option Addr} {ca cb : Nat} {la lb : List (Int × Int)} (w : World) (hT : Tab w) (EA : Es w Aa la) (hla : la.length ≤ 9223372036854775807) (EB : Es w Ab lb) (hlb : lb.length ≤ 9223372036854775807) (hfew : fewS [⟨ia, Aa, ca, la, fa, ta⟩, ⟨ib, Ab, cb, lb, fb, tb⟩] = true) (va : HV ia la fa ta) (vb : HV ib lb fb tb) :
    Calls Tryz.prog 7 #[.agg #[.int .i64 ia, .slice Aa la.length ca, .int .i64 fa, .int .i64 ta], .agg #[.int .i64 ib, .slice Ab lb.length cb, .int .i64 fb, .int .i64 tb]] w (RetB w true) := by
  have VA := Lib.hid va
  have VB := Lib.hid vb
  obtain ⟨q, HQ⟩ : ∃ q, Hid (coD la lb 99 = q) := ⟨_, Lib.hid rfl⟩
  obtain ⟨p, HP⟩ : ∃ q, Hid (disD la lb = q) := ⟨_, Lib.hid rfl⟩
  clear va vb
  go_enter Tryz.func7, Tryz.ntmps7
  go_wp2_with fail
  have HX := BL.two w #[.int .i64 ia, .slice Aa la.length ca, .int .i64 fa, .int .i64 ta] #[.int .i64 ib, .slice Ab lb.length cb, .int .i64 fb, .int .i64 tb] 26 26
  replace hT := hT.ext HX.below
  replace EA := EA.ext HX.below
  replace EB := EB.ext HX.below
  refine (awake_any _ hT).mono ?_
  rintro e wA ⟨rfl, hb⟩
  replace HX := HX.ext hb
  replace hT := hT.ext hb
  replace EA := EA.ext hb
  replace EB := EB.ext hb
  clear hb
  have hc00 := HX.cell 0 0 rfl rfl
  have hc01 := HX.cell 0 1 rfl rfl
  have hc02 := HX.cell 0 2 rfl rfl
  have hc03 := HX.cell 0 3 rfl rfl
  try simp only [List.getElem_toArray, List.getElem_cons_zero, List.getElem_cons_succ] at hc00 hc01 hc02 hc03
  have hc10 := HX.cell 1 0 rfl rfl
  have hc11 := HX.cell 1 1 rfl rfl
  have hc12 := HX.cell 1 2 rfl rfl
  have hc13 := HX.cell 1 3 rfl rfl
  try simp only [List.getElem_toArray, List.getElem_cons_zero, List.getElem_cons_succ] at hc10 hc11 hc12 hc13
  have HLL := HL.lit wA 26 [⟨ia, Aa, ca, la, fa, ta⟩, ⟨ib, Ab, cb, lb, fb, tb⟩] #[.int .i64 ia, .slice Aa la.length ca, .int .i64 fa, .int .i64 ta, .int .i64 ib, .slice Ab lb.length cb, .int .i64 fb, .int .i64 tb] rfl (fun i x hx => by
    match i, hx with
    | 0, hx => simp at hx; subst hx; exact ⟨EA, hla⟩
    | 1, hx => simp at hx; subst hx; exact ⟨EB, hlb⟩
    | i + 2, hx => simp at hx)
  have hb := below_alloc wA (.cells #[.int .i64 ia, .slice Aa la.length ca, .int .i64 fa, .int .i64 ta, .int .i64 ib, .slice Ab lb.length cb, .int .i64 fb, .int .i64 tb] 26)
  have cF : Calls Tryz.prog 12 #[.slice (some ⟨wA.heap.size, 0, none⟩) 2 2] (wA.alloc (.cells #[.int .i64 ia, .slice Aa la.length ca, .int .i64 fa, .int .i64 ta, .int .i64 ib, .slice Ab lb.length cb, .int .i64 fb, .int .i64 tb] 26)) (RetB (wA.alloc (.cells #[.int .i64 ia, .slice Aa la.length ca, .int .i64 fa, .int .i64 ta, .int .i64 ib, .slice Ab lb.length cb, .int .i64 fb, .int .i64 tb] 26)) true) := by
    have h := few_any (some ⟨wA.heap.size, 0, none⟩) 2 [⟨ia, Aa, ca, la, fa, ta⟩, ⟨ib, Ab, cb, lb, fb, tb⟩] _ HLL (by simp)
    rw [hfew] at h
    exact h
  go_wp2_with fail
  refine cF.mono ?_
  rintro e wB ⟨rfl, hb2⟩
  replace hb := bel_trans hb hb2
  clear hb2 cF HLL hc00 hc01 hc02 hc03 hc10 hc11 hc12 hc13
  replace HX := HX.ext hb
  replace hT := hT.ext hb
  replace EA := EA.ext hb
  replace EB := EB.ext hb
  clear hb
  have hc00 := HX.cell 0 0 rfl rfl
  have hc01 := HX.cell 0 1 rfl rfl
  have hc02 := HX.cell 0 2 rfl rfl
  have hc03 := HX.cell 0 3 rfl rfl
  try simp only [List.getElem_toArray, List.getElem_cons_zero, List.getElem_cons_succ] at hc00 hc01 hc02 hc03
  have hc10 := HX.cell 1 0 rfl rfl
  have hc11 := HX.cell 1 1 rfl rfl
  have hc12 := HX.cell 1 2 rfl rfl
  have hc13 := HX.cell 1 3 rfl rfl
  try simp only [List.getElem_toArray, List.getElem_cons_zero, List.getElem_cons_succ] at hc10 hc11 hc12 hc13
  go_wp2_with fail
  refine (coeff_any Aa Ab ca cb la lb _ EA EB hla hlb VA.out VB.out HQ).mono ?_
  rintro e w1 ⟨A5, c5, B5, d5, rfl, F5, hb⟩
  clear hc00 hc01 hc02 hc03
  clear hc10 hc11 hc12 hc13
  replace HX := HX.ext hb
  replace hT := hT.ext hb
  replace EA := EA.ext hb
  replace EB := EB.ext hb
  clear hb
  go_upto_region 4 with fail
  have hb := below_alloc w1 (.cells #[.bool (sg q), .slice A5 (dig (nu q)).length c5, .slice B5 (dig q.den).length d5] 33)
  replace HX := HX.new #[.bool (sg q), .slice A5 (dig (nu q)).length c5, .slice B5 (dig q.den).length d5] 33
  simp only [List.cons_append, List.nil_append] at HX
  replace hT := hT.ext hb
  replace EA := EA.ext hb
  replace EB := EB.ext hb
  replace F5 := F5.ext hb
  clear hb
  generalize w1.alloc (.cells #[.bool (sg q), .slice A5 (dig (nu q)).length c5, .slice B5 (dig q.den).length d5] 33) = V1 at *
  generalize w1.heap.size = g1 at *
  have hc00 := HX.cell 0 0 rfl rfl
  have hc01 := HX.cell 0 1 rfl rfl
  have hc02 := HX.cell 0 2 rfl rfl
  have hc03 := HX.cell 0 3 rfl rfl
  try simp only [List.getElem_toArray, List.getElem_cons_zero, List.getElem_cons_succ] at hc00 hc01 hc02 hc03
  have hc10 := HX.cell 1 0 rfl rfl
  have hc11 := HX.cell 1 1 rfl rfl
  have hc12 := HX.cell 1 2 rfl rfl
  have hc13 := HX.cell 1 3 rfl rfl
  try simp only [List.getElem_toArray, List.getElem_cons_zero, List.getElem_cons_succ] at hc10 hc11 hc12 hc13
  go_wp2_with fail
  refine (rcoef_any Aa Ab ca cb la lb _ EA EB hla hlb VA.out VB.out HQ).mono ?_
  rintro e w2 ⟨A6, c6, B6, d6, rfl, F6, hb⟩
  clear hc00 hc01 hc02 hc03
  clear hc10 hc11 hc12 hc13
  replace HX := HX.ext hb
  replace hT := hT.ext hb
  replace EA := EA.ext hb
  replace EB := EB.ext hb
  replace F5 := F5.ext hb
  clear hb
  go_upto_region 5 with fail
  have hb := below_alloc w2 (.cells #[.bool (sg q), .slice A6 (dig (nu q)).length c6, .slice B6 (dig q.den).length d6] 33)
  replace HX := HX.new #[.bool (sg q), .slice A6 (dig (nu q)).length c6, .slice B6 (dig q.den).length d6] 33
  simp only [List.cons_append, List.nil_append] at HX
  replace hT := hT.ext hb
  replace EA := EA.ext hb
  replace EB := EB.ext hb
  replace F5 := F5.ext hb
  replace F6 := F6.ext hb
  clear hb
  generalize w2.alloc (.cells #[.bool (sg q), .slice A6 (dig (nu q)).length c6, .slice B6 (dig q.den).length d6] 33) = V2 at *
  generalize w2.heap.size = g2 at *
  have hc00 := HX.cell 0 0 rfl rfl
  have hc01 := HX.cell 0 1 rfl rfl
  have hc02 := HX.cell 0 2 rfl rfl
  have hc03 := HX.cell 0 3 rfl rfl
  try simp only [List.getElem_toArray, List.getElem_cons_zero, List.getElem_cons_succ] at hc00 hc01 hc02 hc03
  have hc10 := HX.cell 1 0 rfl rfl
  have hc11 := HX.cell 1 1 rfl rfl
  have hc12 := HX.cell 1 2 rfl rfl
  have hc13 := HX.cell 1 3 rfl rfl
  try simp only [List.getElem_toArray, List.getElem_cons_zero, List.getElem_cons_succ] at hc10 hc11 hc12 hc13
  go_wp2_with fail
  refine (dist_any Aa Ab ca cb la lb _ EA EB hla hlb VA.out VB.out HP).mono ?_
  rintro e w3 ⟨A7, c7, B7, d7, rfl, F7, hb⟩
  clear hc00 hc01 hc02 hc03
  clear hc10 hc11 hc12 hc13
  replace HX := HX.ext hb
  replace hT := hT.ext hb
  replace EA := EA.ext hb
  replace EB := EB.ext hb
  replace F5 := F5.ext hb
  replace F6 := F6.ext hb
  clear hb
  go_upto_region 6 with fail
  have hb := below_alloc w3 (.cells #[.bool (sg p), .slice A7 (dig (nu p)).length c7, .slice B7 (dig p.den).length d7] 33)
  replace HX := HX.new #[.bool (sg p), .slice A7 (dig (nu p)).length c7, .slice B7 (dig p.den).length d7] 33
  simp only [List.cons_append, List.nil_append] at HX
  replace hT := hT.ext hb
  replace EA := EA.ext hb
  replace EB := EB.ext hb
  replace F5 := F5.ext hb
  replace F6 := F6.ext hb
  replace F7 := F7.ext hb
  clear hb
  generalize w3.alloc (.cells #[.bool (sg p), .slice A7 (dig (nu p)).length c7, .slice B7 (dig p.den).length d7] 33) = V3 at *
  generalize w3.heap.size = g3 at *
  have hc00 := HX.cell 0 0 rfl rfl
  have hc01 := HX.cell 0 1 rfl rfl
  have hc02 := HX.cell 0 2 rfl rfl
  have hc03 := HX.cell 0 3 rfl rfl
  try simp only [List.getElem_toArray, List.getElem_cons_zero, List.getElem_cons_succ] at hc00 hc01 hc02 hc03
  have hc10 := HX.cell 1 0 rfl rfl
  have hc11 := HX.cell 1 1 rfl rfl
  have hc12 := HX.cell 1 2 rfl rfl
  have hc13 := HX.cell 1 3 rfl rfl
  try simp only [List.getElem_toArray, List.getElem_cons_zero, List.getElem_cons_succ] at hc10 hc11 hc12 hc13
  go_wp2_with fail
  refine (rdist_any Aa Ab ca cb la lb _ EA EB hla hlb VA.out VB.out HP).mono ?_
  rintro e w4 ⟨A8, c8, B8, d8, rfl, F8, hb⟩
  clear hc00 hc01 hc02 hc03
  clear hc10 hc11 hc12 hc13
  replace HX := HX.ext hb
  replace hT := hT.ext hb
  replace EA := EA.ext hb
  replace EB := EB.ext hb
  replace F5 := F5.ext hb
  replace F6 := F6.ext hb
  replace F7 := F7.ext hb
  clear hb
  go_upto_region 7 with fail
  have hb := below_alloc w4 (.cells #[.bool (sg p), .slice A8 (dig (nu p)).length c8, .slice B8 (dig p.den).length d8] 33)
  replace HX := HX.new #[.bool (sg p), .slice A8 (dig (nu p)).length c8, .slice B8 (dig p.den).length d8] 33
  simp only [List.cons_append, List.nil_append] at HX
  replace hT := hT.ext hb
  replace EA := EA.ext hb
  replace EB := EB.ext hb
  replace F5 := F5.ext hb
  replace F6 := F6.ext hb
  replace F7 := F7.ext hb
  replace F8 := F8.ext hb
  clear hb
  generalize w4.alloc (.cells #[.bool (sg p), .slice A8 (dig (nu p)).length c8, .slice B8 (dig p.den).length d8] 33) = V4 at *
  generalize w4.heap.size = g4 at *
  have hc20 := HX.cell 2 0 rfl rfl
  have hc21 := HX.cell 2 1 rfl rfl
  have hc22 := HX.cell 2 2 rfl rfl
  try simp only [List.getElem_toArray, List.getElem_cons_zero, List.getElem_cons_succ] at hc20 hc21 hc22
  have hc30 := HX.cell 3 0 rfl rfl
  have hc31 := HX.cell 3 1 rfl rfl
  have hc32 := HX.cell 3 2 rfl rfl
  try simp only [List.getElem_toArray, List.getElem_cons_zero, List.getElem_cons_succ] at hc30 hc31 hc32
  go_wp2_with fail
  refine (bfrac_s F5 F6 (by omega) (by omega)).mono ?_
  rintro e w20 ⟨rfl, hb⟩
  clear hc20 hc21 hc22
  clear hc30 hc31 hc32
  replace HX := HX.ext hb
  replace hT := hT.ext hb
  replace EA := EA.ext hb
  replace EB := EB.ext hb
  replace F5 := F5.ext hb
  replace F6 := F6.ext hb
  replace F7 := F7.ext hb
  replace F8 := F8.ext hb
  clear hb
  have hc40 := HX.cell 4 0 rfl rfl
  have hc41 := HX.cell 4 1 rfl rfl
  have hc42 := HX.cell 4 2 rfl rfl
  try simp only [List.getElem_toArray, List.getElem_cons_zero, List.getElem_cons_succ] at hc40 hc41 hc42
  have hc50 := HX.cell 5 0 rfl rfl
  have hc51 := HX.cell 5 1 rfl rfl
  have hc52 := HX.cell 5 2 rfl rfl
  try simp only [List.getElem_toArray, List.getElem_cons_zero, List.getElem_cons_succ] at hc50 hc51 hc52
  go_wp2_with fail
  refine (bfrac_s F7 F8 (by omega) (by omega)).mono ?_
  rintro e w21 ⟨rfl, hb⟩
  clear hc40 hc41 hc42
  clear hc50 hc51 hc52
  replace HX := HX.ext hb
  replace hT := hT.ext hb
  replace EA := EA.ext hb
  replace EB := EB.ext hb
  replace F5 := F5.ext hb
  replace F6 := F6.ext hb
  replace F7 := F7.ext hb
  replace F8 := F8.ext hb
  clear hb
  go_wp2
  go_ret
  exact ⟨by first | rfl | simp, HX.below⟩
set_option maxHeartbeats 1000000 in
set_option maxRecDepth 100000 in
theorem pairs_any {ia fa ta ib fb tb : Int} {Aa Ab : Option Addr} {ca cb : Nat} {la lb : List (Int × Int)} (w : World) (hT : Tab w) (EA : Es w Aa la) (hla : la.length ≤ 9223372036854775807) (EB : Es w Ab lb) (hlb : lb.length ≤ 9223372036854775807) :
    Calls Tryz.prog 7 #[.agg #[.int .i64 ia, .slice Aa la.length ca, .int .i64 fa, .int .i64 ta], .agg #[.int .i64 ib, .slice Ab lb.length cb, .int .i64 fb, .int .i64 tb]] w (RetB w true) := by
  cases hfew : fewS [⟨ia, Aa, ca, la, fa, ta⟩, ⟨ib, Ab, cb, lb, fb, tb⟩] with
  | false => exact pr_few w hT EA hla EB hlb hfew
  | true =>
    by_cases hv : HV ia la fa ta ∧ HV ib lb fb tb
    · exact pr_ok w hT EA hla EB hlb hfew hv.1 hv.2
    · exact pr_no w hT EA hla EB hlb hfew hv
end Go.Proofs.YthempimelfmipaaGreatDoor
