/- The statement WholeHoards: its walk. -/
import Derived.Test.YteleohgalknkiaaGreatDoorHPlM
import Derived.Test.YteleohgalknkiaaGreatDoorHoist
import Derived.Test.YteleohgalknkiaaGreatDoorPMath
import Derived.Test.YteleohgalknkiaaGreatDoorHP2M
import Derived.Test.YteleohgalknkiaaGreatDoorHawM
import Derived.Test.YteleohgalknkiaaGreatDoorHP6bM
import Derived.Deep.RegionHeldLaw
namespace Go.Proofs.YteleohgalknkiaaGreatDoor
open Go.RowKit Go.Proofs Go

theorem sumE_eq (l : List (Int × Int)) : ∀ k, sumE l k = sumN l k
  | 0 => rfl
  | k + 1 => by rw [sumE, sumN, sumE_eq l k]
theorem mul_bd32 {x y : Int} (h1 : 0 ≤ x) (h2 : x ≤ 32000) (h3 : 0 ≤ y) (h4 : y ≤ 32000) : 0 ≤ x * y ∧ x * y ≤ 1024000000 := by
  refine ⟨Int.mul_nonneg h1 h3, ?_⟩
  have := Int.mul_le_mul h2 h4 h3 (by omega)
  omega
section
variable {ia fa ta ib fb tb : Int} {la lb : List (Int × Int)}
theorem tots (va : HV ia la fa ta) (vb : HV ib lb fb tb) : 0 < totE la * totE lb ∧ totE la * totE lb ≤ 1024000000 := by
  have h1 := va.pos; have h2 := vb.pos; have h3 := va.tt; have h4 := vb.tt
  exact ⟨Int.mul_pos (by omega) (by omega), (mul_bd32 (by omega) (by omega) (by omega) (by omega)).2⟩
theorem sumD_bd (va : HV ia la fa ta) (vb : HV ib lb fb tb) {k : Nat} (hk : k ≤ 99) : 0 ≤ sumD la lb k ∧ sumD la lb k ≤ 2 * (totE la * totE lb) := by
  have h1 := va.pos; have h2 := vb.pos
  refine ⟨sumD_nn _ _ _, Int.le_trans (sumD_le (by omega) (by omega) (fun t => (va.nn t).1) (fun t => (vb.nn t).1) k) ?_⟩
  have h3 := (va.sums hk); have h4 := (vb.sums hk)
  rw [va.sum] at h3
  rw [vb.sum] at h4
  rw [sumE_eq, sumE_eq]
  have h5 := Int.mul_le_mul_of_nonneg_right h3.2 (show 0 ≤ totE lb by omega)
  have h6 := Int.mul_le_mul_of_nonneg_right h4.2 (show 0 ≤ totE la by omega)
  rw [Int.mul_comm (totE lb) (totE la)] at h6
  omega
theorem coD_sz (va : HV ia la fa ta) (vb : HV ib lb fb tb) {k : Nat} (hk : k ≤ 99) : Sz (coD la lb k) 2 := by
  have h1 := tots va vb; have h2 := sumD_bd va vb hk
  rw [coD]
  exact quo_sz (by omega) (by omega) (by omega) (by omega)
theorem dif_bd (va : HV ia la fa ta) (vb : HV ib lb fb tb) (t : Int) : (-1024000000 ≤ numE la t * totE lb - numE lb t * totE la ∧ numE la t * totE lb - numE lb t * totE la ≤ 1024000000) ∧ (0 ≤ difT la lb t ∧ difT la lb t ≤ 1024000000) := by
  have h1 := va.nn t; have h2 := vb.nn t; have h3 := va.tt; have h4 := vb.tt
  have h5 := mul_bd32 h1.1 h1.2 h4.1 h4.2
  have h6 := mul_bd32 h2.1 h2.2 h3.1 h3.2
  rw [difT, mag]
  split <;> omega
end
theorem fofq {w : World} {u : Rat} {x y : Int} (hy : 0 < y) (hu : Hid (quo x y = u)) (hx1 : -1000000000 < x) (hx2 : x < 1000000000) (hy2 : y < 1000000000) : Calls Tryz.prog 24 #[.int .i64 x, .int .i64 y] w (RetG w u 1) :=
  fof_h (Lib.hid ((of_quo x hy).trans hu.out)) (hu.out ▸ quo_sz1 hx1 hx2 hy hy2) (by omega) (by omega) (by omega) (by omega)
set_option maxHeartbeats 8000000 in
set_option maxRecDepth 100000 in
theorem coef_any {ia fa ta ib fb tb : Int} {u : Rat} (Aa Ab : Option Addr) (ca cb : Nat) (la lb : List (Int × Int)) (w : World) (HA : Es w Aa la) (HB : Es w Ab lb) (hla : la.length ≤ 9223372036854775807) (hlb : lb.length ≤ 9223372036854775807) (va : HV ia la fa ta) (vb : HV ib lb fb tb) (hu : Hid (coD la lb 99 = u)) :
    Calls Tryz.prog 66 #[.agg #[.int .i64 ia, .slice Aa la.length ca, .int .i64 fa, .int .i64 ta], .agg #[.int .i64 ib, .slice Ab lb.length cb, .int .i64 fb, .int .i64 tb]] w (RetG w u 2) := by
  have hpa := va.pos
  have hpb := vb.pos
  have VA := Lib.hid va
  have VB := Lib.hid vb
  obtain ⟨q0, hq0⟩ : ∃ q, Hid (coD la lb 0 = q) := ⟨_, Lib.hid rfl⟩
  have HO0 : Hid (quo 200 1 = q0) := Lib.hid ((coD_start (by omega) (by omega)).symm.trans hq0.out)
  obtain ⟨o1, HO1⟩ : ∃ o, Hid (quo 100 1 = o) := ⟨_, Lib.hid rfl⟩
  clear va vb
  go_enter Tryz.func66, Tryz.ntmps66
  go_wp2_with fail
  have HWA := HA
  have HWB := HB
  have HX := BL.three w #[.int .i64 ia, .slice Aa la.length ca, .int .i64 fa, .int .i64 ta] #[.int .i64 ib, .slice Ab lb.length cb, .int .i64 fb, .int .i64 tb] #[.bool false, .slice none 0 0, .slice none 0 0] 26 26 37
  replace HA := HA.ext HX.below
  replace HB := HB.ext HX.below
  refine (fofq (by decide) HO0 (by decide) (by decide) (by decide)).mono ?_
  rintro e w2 ⟨A3, c3, B3, d3, rfl, F3, hb⟩
  replace HX := HX.ext hb
  replace HA := HA.ext hb
  replace HB := HB.ext hb
  clear hb
  replace F3 : Fc w2 A3 c3 B3 d3 q0 2 := ⟨F3.num, F3.den, hq0.out ▸ coD_sz VA.out VB.out (by omega)⟩
  go_upto_region 2 with fail
  have hlg30 := HX.lt 0 rfl
  simp only [] at hlg30
  have hlg31 := HX.lt 1 rfl
  simp only [] at hlg31
  have hlg32 := HX.lt 2 rfl
  simp only [] at hlg32
  have hb := below_alloc w2 (.cells #[.bool (sg q0), .slice A3 (dig (nu q0)).length c3, .slice B3 (dig q0.den).length d3] 37)
  replace HX := HX.new #[.bool (sg q0), .slice A3 (dig (nu q0)).length c3, .slice B3 (dig q0.den).length d3] 37
  simp only [List.cons_append, List.nil_append] at HX
  replace HA := HA.ext hb
  replace HB := HB.ext hb
  replace F3 := F3.ext hb
  clear hb
  generalize w2.alloc (.cells #[.bool (sg q0), .slice A3 (dig (nu q0)).length c3, .slice B3 (dig q0.den).length d3] 37) = V3 at *
  generalize w2.heap.size = g3 at *
  go_wp2
  go_loopg [6] 99 (fun kk v wr => ∃ (k : Nat) (q : Rat) (A3 B3 : Option Addr) (c3 d3 : Nat), k + kk = 99 ∧ v = .int .i64 ((k : Int) + 1) ∧ Hid (coD la lb k = q) ∧ Fc wr A3 c3 B3 d3 q 2 ∧ BL w wr [(w.heap.size, #[.int .i64 ia, .slice Aa la.length ca, .int .i64 fa, .int .i64 ta], 26), (w.heap.size + 1, #[.int .i64 ib, .slice Ab lb.length cb, .int .i64 fb, .int .i64 tb], 26), (w.heap.size + 2, #[.bool false, .slice none 0 0, .slice none 0 0], 37), (g3, #[.bool (sg q), .slice A3 (dig (nu q)).length c3, .slice B3 (dig q.den).length d3], 37)])
  case atStart => exact ⟨0, q0, A3, B3, c3, d3, rfl, rfl, hq0, F3, HX⟩
  case round =>
    clear HX F3 HA HB hq0 HO0
    obtain ⟨k, q, A3, B3, c3, d3, hk, rfl, HQ, F3, HX⟩ := hrel
    by_cases hk0 : k < 99
    · have HA : Es wr Aa la := HWA.ext HX.below
      have HB : Es wr Ab lb := HWB.ext HX.below
      obtain ⟨q2, HQ2⟩ : ∃ q, Hid (shq la ((k : Int) + 1) = q) := ⟨_, Lib.hid rfl⟩
      obtain ⟨q3, HQ3⟩ : ∃ q, Hid (shq lb ((k : Int) + 1) = q) := ⟨_, Lib.hid rfl⟩
      obtain ⟨q4, HQ4⟩ : ∃ q, Hid (q2 - q3 = q) := ⟨_, Lib.hid rfl⟩
      have hq4 : Hid (quo (numE la ((k : Int) + 1) * totE lb - numE lb ((k : Int) + 1) * totE la) (totE la * totE lb) = q4) := Lib.hid (by rw [← HQ4.out, ← HQ2.out, ← HQ3.out, dif_quo (by omega) (by omega) (VA.out.nn _).1 (VB.out.nn _).1])
      have htt := tots VA.out VB.out
      have hdb := dif_bd VA.out VB.out ((k : Int) + 1)
      have z4 : Sz q4 2 := hq4.out ▸ quo_sz (by omega) (by omega) (by omega) (by omega)
      obtain ⟨q5, hq5⟩ : ∃ q, Hid (quo (-(difT la lb ((k : Int) + 1))) (totE la * totE lb) = q) := ⟨_, Lib.hid rfl⟩
      have z5 : Sz q5 2 := hq5.out ▸ quo_sz (by omega) (by omega) (by omega) (by omega)
      obtain ⟨q6, HM6⟩ : ∃ q, Hid (q5 * o1 = q) := ⟨_, Lib.hid rfl⟩
      have z6 : Sz q6 2 := by
        rw [← HM6.out, ← hq5.out, ← HO1.out, quo_mul _ _ (by omega) (by omega), Int.mul_one]
        exact quo_sz (by omega) (by omega) (by omega) (by omega)
      obtain ⟨q7, HQ7⟩ : ∃ q, Hid (coD la lb (k + 1) = q) := ⟨_, Lib.hid rfl⟩
      have z7 : Sz q7 2 := HQ7.out ▸ coD_sz VA.out VB.out (by omega)
      have HA7 : Hid (q + q6 = q7) := Lib.hid (by rw [← HQ7.out, coD_step (by omega) (by omega), HQ.out, hq5.out, HO1.out, HM6.out])
      obtain ⟨x, HS⟩ : ∃ x, Hid (sgn q4 = x) := ⟨_, Lib.hid rfl⟩
      have hcase : Hid ((0 < x ∧ -q4 = q5) ∨ (x ≤ 0 ∧ q4 = q5)) := Lib.hid (by
        have h1 := HS.out
        rw [← hq4.out, sgn_quo _ (by omega)] at h1
        by_cases hN : 0 < numE la ((k : Int) + 1) * totE lb - numE lb ((k : Int) + 1) * totE la
        · rw [if_neg (by omega), if_neg (by omega)] at h1
          refine .inl ⟨by omega, ?_⟩
          rw [← hq4.out, ← hq5.out, quo_neg, difT, mag, if_neg (by omega)]
        · refine .inr ⟨by split at h1 <;> (try split at h1) <;> omega, ?_⟩
          rw [← hq4.out, ← hq5.out, difT, mag]
          congr 1
          split <;> omega)
      clear htt hdb hq4 hq5 HQ
      have hi1 : (1 : Int) ≤ (k : Int) + 1 := by omega
      have hi2 : (k : Int) + 1 ≤ 99 := by omega
      generalize wr = V5 at *
      have hc00 := HX.cell 0 0 rfl rfl
      have hc01 := HX.cell 0 1 rfl rfl
      have hc02 := HX.cell 0 2 rfl rfl
      have hc03 := HX.cell 0 3 rfl rfl
      try simp only [List.getElem_toArray, List.getElem_cons_zero, List.getElem_cons_succ] at hc00 hc01 hc02 hc03
      go_wp2_with fail
      refine (hshare_yes Aa ca la _ HA hla VA.out HQ2).mono ?_
      rintro e w6 ⟨A6, c6, B6, d6, rfl, F6, hb⟩
      clear hc00 hc01 hc02 hc03
      replace HX := HX.ext hb
      replace HB := HB.ext hb
      replace F3 := F3.ext hb
      clear hb
      go_upto_region 6 with fail
      have hlg60 := HX.lt 0 rfl
      simp only [] at hlg60
      have hlg61 := HX.lt 1 rfl
      simp only [] at hlg61
      have hlg62 := HX.lt 2 rfl
      simp only [] at hlg62
      have hlg63 := HX.lt 3 rfl
      simp only [] at hlg63
      have hb := below_alloc w6 (.cells #[.bool (sg q2), .slice A6 (dig (nu q2)).length c6, .slice B6 (dig q2.den).length d6] 37)
      replace HX := HX.new #[.bool (sg q2), .slice A6 (dig (nu q2)).length c6, .slice B6 (dig q2.den).length d6] 37
      simp only [List.cons_append, List.nil_append] at HX
      replace HB := HB.ext hb
      replace F3 := F3.ext hb
      replace F6 := F6.ext hb
      clear hb
      generalize w6.alloc (.cells #[.bool (sg q2), .slice A6 (dig (nu q2)).length c6, .slice B6 (dig q2.den).length d6] 37) = V6 at *
      generalize w6.heap.size = g6 at *
      have hc10 := HX.cell 1 0 rfl rfl
      have hc11 := HX.cell 1 1 rfl rfl
      have hc12 := HX.cell 1 2 rfl rfl
      have hc13 := HX.cell 1 3 rfl rfl
      try simp only [List.getElem_toArray, List.getElem_cons_zero, List.getElem_cons_succ] at hc10 hc11 hc12 hc13
      go_wp2_with fail
      refine (hshare_yes Ab cb lb _ HB hlb VB.out HQ3).mono ?_
      rintro e w7 ⟨A7, c7, B7, d7, rfl, F7, hb⟩
      clear hc10 hc11 hc12 hc13
      replace HX := HX.ext hb
      replace F3 := F3.ext hb
      replace F6 := F6.ext hb
      clear hb
      go_upto_region 7 with fail
      have hlg70 := HX.lt 0 rfl
      simp only [] at hlg70
      have hlg71 := HX.lt 1 rfl
      simp only [] at hlg71
      have hlg72 := HX.lt 2 rfl
      simp only [] at hlg72
      have hlg73 := HX.lt 3 rfl
      simp only [] at hlg73
      have hlg74 := HX.lt 4 rfl
      simp only [] at hlg74
      have hb := below_alloc w7 (.cells #[.bool (sg q3), .slice A7 (dig (nu q3)).length c7, .slice B7 (dig q3.den).length d7] 37)
      replace HX := HX.new #[.bool (sg q3), .slice A7 (dig (nu q3)).length c7, .slice B7 (dig q3.den).length d7] 37
      simp only [List.cons_append, List.nil_append] at HX
      replace F3 := F3.ext hb
      replace F6 := F6.ext hb
      replace F7 := F7.ext hb
      clear hb
      generalize w7.alloc (.cells #[.bool (sg q3), .slice A7 (dig (nu q3)).length c7, .slice B7 (dig q3.den).length d7] 37) = V7 at *
      generalize w7.heap.size = g7 at *
      have hc40 := HX.cell 4 0 rfl rfl
      have hc41 := HX.cell 4 1 rfl rfl
      have hc42 := HX.cell 4 2 rfl rfl
      try simp only [List.getElem_toArray, List.getElem_cons_zero, List.getElem_cons_succ] at hc40 hc41 hc42
      have hc50 := HX.cell 5 0 rfl rfl
      have hc51 := HX.cell 5 1 rfl rfl
      have hc52 := HX.cell 5 2 rfl rfl
      try simp only [List.getElem_toArray, List.getElem_cons_zero, List.getElem_cons_succ] at hc50 hc51 hc52
      go_wp2_with fail
      refine (fsub_h HQ4 z4 F6.fr F7.fr (by omega) (by omega)).mono ?_
      rintro e w8 ⟨A8, c8, B8, d8, rfl, F8, hb⟩
      clear F6 F7 HA HB
      clear hc40 hc41 hc42
      clear hc50 hc51 hc52
      replace HX := HX.ext hb
      replace F3 := F3.ext hb
      clear hb
      go_upto_region 8 with fail
      have hlg80 := HX.lt 0 rfl
      simp only [] at hlg80
      have hlg81 := HX.lt 1 rfl
      simp only [] at hlg81
      have hlg82 := HX.lt 2 rfl
      simp only [] at hlg82
      have hlg83 := HX.lt 3 rfl
      simp only [] at hlg83
      have hlg84 := HX.lt 4 rfl
      simp only [] at hlg84
      have hlg85 := HX.lt 5 rfl
      simp only [] at hlg85
      have hb := below_alloc w8 (.cells #[.bool (sg q4), .slice A8 (dig (nu q4)).length c8, .slice B8 (dig q4.den).length d8] 37)
      replace HX := HX.new #[.bool (sg q4), .slice A8 (dig (nu q4)).length c8, .slice B8 (dig q4.den).length d8] 37
      simp only [List.cons_append, List.nil_append] at HX
      replace F3 := F3.ext hb
      replace F8 := F8.ext hb
      clear hb
      generalize w8.alloc (.cells #[.bool (sg q4), .slice A8 (dig (nu q4)).length c8, .slice B8 (dig q4.den).length d8] 37) = V8 at *
      generalize w8.heap.size = g8 at *
      have hc60 := HX.cell 6 0 rfl rfl
      have hc61 := HX.cell 6 1 rfl rfl
      have hc62 := HX.cell 6 2 rfl rfl
      try simp only [List.getElem_toArray, List.getElem_cons_zero, List.getElem_cons_succ] at hc60 hc61 hc62
      go_wp2_with fail
      refine (fsign_h HS F8.fr (by omega)).mono ?_
      rintro e w9 ⟨rfl, hb⟩
      clear hc60 hc61 hc62
      replace HX := HX.ext hb
      replace F3 := F3.ext hb
      replace F8 := F8.ext hb
      clear hb
      rcases hcase.out with ⟨hx, hn⟩ | ⟨hx, rfl⟩
      · have HN := Lib.hid hn
        have hdx : decide (0 < x) = true := decide_eq_true hx
        clear hn hcase
        have hc60 := HX.cell 6 0 rfl rfl
        have hf60 := HX.free 6 0 rfl
        have hc61 := HX.cell 6 1 rfl rfl
        have hf61 := HX.free 6 1 rfl
        have hc62 := HX.cell 6 2 rfl rfl
        have hf62 := HX.free 6 2 rfl
        try simp only [List.getElem_toArray, List.getElem_cons_zero, List.getElem_cons_succ] at hc60 hf60 hc61 hf61 hc62 hf62
        go_wp2_with fail
        refine (fneg_h HN z5 F8.fr (by omega)).mono ?_
        rintro e w10 ⟨A9, c9, B9, d9, rfl, F9, hb⟩
        clear F8
        clear hc60 hf60 hc61 hf61 hc62 hf62
        replace HX := HX.ext hb
        replace F3 := F3.ext hb
        clear hb
        have hc60 := HX.cell 6 0 rfl rfl
        have hf60 := HX.free 6 0 rfl
        have hc61 := HX.cell 6 1 rfl rfl
        have hf61 := HX.free 6 1 rfl
        have hc62 := HX.cell 6 2 rfl rfl
        have hf62 := HX.free 6 2 rfl
        try simp only [List.getElem_toArray, List.getElem_cons_zero, List.getElem_cons_succ] at hc60 hf60 hc61 hf61 hc62 hf62
        go_upto_region 10 with fail
        clear hc60 hf60 hc61 hf61 hc62 hf62
        have hl0 := HX.lt 0 rfl
        have hl1 := HX.lt 1 rfl
        have hl2 := HX.lt 2 rfl
        have hl3 := HX.lt 3 rfl
        have hl4 := HX.lt 4 rfl
        have hl5 := HX.lt 5 rfl
        have hl6 := HX.lt 6 rfl
        simp only [] at hl0 hl1 hl2 hl3 hl4 hl5 hl6
        have hk := HX.keep3 6 rfl rfl rfl rfl (by omega) (.bool (sg q5)) (.slice A9 (dig (nu q5)).length c9) (.slice B9 (dig q5.den).length d9)
        replace HX := HX.put3 6 rfl (by omega) (by intro k q hk hne; match k, hk with | 0, hk => (simp at hk; subst hk; simp at hne ⊢; try omega) | 1, hk => (simp at hk; subst hk; simp at hne ⊢; try omega) | 2, hk => (simp at hk; subst hk; simp at hne ⊢; try omega) | 3, hk => (simp at hk; subst hk; simp at hne ⊢; try omega) | 4, hk => (simp at hk; subst hk; simp at hne ⊢; try omega) | 5, hk => (simp at hk; subst hk; simp at hne ⊢; try omega) | 6, hk => (simp at hk; subst hk; simp at hne ⊢; try omega) | k + 7, hk => simp at hk) (.bool (sg q5)) (.slice A9 (dig (nu q5)).length c9) (.slice B9 (dig q5.den).length d9)
        replace F9 := F9.stay hk
        replace F3 := F3.stay hk
        clear hk
        simp only [List.set_cons_zero, List.set_cons_succ] at HX
        generalize ((w10.setCell ⟨g8, 0, none⟩ (.bool (sg q5))).setCell ⟨g8, 1, none⟩ (.slice A9 (dig (nu q5)).length c9)).setCell ⟨g8, 2, none⟩ (.slice B9 (dig q5.den).length d9) = V9 at *
        skip
        refine wp_region_x (al := []) (late := [5]) (dst := fun i => 0) (zt := fun _ => (#[], 0)) (B := V9.heap.size) (n := 5) (r := 1) (by kernel_rfl) (by kernel_rfl) (by decide) ?_ (by kernel_rfl) (by kernel_rfl) (by intro _ _ _ d _ h; cases d <;> exact h) (sz := 6) (by rfl) (by rfl) (Nat.le_refl _) ?_
        · intro i hi; cases hi
        have hE : Ext V9 V9.drew := drew_ext V9
        replace HX := HX.ext hE
        replace F3 := F3.ext hE
        replace F9 := F9.ext hE
        clear hE
        refine wpX_take (i := 0) (v := .agg #[.bool (sg q), .slice A3 (dig (nu q)).length c3, .slice B3 (dig q.den).length d3]) rfl (by kernel_rfl) (by kernel_rfl) (by kernel_rfl) (fun _ _ _ h => h) (Or.inl ⟨by rfl, fun W hW => ?_⟩) ?_
        · have h0 := (HX.ext hW).cell 3 0 rfl rfl
          have h1 := (HX.ext hW).cell 3 1 rfl rfl
          have h2 := (HX.ext hW).cell 3 2 rfl rfl
          simp only [] at h0 h1 h2
          go_simp
          try rfl
        try simp only [Act.put, List.setIfInBounds_toArray]
        refine wpX_take (i := 1) (v := .agg #[.bool (sg q5), .slice A9 (dig (nu q5)).length c9, .slice B9 (dig q5.den).length d9]) rfl (by kernel_rfl) (by kernel_rfl) (by kernel_rfl) (fun _ _ _ h => h) (Or.inl ⟨by rfl, fun W hW => ?_⟩) ?_
        · have h0 := (HX.ext hW).cell 6 0 rfl rfl
          have h1 := (HX.ext hW).cell 6 1 rfl rfl
          have h2 := (HX.ext hW).cell 6 2 rfl rfl
          simp only [] at h0 h1 h2
          go_simp
          try rfl
        try simp only [Act.put]
        refine wpX_step (i := 2) (by kernel_rfl) rfl (fun W1 K hE hK => ?_)
        replace HX := HX.ext hE
        replace F3 := F3.ext hE
        replace F9 := F9.ext hE
        clear hE
        go_simp
        refine (fofq (by decide) HO1 (by decide) (by decide) (by decide)).mono ?_
        rintro e W2 ⟨A10, c10, B10, d10, rfl, F10, hb⟩
        go_wp2_with fail
        refine hK.out _ _ hb ?_
        clear hK K
        replace HX := HX.ext hb
        replace F3 := F3.ext hb
        replace F9 := F9.ext hb
        clear hb
        try simp only [Act.put, List.setIfInBounds_toArray, List.set_cons_zero, List.set_cons_succ]
        skip
        refine wpX_step (i := 3) (by kernel_rfl) rfl (fun W1 K hE hK => ?_)
        replace HX := HX.ext hE
        replace F3 := F3.ext hE
        replace F9 := F9.ext hE
        replace F10 := F10.ext hE
        clear hE
        go_simp
        refine (fmul_h HM6 z6 F9.fr F10.fr (by omega) (by omega)).mono ?_
        rintro e W2 ⟨A11, c11, B11, d11, rfl, F11, hb⟩
        go_wp2_with fail
        refine hK.out _ _ hb ?_
        clear hK K
        replace HX := HX.ext hb
        replace F3 := F3.ext hb
        replace F9 := F9.ext hb
        replace F10 := F10.ext hb
        clear hb
        try simp only [Act.put, List.setIfInBounds_toArray, List.set_cons_zero, List.set_cons_succ]
        skip
        refine wpX_step (i := 4) (by kernel_rfl) rfl (fun W1 K hE hK => ?_)
        replace HX := HX.ext hE
        replace F3 := F3.ext hE
        replace F9 := F9.ext hE
        replace F10 := F10.ext hE
        replace F11 := F11.ext hE
        clear hE
        go_simp
        refine (fadd_h HA7 z7 F3.fr F11.fr (by omega) (by omega)).mono ?_
        rintro e W2 ⟨A12, c12, B12, d12, rfl, F12, hb⟩
        go_wp2_with fail
        refine hK.out _ _ hb ?_
        clear hK K
        replace HX := HX.ext hb
        replace F3 := F3.ext hb
        replace F9 := F9.ext hb
        replace F10 := F10.ext hb
        replace F11 := F11.ext hb
        clear hb
        try simp only [Act.put, List.setIfInBounds_toArray, List.set_cons_zero, List.set_cons_succ]
        skip
        clear F3 F9 F10 F11
        refine wpX_end (by kernel_rfl) (fun W12 ga m hE hg hm => ?_)
        replace HX := HX.ext hE
        replace F12 := F12.ext hE
        clear hE
        clear hg
        simp only [putAll, setAll]
        clear ga
        have hc30 := HX.cell 3 0 rfl rfl
        have hf30 := HX.free 3 0 rfl
        have hc31 := HX.cell 3 1 rfl rfl
        have hf31 := HX.free 3 1 rfl
        have hc32 := HX.cell 3 2 rfl rfl
        have hf32 := HX.free 3 2 rfl
        try simp only [List.getElem_toArray, List.getElem_cons_zero, List.getElem_cons_succ] at hc30 hf30 hc31 hf31 hc32 hf32
        refine wpAny_step (i := 5) (by kernel_rfl) rfl (by omega) (fun K hK => ?_)
        go_simp
        refine hK.out _ _ ?_
        clear hK K
        clear hc30 hf30 hc31 hf31 hc32 hf32
        have hk := HX.keep3 3 rfl rfl rfl rfl (by omega) (.bool (sg q7)) (.slice A12 (dig (nu q7)).length c12) (.slice B12 (dig q7.den).length d12)
        replace HX := HX.put3 3 rfl (by omega) (by intro k q hk hne; match k, hk with | 0, hk => (simp at hk; subst hk; simp at hne ⊢; try omega) | 1, hk => (simp at hk; subst hk; simp at hne ⊢; try omega) | 2, hk => (simp at hk; subst hk; simp at hne ⊢; try omega) | 3, hk => (simp at hk; subst hk; simp at hne ⊢; try omega) | 4, hk => (simp at hk; subst hk; simp at hne ⊢; try omega) | 5, hk => (simp at hk; subst hk; simp at hne ⊢; try omega) | 6, hk => (simp at hk; subst hk; simp at hne ⊢; try omega) | k + 7, hk => simp at hk) (.bool (sg q7)) (.slice A12 (dig (nu q7)).length c12) (.slice B12 (dig q7.den).length d12)
        replace F12 := F12.stay hk
        clear hk
        simp only [List.set_cons_zero, List.set_cons_succ] at HX
        refine wpAny_done (by kernel_rfl) ?_ _
        generalize ((W12.setCell ⟨g3, 0, none⟩ (.bool (sg q7))).setCell ⟨g3, 1, none⟩ (.slice A12 (dig (nu q7)).length c12)).setCell ⟨g3, 2, none⟩ (.slice B12 (dig q7.den).length d12) = W13 at *
        replace HX := HX.front 4
        simp only [List.take_succ_cons, List.take_zero] at HX
        go_wp2
        go_roundg (99 - (k + 1))
        case measure => omega
        case rel => exact ⟨k + 1, q7, A12, B12, c12, d12, by omega, by go_num, HQ7, F12, HX⟩
      · have hdx : decide (0 < x) = false := decide_eq_false (by omega)
        clear hcase
        have F9 := F8
        obtain ⟨A9, hA9⟩ : ∃ A, A8 = A := ⟨_, rfl⟩
        subst hA9
        generalize w9 = V9 at *
        go_upto_region 10 with fail
        refine wp_region_x (al := []) (late := [5]) (dst := fun i => 0) (zt := fun _ => (#[], 0)) (B := V9.heap.size) (n := 5) (r := 1) (by kernel_rfl) (by kernel_rfl) (by decide) ?_ (by kernel_rfl) (by kernel_rfl) (by intro _ _ _ d _ h; cases d <;> exact h) (sz := 6) (by rfl) (by rfl) (Nat.le_refl _) ?_
        · intro i hi; cases hi
        have hE : Ext V9 V9.drew := drew_ext V9
        replace HX := HX.ext hE
        replace F3 := F3.ext hE
        replace F9 := F9.ext hE
        clear hE
        refine wpX_take (i := 0) (v := .agg #[.bool (sg q), .slice A3 (dig (nu q)).length c3, .slice B3 (dig q.den).length d3]) rfl (by kernel_rfl) (by kernel_rfl) (by kernel_rfl) (fun _ _ _ h => h) (Or.inl ⟨by rfl, fun W hW => ?_⟩) ?_
        · have h0 := (HX.ext hW).cell 3 0 rfl rfl
          have h1 := (HX.ext hW).cell 3 1 rfl rfl
          have h2 := (HX.ext hW).cell 3 2 rfl rfl
          simp only [] at h0 h1 h2
          go_simp
          try rfl
        try simp only [Act.put, List.setIfInBounds_toArray]
        refine wpX_take (i := 1) (v := .agg #[.bool (sg q4), .slice A8 (dig (nu q4)).length c8, .slice B8 (dig q4.den).length d8]) rfl (by kernel_rfl) (by kernel_rfl) (by kernel_rfl) (fun _ _ _ h => h) (Or.inl ⟨by rfl, fun W hW => ?_⟩) ?_
        · have h0 := (HX.ext hW).cell 6 0 rfl rfl
          have h1 := (HX.ext hW).cell 6 1 rfl rfl
          have h2 := (HX.ext hW).cell 6 2 rfl rfl
          simp only [] at h0 h1 h2
          go_simp
          try rfl
        try simp only [Act.put]
        refine wpX_step (i := 2) (by kernel_rfl) rfl (fun W1 K hE hK => ?_)
        replace HX := HX.ext hE
        replace F3 := F3.ext hE
        replace F9 := F9.ext hE
        clear hE
        go_simp
        refine (fofq (by decide) HO1 (by decide) (by decide) (by decide)).mono ?_
        rintro e W2 ⟨A10, c10, B10, d10, rfl, F10, hb⟩
        go_wp2_with fail
        refine hK.out _ _ hb ?_
        clear hK K
        replace HX := HX.ext hb
        replace F3 := F3.ext hb
        replace F9 := F9.ext hb
        clear hb
        try simp only [Act.put, List.setIfInBounds_toArray, List.set_cons_zero, List.set_cons_succ]
        skip
        refine wpX_step (i := 3) (by kernel_rfl) rfl (fun W1 K hE hK => ?_)
        replace HX := HX.ext hE
        replace F3 := F3.ext hE
        replace F9 := F9.ext hE
        replace F10 := F10.ext hE
        clear hE
        go_simp
        refine (fmul_h HM6 z6 F9.fr F10.fr (by omega) (by omega)).mono ?_
        rintro e W2 ⟨A11, c11, B11, d11, rfl, F11, hb⟩
        go_wp2_with fail
        refine hK.out _ _ hb ?_
        clear hK K
        replace HX := HX.ext hb
        replace F3 := F3.ext hb
        replace F9 := F9.ext hb
        replace F10 := F10.ext hb
        clear hb
        try simp only [Act.put, List.setIfInBounds_toArray, List.set_cons_zero, List.set_cons_succ]
        skip
        refine wpX_step (i := 4) (by kernel_rfl) rfl (fun W1 K hE hK => ?_)
        replace HX := HX.ext hE
        replace F3 := F3.ext hE
        replace F9 := F9.ext hE
        replace F10 := F10.ext hE
        replace F11 := F11.ext hE
        clear hE
        go_simp
        refine (fadd_h HA7 z7 F3.fr F11.fr (by omega) (by omega)).mono ?_
        rintro e W2 ⟨A12, c12, B12, d12, rfl, F12, hb⟩
        go_wp2_with fail
        refine hK.out _ _ hb ?_
        clear hK K
        replace HX := HX.ext hb
        replace F3 := F3.ext hb
        replace F9 := F9.ext hb
        replace F10 := F10.ext hb
        replace F11 := F11.ext hb
        clear hb
        try simp only [Act.put, List.setIfInBounds_toArray, List.set_cons_zero, List.set_cons_succ]
        skip
        clear F3 F9 F10 F11
        refine wpX_end (by kernel_rfl) (fun W12 ga m hE hg hm => ?_)
        replace HX := HX.ext hE
        replace F12 := F12.ext hE
        clear hE
        clear hg
        simp only [putAll, setAll]
        clear ga
        have hc30 := HX.cell 3 0 rfl rfl
        have hf30 := HX.free 3 0 rfl
        have hc31 := HX.cell 3 1 rfl rfl
        have hf31 := HX.free 3 1 rfl
        have hc32 := HX.cell 3 2 rfl rfl
        have hf32 := HX.free 3 2 rfl
        try simp only [List.getElem_toArray, List.getElem_cons_zero, List.getElem_cons_succ] at hc30 hf30 hc31 hf31 hc32 hf32
        refine wpAny_step (i := 5) (by kernel_rfl) rfl (by omega) (fun K hK => ?_)
        go_simp
        refine hK.out _ _ ?_
        clear hK K
        clear hc30 hf30 hc31 hf31 hc32 hf32
        have hk := HX.keep3 3 rfl rfl rfl rfl (by omega) (.bool (sg q7)) (.slice A12 (dig (nu q7)).length c12) (.slice B12 (dig q7.den).length d12)
        replace HX := HX.put3 3 rfl (by omega) (by intro k q hk hne; match k, hk with | 0, hk => (simp at hk; subst hk; simp at hne ⊢; try omega) | 1, hk => (simp at hk; subst hk; simp at hne ⊢; try omega) | 2, hk => (simp at hk; subst hk; simp at hne ⊢; try omega) | 3, hk => (simp at hk; subst hk; simp at hne ⊢; try omega) | 4, hk => (simp at hk; subst hk; simp at hne ⊢; try omega) | 5, hk => (simp at hk; subst hk; simp at hne ⊢; try omega) | 6, hk => (simp at hk; subst hk; simp at hne ⊢; try omega) | k + 7, hk => simp at hk) (.bool (sg q7)) (.slice A12 (dig (nu q7)).length c12) (.slice B12 (dig q7.den).length d12)
        replace F12 := F12.stay hk
        clear hk
        simp only [List.set_cons_zero, List.set_cons_succ] at HX
        refine wpAny_done (by kernel_rfl) ?_ _
        generalize ((W12.setCell ⟨g3, 0, none⟩ (.bool (sg q7))).setCell ⟨g3, 1, none⟩ (.slice A12 (dig (nu q7)).length c12)).setCell ⟨g3, 2, none⟩ (.slice B12 (dig q7.den).length d12) = W13 at *
        replace HX := HX.front 4
        simp only [List.take_succ_cons, List.take_zero] at HX
        go_wp2
        go_roundg (99 - (k + 1))
        case measure => omega
        case rel => exact ⟨k + 1, q7, A12, B12, c12, d12, by omega, by go_num, HQ7, F12, HX⟩
    · obtain rfl : k = 99 := by omega
      obtain rfl : q = u := by rw [← HQ.out, hu.out]
      have hl0 := HX.lt 0 rfl
      have hl1 := HX.lt 1 rfl
      have hl2 := HX.lt 2 rfl
      have hl3 := HX.lt 3 rfl
      simp only [] at hl0 hl1 hl2 hl3
      have hc30 := HX.cell 3 0 rfl rfl
      have hc31 := HX.cell 3 1 rfl rfl
      have hc32 := HX.cell 3 2 rfl rfl
      try simp only [List.getElem_toArray, List.getElem_cons_zero, List.getElem_cons_succ] at hc30 hc31 hc32
      have hc20 := HX.cell 2 0 rfl rfl
      have hf20 := HX.free 2 0 rfl
      have hc21 := HX.cell 2 1 rfl rfl
      have hf21 := HX.free 2 1 rfl
      have hc22 := HX.cell 2 2 rfl rfl
      have hf22 := HX.free 2 2 rfl
      try simp only [List.getElem_toArray, List.getElem_cons_zero, List.getElem_cons_succ] at hc20 hf20 hc21 hf21 hc22 hf22
      go_wp2
      clear hc30 hc31 hc32
      clear hc20 hf20 hc21 hf21 hc22 hf22
      have hk := HX.keep3 2 rfl rfl rfl rfl (by omega) (.bool (sg q)) (.slice A3 (dig (nu q)).length c3) (.slice B3 (dig q.den).length d3)
      replace HX := HX.put3 2 rfl (by omega) (by intro k q hk hne; match k, hk with | 0, hk => (simp at hk; subst hk; simp at hne ⊢; try omega) | 1, hk => (simp at hk; subst hk; simp at hne ⊢; try omega) | 2, hk => (simp at hk; subst hk; simp at hne ⊢; try omega) | 3, hk => (simp at hk; subst hk; simp at hne ⊢; try omega) | k + 4, hk => simp at hk) (.bool (sg q)) (.slice A3 (dig (nu q)).length c3) (.slice B3 (dig q.den).length d3)
      replace F3 := F3.stay hk
      clear hk
      simp only [List.set_cons_zero, List.set_cons_succ] at HX
      have hc20 := HX.cell 2 0 rfl rfl
      have hc21 := HX.cell 2 1 rfl rfl
      have hc22 := HX.cell 2 2 rfl rfl
      try simp only [List.getElem_toArray, List.getElem_cons_zero, List.getElem_cons_succ] at hc20 hc21 hc22
      exact bodyPost_ret (v := .agg #[.bool (sg q), .slice A3 (dig (nu q)).length c3, .slice B3 (dig q.den).length d3]) (by simp [results, Tryz.results66, go_sem, hc20, hc21, hc22]) rfl ⟨A3, c3, B3, d3, rfl, F3, HX.below⟩
set_option maxHeartbeats 2000000 in
set_option maxRecDepth 100000 in
theorem coeff_any {ia fa ta ib fb tb : Int} {u : Rat} (Aa Ab : Option Addr) (ca cb : Nat) (la lb : List (Int × Int)) (w : World) (HA : Es w Aa la) (HB : Es w Ab lb) (hla : la.length ≤ 9223372036854775807) (hlb : lb.length ≤ 9223372036854775807) (va : HV ia la fa ta) (vb : HV ib lb fb tb) (hu : Hid (coD la lb 99 = u)) :
    Calls Tryz.prog 18 #[.agg #[.int .i64 ia, .slice Aa la.length ca, .int .i64 fa, .int .i64 ta], .agg #[.int .i64 ib, .slice Ab lb.length cb, .int .i64 fb, .int .i64 tb]] w (RetGE w u 2) := by
  have YA := yes va
  have YB := yes vb
  have VA := Lib.hid va
  have VB := Lib.hid vb
  clear va vb
  go_enter Tryz.func18, Tryz.ntmps18
  go_wp2_with fail
  have HX := BL.three w #[.int .i64 ia, .slice Aa la.length ca, .int .i64 fa, .int .i64 ta] #[.int .i64 ib, .slice Ab lb.length cb, .int .i64 fb, .int .i64 tb] #[.bool false, .slice none 0 0, .slice none 0 0] 26 26 37
  replace HA := HA.ext HX.below
  replace HB := HB.ext HX.below
  refine (hvalid_any (b := true) Aa ca la _ HA hla YA).mono ?_
  rintro e w2 ⟨rfl, hb⟩
  replace HX := HX.ext hb
  replace HA := HA.ext hb
  replace HB := HB.ext hb
  clear hb
  have hc10 := HX.cell 1 0 rfl rfl
  have hc11 := HX.cell 1 1 rfl rfl
  have hc12 := HX.cell 1 2 rfl rfl
  have hc13 := HX.cell 1 3 rfl rfl
  try simp only [List.getElem_toArray, List.getElem_cons_zero, List.getElem_cons_succ] at hc10 hc11 hc12 hc13
  go_wp2_with fail
  refine (hvalid_any (b := true) Ab cb lb _ HB hlb YB).mono ?_
  rintro e w3 ⟨rfl, hb⟩
  clear hc10 hc11 hc12 hc13
  replace HX := HX.ext hb
  replace HA := HA.ext hb
  replace HB := HB.ext hb
  clear hb
  have hc00 := HX.cell 0 0 rfl rfl
  have hc01 := HX.cell 0 1 rfl rfl
  have hc02 := HX.cell 0 2 rfl rfl
  have hc03 := HX.cell 0 3 rfl rfl
  try simp only [List.getElem_toArray, List.getElem_cons_zero, List.getElem_cons_succ] at hc00 hc01 hc02 hc03
  have hc10 := HX.cell 1 0 rfl rfl
  have hc11 := HX.cell 1 1 rfl rfl
  have hc12 := HX.cell 1 2 rfl rfl
  have hc13 := HX.cell 1 3 rfl rfl
  try simp only [List.getElem_toArray, List.getElem_cons_zero, List.getElem_cons_succ] at hc10 hc11 hc12 hc13
  go_wp2_with fail
  refine (coef_any Aa Ab ca cb la lb _ HA HB hla hlb VA.out VB.out hu).mono ?_
  rintro e w4 ⟨A5, c5, B5, d5, rfl, F5, hb⟩
  clear hc00 hc01 hc02 hc03
  clear hc10 hc11 hc12 hc13
  replace HX := HX.ext hb
  clear hb
  have hc20 := HX.cell 2 0 rfl rfl
  have hf20 := HX.free 2 0 rfl
  have hc21 := HX.cell 2 1 rfl rfl
  have hf21 := HX.free 2 1 rfl
  have hc22 := HX.cell 2 2 rfl rfl
  have hf22 := HX.free 2 2 rfl
  try simp only [List.getElem_toArray, List.getElem_cons_zero, List.getElem_cons_succ] at hc20 hf20 hc21 hf21 hc22 hf22
  go_wp2
  clear hc20 hf20 hc21 hf21 hc22 hf22
  have hk := HX.keep3 2 rfl rfl rfl rfl (by omega) (.bool (sg u)) (.slice A5 (dig (nu u)).length c5) (.slice B5 (dig u.den).length d5)
  replace HX := HX.put3 2 rfl (by omega) (by intro k q hk hne; match k, hk with | 0, hk => (simp at hk; subst hk; simp at hne ⊢; try omega) | 1, hk => (simp at hk; subst hk; simp at hne ⊢; try omega) | 2, hk => (simp at hk; subst hk; simp at hne ⊢; try omega) | k + 3, hk => simp at hk) (.bool (sg u)) (.slice A5 (dig (nu u)).length c5) (.slice B5 (dig u.den).length d5)
  replace F5 := F5.stay hk
  clear hk
  simp only [List.set_cons_zero, List.set_cons_succ] at HX
  have hc20 := HX.cell 2 0 rfl rfl
  have hc21 := HX.cell 2 1 rfl rfl
  have hc22 := HX.cell 2 2 rfl rfl
  try simp only [List.getElem_toArray, List.getElem_cons_zero, List.getElem_cons_succ] at hc20 hc21 hc22
  exact bodyPost_ret (v := .tuple #[.agg #[.bool (sg u), .slice A5 (dig (nu u)).length c5, .slice B5 (dig u.den).length d5], .int .i64 0]) (by simp [results, Tryz.results18, go_sem, hc20, hc21, hc22]) rfl ⟨A5, c5, B5, d5, rfl, F5, HX.below⟩
set_option maxHeartbeats 2000000 in
set_option maxRecDepth 100000 in
theorem dist_any {ia fa ta ib fb tb : Int} {u : Rat} (Aa Ab : Option Addr) (ca cb : Nat) (la lb : List (Int × Int)) (w : World) (HA : Es w Aa la) (HB : Es w Ab lb) (hla : la.length ≤ 9223372036854775807) (hlb : lb.length ≤ 9223372036854775807) (va : HV ia la fa ta) (vb : HV ib lb fb tb) (hu : Hid (disD la lb = u)) :
    Calls Tryz.prog 17 #[.agg #[.int .i64 ia, .slice Aa la.length ca, .int .i64 fa, .int .i64 ta], .agg #[.int .i64 ib, .slice Ab lb.length cb, .int .i64 fb, .int .i64 tb]] w (RetGE w u 2) := by
  have hpa := va.pos
  have hpb := vb.pos
  have htt := tots va vb
  have hsd := sumD_bd va vb (Nat.le_refl 99)
  obtain ⟨v, hv⟩ : ∃ v, Hid (coD la lb 99 = v) := ⟨_, Lib.hid rfl⟩
  obtain ⟨o1, HO1⟩ : ∃ o, Hid (quo 200 1 = o) := ⟨_, Lib.hid rfl⟩
  obtain ⟨o2, HO2⟩ : ∃ o, Hid (quo 1 2 = o) := ⟨_, Lib.hid rfl⟩
  obtain ⟨q1, HQ1⟩ : ∃ q, Hid (o1 - v = q) := ⟨_, Lib.hid rfl⟩
  have z1 : Sz q1 2 := by
    rw [← HQ1.out, ← HO1.out, ← hv.out, coD, quo_sub _ _ (by omega) (by omega), Int.mul_one, Int.one_mul]
    exact quo_sz (by omega) (by omega) (by omega) (by omega)
  have HM : Hid (q1 * o2 = u) := Lib.hid (by rw [← HQ1.out, ← HO1.out, ← HO2.out, ← hv.out, dis_eq (by omega) (by omega), hu.out])
  have zu : Sz u 2 := by
    rw [← hu.out, disD]
    exact quo_sz (by omega) (by omega) (by omega) (by omega)
  have VA := Lib.hid va
  have VB := Lib.hid vb
  clear va vb htt hsd hu
  go_enter Tryz.func17, Tryz.ntmps17
  go_wp2_with fail
  have HX := BL.three w #[.int .i64 ia, .slice Aa la.length ca, .int .i64 fa, .int .i64 ta] #[.int .i64 ib, .slice Ab lb.length cb, .int .i64 fb, .int .i64 tb] #[.bool false, .slice none 0 0, .slice none 0 0] 26 26 37
  replace HA := HA.ext HX.below
  replace HB := HB.ext HX.below
  refine (coeff_any Aa Ab ca cb la lb _ HA HB hla hlb VA.out VB.out hv).mono ?_
  rintro e w3 ⟨A3, c3, B3, d3, rfl, F3, hb⟩
  clear HA HB
  replace HX := HX.ext hb
  clear hb
  go_upto_region 2 with fail
  have hlg30 := HX.lt 0 rfl
  simp only [] at hlg30
  have hlg31 := HX.lt 1 rfl
  simp only [] at hlg31
  have hlg32 := HX.lt 2 rfl
  simp only [] at hlg32
  have hb := below_alloc w3 (.cells #[.bool (sg v), .slice A3 (dig (nu v)).length c3, .slice B3 (dig v.den).length d3] 37)
  replace HX := HX.new #[.bool (sg v), .slice A3 (dig (nu v)).length c3, .slice B3 (dig v.den).length d3] 37
  simp only [List.cons_append, List.nil_append] at HX
  replace F3 := F3.ext hb
  clear hb
  generalize w3.alloc (.cells #[.bool (sg v), .slice A3 (dig (nu v)).length c3, .slice B3 (dig v.den).length d3] 37) = V3 at *
  generalize w3.heap.size = g3 at *
  go_upto_region 4 with fail
  have held : ∀ {W' : World} {u : Array Value}, BL w W' [(w.heap.size, #[.int .i64 ia, .slice Aa la.length ca, .int .i64 fa, .int .i64 ta], 26), (w.heap.size + 1, #[.int .i64 ib, .slice Ab lb.length cb, .int .i64 fb, .int .i64 tb], 26), (w.heap.size + 2, u, 37), (g3, #[.bool (sg v), .slice A3 (dig (nu v)).length c3, .slice B3 (dig v.den).length d3], 37)] → W'.cell? ⟨g3, 0, none⟩ = some (.bool (sg v)) ∧ W'.cell? ⟨g3, 1, none⟩ = some (.slice A3 (dig (nu v)).length c3) ∧ W'.cell? ⟨g3, 2, none⟩ = some (.slice B3 (dig v.den).length d3) := fun h => ⟨h.cell 3 0 rfl rfl, h.cell 3 1 rfl rfl, h.cell 3 2 rfl rfl⟩
  replace HX := HX.ext (drew_ext _)
  replace F3 := F3.ext (drew_ext _)
  go_region_held3 (fun W' => W'.cell? ⟨g3, 0, none⟩ = some (.bool (sg v)) ∧ W'.cell? ⟨g3, 1, none⟩ = some (.slice A3 (dig (nu v)).length c3) ∧ W'.cell? ⟨g3, 2, none⟩ = some (.slice B3 (dig v.den).length d3))
    (first | exact held HX | exact held (HX.put3 2 rfl (by omega) (by intro k q hk hne; match k, hk with | 0, hk => (simp at hk; subst hk; simp at hne ⊢; try omega) | 1, hk => (simp at hk; subst hk; simp at hne ⊢; try omega) | 2, hk => (simp at hk; subst hk; simp at hne ⊢; try omega) | 3, hk => (simp at hk; subst hk; simp at hne ⊢; try omega) | k + 4, hk => simp at hk) _ _ _))
    (first
      | (go_at_call_of 24 (Value.int IntKind.i64 200); refine (fofq (by decide) HO1 (by decide) (by decide) (by decide)).mono ?_; rintro e w7 ⟨A7, c7, B7, d7, rfl, F7, hb⟩; replace HX := HX.ext hb; replace F3 := F3.ext hb; (try replace F8 := F8.ext hb); (try replace F9 := F9.ext hb); clear hb)
      | (go_at_call_of 24 (Value.int IntKind.i64 2); refine (fofq (by decide) HO2 (by decide) (by decide) (by decide)).mono ?_; rintro e w9 ⟨A9, c9, B9, d9, rfl, F9, hb⟩; replace HX := HX.ext hb; replace F3 := F3.ext hb; (try replace F7 := F7.ext hb); (try replace F8 := F8.ext hb); clear hb)
      | (go_at_call 65; refine (fsub_h HQ1 z1 F7.fr F3.fr (by omega) (by omega)).mono ?_; rintro e w8 ⟨A8, c8, B8, d8, rfl, F8, hb⟩; replace HX := HX.ext hb; replace F3 := F3.ext hb; (try replace F7 := F7.ext hb); (try replace F9 := F9.ext hb); clear hb)
      | (go_at_call 64; refine (fmul_h HM zu F8.fr F9.fr (by omega) (by omega)).mono ?_; rintro e w10 ⟨A5, c5, B5, d5, rfl, F5, hb⟩; replace HX := HX.ext hb; replace F3 := F3.ext hb; clear hb; have hc20 := HX.cell 2 0 rfl rfl; have hf20 := HX.free 2 0 rfl; have hc21 := HX.cell 2 1 rfl rfl; have hf21 := HX.free 2 1 rfl; have hc22 := HX.cell 2 2 rfl rfl; have hf22 := HX.free 2 2 rfl; (try simp only [List.getElem_toArray, List.getElem_cons_zero, List.getElem_cons_succ] at hc20 hf20 hc21 hf21 hc22 hf22)))
  all_goals (
    clear held hc20 hf20 hc21 hf21 hc22 hf22
    have hk := HX.keep3 2 rfl rfl rfl rfl (by omega) (.bool (sg u)) (.slice A5 (dig (nu u)).length c5) (.slice B5 (dig u.den).length d5)
    replace HX := HX.put3 2 rfl (by omega) (by intro k q hk hne; match k, hk with | 0, hk => (simp at hk; subst hk; simp at hne ⊢; try omega) | 1, hk => (simp at hk; subst hk; simp at hne ⊢; try omega) | 2, hk => (simp at hk; subst hk; simp at hne ⊢; try omega) | 3, hk => (simp at hk; subst hk; simp at hne ⊢; try omega) | k + 4, hk => simp at hk) (.bool (sg u)) (.slice A5 (dig (nu u)).length c5) (.slice B5 (dig u.den).length d5)
    replace F5 := F5.stay hk
    clear hk
    simp only [List.set_cons_zero, List.set_cons_succ] at HX
    have hc20 := HX.cell 2 0 rfl rfl
    have hc21 := HX.cell 2 1 rfl rfl
    have hc22 := HX.cell 2 2 rfl rfl
    try simp only [List.getElem_toArray, List.getElem_cons_zero, List.getElem_cons_succ] at hc20 hc21 hc22
    go_wp2
    exact bodyPost_ret (v := .tuple #[.agg #[.bool (sg u), .slice A5 (dig (nu u)).length c5, .slice B5 (dig u.den).length d5], .int .i64 0]) (by simp [results, Tryz.results17, go_sem, hc20, hc21, hc22]) rfl ⟨A5, c5, B5, d5, rfl, F5, HX.below⟩)
end Go.Proofs.YteleohgalknkiaaGreatDoor

namespace Go.Proofs.YteleohgalknkiaaGreatDoor

/-- a hoard with at most 400 coins of each type -/
def capL (l : List (Int × Int)) : List (Int × Int) := l.map fun x => (x.1, min x.2 400)
theorem capL_len (l : List (Int × Int)) : (capL l).length = l.length := by simp [capL]
theorem capL_at {l : List (Int × Int)} {i : Nat} {x : Int × Int} (h : l[i]? = some x) : (capL l)[i]? = some (x.1, min x.2 400) := by simp [capL, h]
theorem capL_of {l : List (Int × Int)} {i : Nat} {y : Int × Int} (h : (capL l)[i]? = some y) : ∃ x, l[i]? = some x ∧ y = (x.1, min x.2 400) := by
  rw [capL, List.getElem?_map] at h
  cases hx : l[i]? with
  | none => rw [hx] at h; cases h
  | some x => rw [hx] at h; exact ⟨x, rfl, (Option.some.inj h).symm⟩
theorem capL_one {l : List (Int × Int)} {j : Nat} {x : Int × Int} (h : l[j]? = some x) : (capL l).take (j + 1) = (capL l).take j ++ [(x.1, min x.2 400)] := take_succ (capL_at h)
theorem Listed.cap {l : List (Int × Int)} (h : Listed 1 999 l) : Listed 1 999 (capL l) := fun i y hy => by
  obtain ⟨x, hx, rfl⟩ := capL_of hy
  obtain ⟨h1, h2, h3⟩ := h i x hx
  refine ⟨h1, by omega, fun j z hj hz => ?_⟩
  obtain ⟨z0, hz0, rfl⟩ := capL_of hz
  exact h3 j z0 hj hz0
theorem HV.cap {id f t : Int} {l : List (Int × Int)} (h : HV id l f t) : HV id (capL l) f t := ⟨h.1, by rw [capL_len]; exact h.2.1, h.2.2.1.cap, h.2.2.2⟩
theorem capL_num {l : List (Int × Int)} (h : Listed 1 999 l) (t : Int) : numE (capL l) t ≤ 400 := by
  by_cases hx : ∃ x ∈ capL l, x.1 = t
  · obtain ⟨x, hx, e⟩ := hx
    rw [h.cap.num hx e]
    obtain ⟨y, _, rfl⟩ := List.mem_map.1 hx
    simp only; omega
  · rw [Listed.num_zero fun x hx' e => hx ⟨x, hx', e⟩]; omega
theorem num_out {id f t : Int} {l : List (Int × Int)} (h : HV id l f t) {s : Int} (hs : ¬ (1 ≤ s ∧ s ≤ 99)) : numE l s = 0 :=
  Listed.num_zero fun _x hx e => hs (e ▸ (h.2.2.1.mem hx).1)
section
variable {ia fa ta : Int} {lx : List (Int × Int)}
theorem nn2 (h : HV ia lx fa ta) (t : Int) : 0 ≤ numE lx t + numE lx t := by have := (h.nn t).1; omega
theorem great2 (_h : HV ia lx fa ta) (h4 : ∀ t, numE lx t ≤ 400) : greatP lx lx 99 = false := by
  rw [greatP, List.any_eq_false]
  intro x hx
  have h1 := (mergeP_mem hx).2.2.2
  have h2 := h4 x.1
  simp only [decide_eq_true_eq]
  omega
theorem keys2 (h : HV ia lx fa ta) (h4 : ∀ t, numE lx t ≤ 400) : (mergeP lx lx 99).map (·.1) = lx.map (·.1) := by
  have hg := great2 h h4
  have hl := mergeP_listed (by omega) hg
  refine asc_ext (pw_listed hl) (pw_listed h.2.2.1) fun s => ⟨fun hs => ?_, fun hs => ?_⟩
  · obtain ⟨x, hx, rfl⟩ := List.mem_map.1 hs
    obtain ⟨_, _, h3, h5⟩ := mergeP_mem hx
    obtain ⟨y, hy, e⟩ := num_mem (l := lx) (s := x.1) (by omega) h.2.2.1
    exact List.mem_map.2 ⟨y, hy, e⟩
  · obtain ⟨y, hy, rfl⟩ := List.mem_map.1 hs
    obtain ⟨m1, m2⟩ := h.2.2.1.mem hy
    have h5 := mergeP_num (nn2 h) y.1 99
    rw [if_pos ⟨m1.1, m1.2⟩, h.2.2.1.num hy rfl] at h5
    obtain ⟨z, hz, e⟩ := num_mem (l := mergeP lx lx 99) (s := y.1) (by omega) hl
    exact List.mem_map.2 ⟨z, hz, e⟩
/-- twice as large -/
theorem merge2 (h : HV ia lx fa ta) (h4 : ∀ t, numE lx t ≤ 400) : MergeIs ia lx fa ta ia lx fa ta ia (mergeP lx lx 99) fa ta 0 := by
  refine .inr ⟨h, h, fa, ta, ⟨by split <;> rfl, by split <;> rfl⟩, .inr (.inr (.inr ⟨h.2.2.2.1, ?_, great2 h h4, rfl, rfl, rfl, rfl, rfl⟩))⟩
  have h5 := congrArg List.length (keys2 h h4)
  rw [List.length_map, List.length_map] at h5
  rw [h5]; exact h.2.1.2
theorem hv2 (h : HV ia lx fa ta) (h4 : ∀ t, numE lx t ≤ 400) : HV ia (mergeP lx lx 99) fa ta ∧ totE (mergeP lx lx 99) = 2 * totE lx := by
  obtain ⟨_, _, hc, h1, h2, h3, _, _⟩ := (merge2 h h4).ok
  obtain ⟨a, b⟩ := h.merge h hc h1 h2 h3
  exact ⟨a, by omega⟩
theorem zero2 (h : HV ia lx fa ta) (h4 : ∀ t, numE lx t ≤ 400) : sumD lx (mergeP lx lx 99) 99 = 0 := by
  refine sumD_zero (m := 2) (n := 1) (fun t => ?_) (by have := (hv2 h h4).2; omega) (by omega) 99
  rw [mergeP_num (nn2 h) t 99]
  split
  · omega
  · rename_i hn
    rw [num_out h (by omega)]; rfl
end
section
variable {ia fa ta ib fb tb im fm tm : Int} {la lb lm : List (Int × Int)}
theorem near_sums (h : MergeIs ia la fa ta ib lb fb tb im lm fm tm 0) : HV im lm fm tm ∧ totE lm = totE la + totE lb ∧ sumD la lm 99 = sumD la lb 99 ∧ sumD lm lb 99 = sumD la lb 99 := by
  obtain ⟨ha, hb, hc, h1, h2, h3, rfl, rfl⟩ := h.ok
  obtain ⟨hv, ht⟩ := ha.merge hb hc h1 h2 h3
  have hnn : ∀ t, 0 ≤ numE la t + numE lb t := fun t => by have := (ha.nn t).1; have := (hb.nn t).1; omega
  refine ⟨hv, ht, sumD_merge (fun t t1 t2 => by rw [mergeP_num hnn, if_pos ⟨t1, t2⟩]) ht 99 (by omega), ?_⟩
  rw [sumD_comm, sumD_comm la lb]
  exact sumD_merge (fun t t1 t2 => by rw [mergeP_num hnn, if_pos ⟨t1, t2⟩, Int.add_comm]) (by omega) 99 (by omega)
theorem full_iff (ha : HV ia la fa ta) (hb : HV ib lb fb tb) : disD la lb = quo 100 1 ↔ comR la lb 99 = [] := by
  have h1 := ha.pos
  have h2 := hb.pos
  have h3 := sumD_eq (a := la) (b := lb) (by omega) (by omega) (fun t => (ha.nn t).1) (fun t => (hb.nn t).1) 99
  rw [sumE_eq, sumE_eq, ha.sum, hb.sum, Int.mul_comm (totE lb)] at h3
  rw [dis_full (by omega) (by omega), show 2 * (totE la * totE lb) = totE la * totE lb + totE la * totE lb by omega, h3]
  constructor
  · intro h
    refine List.eq_nil_iff_forall_not_mem.2 fun t ht => ?_
    obtain ⟨t1, t2, t3⟩ := comR_mem.1 ht
    have h4 := h (t - 1).toNat (by omega)
    rw [show (((t - 1).toNat : Nat) : Int) + 1 = t by omega] at h4
    omega
  · intro h i hi
    have h5 : ¬ ((i : Int) + 1) ∈ comR la lb 99 := by rw [h]; simp
    have h6 := (ha.nn ((i : Int) + 1)).1
    have h7 := (hb.nn ((i : Int) + 1)).1
    rw [comR_mem] at h5
    omega
theorem t100 : fracText (quo 100 1) = [49, 48, 48] := lit_text (s := false) (a := 100) (b := 1) (quo_rv 100 (by decide)) (by omega) (by omega) (by decide +kernel)
theorem t200 : fracText (quo 200 1) = [50, 48, 48] := lit_text (s := false) (a := 200) (b := 1) (quo_rv 200 (by decide)) (by omega) (by omega) (by decide +kernel)
theorem text100 {q : Rat} (h : fracText q = [49, 48, 48]) : q = quo 100 1 := by
  have hs : sg q = false := by
    cases e : sg q with
    | false => rfl
    | true => rw [fracText, e] at h; simp at h
  rw [fracText, hs] at h
  by_cases hd : q.den = 1
  · rw [if_pos hd] at h
    have h1 : Lib.decDigits (nu q) = [49, 48, 48] := by simpa using h
    have h2 := dval_dec (nu q)
    rw [h1] at h2
    have h3 : nu q = 100 := h2.symm.trans (by decide)
    rw [← rv_self q, hs, hd, h3]
    exact (quo_rv 100 (d := 1) (by decide)).symm
  · rw [if_neg hd] at h
    have h4 : (47 : UInt8) ∈ [49, 48, 48] := by rw [← h]; simp
    exact absurd h4 (by decide)
theorem full_text (ha : HV ia la fa ta) (hb : HV ib lb fb tb) : fracText (disD la lb) = [49, 48, 48] ↔ comR la lb 99 = [] := by
  rw [← full_iff ha hb]
  exact ⟨text100, fun h => by rw [h, t100]⟩
end
theorem dis_lt {ia fa ta ib fb tb : Int} {la lb : List (Int × Int)} (ha : HV ia la fa ta) (hb : HV ib lb fb tb) : disD la lb ≤ quo 100 1 :=
  dis_le (by have := ha.pos; omega) (by have := hb.pos; omega) (sumD_bd ha hb (by omega)).2
theorem dis_sz {ia fa ta ib fb tb : Int} {la lb : List (Int × Int)} (ha : HV ia la fa ta) (hb : HV ib lb fb tb) : Sz (disD la lb) 2 := by
  have h1 := tots ha hb
  have h2 := sumD_bd ha hb (Nat.le_refl 99)
  exact quo_sz (by omega) (by omega) (by omega) (by omega)
/-- the hoards of the fixed results -/
theorem hA0 : HV 1 [(1, 1), (2, 1)] 1 1 := ⟨by omega, by simp, listed2 (by omega) (by omega) (by omega) (by omega) (by omega), by unfold YV; omega⟩
theorem hB0 : HV 2 [(2, 3)] 1 1 := ⟨by omega, by simp, fun i x hx => by
  match i, hx with
  | 0, hx => simp at hx; subst hx; exact ⟨by omega, by omega, fun j y h => absurd h (by omega)⟩
  | i + 1, hx => simp at hx, by unfold YV; omega⟩
theorem pA0 : PH [72, 49, 58, 32, 49, 120, 49, 32, 50, 120, 49, 59, 32, 49, 32, 65, 68] 1 [(1, 1), (2, 1)] 1 1 0 := .inl ⟨rfl, hA0, by decide +kernel⟩
theorem pB0 : PH [72, 50, 58, 32, 50, 120, 51, 59, 32, 49, 32, 65, 68] 2 [(2, 3)] 1 1 0 := .inl ⟨rfl, hB0, by decide +kernel⟩
theorem cAB : coD [(1, 1), (2, 1)] [(2, 3)] 99 = quo 100 1 := by
  have h1 : sumD [(1, 1), (2, 1)] [(2, 3)] 99 = 6 := by decide +kernel
  have h2 : totE [(1, 1), (2, 1)] = 2 := by decide +kernel
  have h3 : totE [(2, 3)] = 3 := by decide +kernel
  rw [coD, h1, h2, h3]
  exact quo_eq (by decide) (by decide) (by decide)
end Go.Proofs.YteleohgalknkiaaGreatDoor

namespace Go.Proofs.YteleohgalknkiaaGreatDoor
open Go.RowKit Go.Proofs Go

/-- a hoard -/
def RetH (w : World) (id : Int) (L : List (Int × Int)) (f t : Int) (e : Ending) (w' : World) : Prop :=
  ∃ A c, e = .returned (.agg #[.int .i64 id, .slice A L.length c, .int .i64 f, .int .i64 t]) ∧ Es w' A L ∧ Below w.heap.size w w'
/-- append of one entry, as a step of a region that draws its order -/
theorem step_epush {ops : Array Oper} {o : Oper} {a : Act} {K : Act → World → Prop} {Q : Exit → Act → World → Prop} {Ex : Prop} (w : World) (hg : o.guard = none) (s x : Operand) (hop : o.op = Op.call { callee := Callee.builtin Builtin.append, args := #[s, x], argTypes := #[22, 22] })
    {B c : Nat} {A : Option Addr} {l : List (Int × Int)} {k v : Int} (hs : a.eval s = .slice A l.length c) (hx : a.eval x = .slice (some ⟨w.heap.size, 0, none⟩) 1 1) (hown : EOwn w B A c l)
    (hl : l.length ≤ 1000000) (hB : B ≤ w.heap.size)
    (hK : ∀ A' c' w', EOwn w' B A' c' (l ++ [(k, v)]) → Below B w w' → w.heap.size < w'.heap.size → K (a.put o.dst (.slice A' (l.length + 1) c')) w') :
    if Region.wanted o (yielded ops a.tmps) = true then Oper.wp Tryz.prog o a (w.alloc (.cells #[.int .i64 k, .int .i64 v] 77)) K Q else Ex := by
  have hw : Region.wanted o (yielded ops a.tmps) = true := by simp [Region.wanted, hg]
  rw [if_pos hw]
  obtain ⟨i, hi, hz, h1, h2⟩ := info_parts infoEntry
  refine wp_append_own _ s x _ hop B _ i _ 2 16 undEntry hi hz h1 h2 (by rfl) (by decide) _ l.length (ecells l) hs (World.ownsRow.alloc hown _) ⟨w.heap.size, 0, none⟩ 1 1 [.int .i64 k, .int .i64 v] hx rfl ?_ ?_ (by unfold maxLen; omega) (by omega) (by simp; omega) ?_
  · intro j u hj
    match j, hj with
    | 0, hj => simp at hj; subst hj; exact al_at (by simp) _ rfl
    | 1, hj => simp at hj; subst hj; exact al_at (by simp) _ rfl
    | j + 2, hj => simp at hj
  · intro u hu
    simp at hu
    rcases hu with rfl | rfl <;> rfl
  · intro v' w' h3 h4 h5
    have hb : w.grownBy w' (Value.slice A l.length c).ownBlock := ⟨h4.os, h4.tape, h4.output, Nat.le_trans (by simp) h4.size, fun k hk hne => (h4.block k (by simp; omega) hne).trans (Below.heap_alloc w _ k hk)⟩
    have hlt : w.heap.size < w'.heap.size := by have := h4.size; simp at this; omega
    obtain ⟨A', c', rfl⟩ : ∃ A' c', v' = .slice A' (l.length + 1) c' := by
      rcases h3.2 with ⟨_, h0⟩ | ⟨g, cap, cur, hv, _⟩
      · omega
      · exact ⟨_, _, hv⟩
    refine hK A' c' w' ?_ (below_of_grown hb hB fun k hk => ((World.ownsRow.lt hown) k hk).1) hlt
    rw [EOwn, ecells_snoc, List.length_append]
    exact h3
set_option maxHeartbeats 4000000 in
set_option maxRecDepth 100000 in
theorem halved_any {ia fa ta : Int} (Aa : Option Addr) (ca : Nat) (la : List (Int × Int)) (w : World) (HA : Es w Aa la) (hla : la.length ≤ 32) :
    Calls Tryz.prog 15 #[.agg #[.int .i64 ia, .slice Aa la.length ca, .int .i64 fa, .int .i64 ta]] w (RetH w ia (capL la) fa ta) := by
  have HX : BL w (((w.alloc (.cells #[.int .i64 ia, .slice Aa la.length ca, .int .i64 fa, .int .i64 ta] 26)).alloc (.cells #[.int .i64 0, .slice none 0 0, .int .i64 0, .int .i64 0] 26)).alloc (.cells #[.int .i64 ia, .slice none 0 0, .int .i64 fa, .int .i64 ta] 26)) [(w.heap.size, #[.int .i64 ia, .slice Aa la.length ca, .int .i64 fa, .int .i64 ta], 26), (w.heap.size + 1, #[.int .i64 0, .slice none 0 0, .int .i64 0, .int .i64 0], 26), (w.heap.size + 1 + 1, #[.int .i64 ia, .slice none 0 0, .int .i64 fa, .int .i64 ta], 26)] := BL.three w #[.int .i64 ia, .slice Aa la.length ca, .int .i64 fa, .int .i64 ta] #[.int .i64 0, .slice none 0 0, .int .i64 0, .int .i64 0] #[.int .i64 ia, .slice none 0 0, .int .i64 fa, .int .i64 ta] 26 26 26
  go_enter Tryz.func15, Tryz.ntmps15
  go_upto_region 2 with fail
  generalize ((w.alloc (.cells #[.int .i64 ia, .slice Aa la.length ca, .int .i64 fa, .int .i64 ta] 26)).alloc (.cells #[.int .i64 0, .slice none 0 0, .int .i64 0, .int .i64 0] 26)).alloc (.cells #[.int .i64 ia, .slice none 0 0, .int .i64 fa, .int .i64 ta] 26) = W3 at *
  obtain ⟨g3, hg3⟩ : ∃ g3, w.heap.size + 1 + 1 = g3 := ⟨_, rfl⟩
  rw [hg3] at HX
  rw [hg3]
  have hg3a : w.heap.size + 1 < g3 := by omega
  clear hg3
  have hltB := HX.lt 2 rfl
  simp only [] at hltB
  obtain ⟨B, hB⟩ : ∃ B, W3.heap.size = B := ⟨_, rfl⟩
  have hBw : w.heap.size ≤ B := by omega
  have hBw2 : g3 < B := by omega
  have HOWN := EOwn.nil W3 B
  go_wp2
  go_loopg [4] la.length (fun g i wr => ∃ (j : Nat) (A8 : Option Addr) (c8 : Nat) (m : List (Int × Int)), j + g = la.length ∧ i = .int .i64 (j : Int) ∧ Hid ((capL la).take j = m) ∧ EOwn wr B A8 c8 m ∧ BL w wr [(w.heap.size, #[.int .i64 ia, .slice Aa la.length ca, .int .i64 fa, .int .i64 ta], 26), (w.heap.size + 1, #[.int .i64 0, .slice none 0 0, .int .i64 0, .int .i64 0], 26), (g3, #[.int .i64 ia, .slice A8 m.length c8, .int .i64 fa, .int .i64 ta], 26)] ∧ B ≤ wr.heap.size)
  case atStart => exact ⟨0, none, 0, [], by omega, rfl, Lib.hid rfl, HOWN, HX, by omega⟩
  case round =>
    clear HX HOWN hB
    obtain ⟨j, A8, c8, m, hj, rfl, hm, HOWN, HX, hBr⟩ := hrel
    have hml : m.length ≤ 1000000 := by rw [← hm.out, List.length_take]; omega
    by_cases hj0 : j < la.length
    · have hx := Lib.hid (List.getElem?_eq_getElem hj0)
      have hnx := Lib.hid ((capL_one hx.out).trans (congrArg (· ++ [((la[j]).1, min (la[j]).2 400)]) hm.out))
      obtain ⟨ad, rfl, hbk, hkx, hvx⟩ := (HA.ext HX.below).at_ hx.out
      generalize la[j] = x at *
      obtain ⟨k, v⟩ := x
      simp only [] at hkx hvx hnx
      have j1 : (0 : Int) ≤ (j : Int) := by omega
      have j2 : (j : Int) < (la.length : Int) := by omega
      clear hkx hvx
      have hc00 := HX.cell 0 0 rfl rfl
      have hc01 := HX.cell 0 1 rfl rfl
      have hc02 := HX.cell 0 2 rfl rfl
      have hc03 := HX.cell 0 3 rfl rfl
      try simp only [List.getElem_toArray, List.getElem_cons_zero, List.getElem_cons_succ] at hc00 hc01 hc02 hc03
      rcases Int.lt_trichotomy v 400 with h3 | h3 | h3
      · have d1 : min v 400 = v := by omega
        rw [d1] at hnx
        go_upto_region 5 with fail
        clear hc00 hc01 hc02 hc03
        have held : ∀ {W' : World} {L : List (Nat × Array Value × TypeId)}, BL w W' ((w.heap.size, #[.int .i64 ia, .slice (some ad) la.length ca, .int .i64 fa, .int .i64 ta], 26) :: L) → W'.cell? ⟨w.heap.size, 1, none⟩ = some (.slice (some ad) la.length ca) ∧ W'.cell? (ad.add (j * 2)) = some (.int .i64 k) ∧ W'.cell? ⟨(ad.add (j * 2)).block, (ad.add (j * 2)).off + 1, none⟩ = some (.int .i64 v) := fun h => ⟨h.cell 0 1 rfl rfl, by
          obtain ⟨ad1, e1, _, r1, r2⟩ := (HA.ext h.below).at_ hx.out
          obtain rfl := Option.some.inj e1
          exact ⟨r1, r2⟩⟩
        have hc21 := HX.cell 2 1 rfl rfl
        have hl3 := HX.lt 2 rfl
        try simp only [List.getElem_toArray, List.getElem_cons_zero, List.getElem_cons_succ] at hc21 hl3
        replace HX := HX.ext (drew_ext _)
        replace HOWN := HOWN.ext (drew_ext _)
        replace hBr : B ≤ wr.drew.heap.size := hBr
        refine wp_region_held_drew (S := fun W' => W'.cell? ⟨w.heap.size, 1, none⟩ = some (.slice (some ad) la.length ca) ∧ W'.cell? (ad.add (j * 2)) = some (.int .i64 k) ∧ W'.cell? ⟨(ad.add (j * 2)).block, (ad.add (j * 2)).off + 1, none⟩ = some (.int .i64 v)) (by kernel_rfl) (held HX) (fun hHeld => ?_)
        refine wpAnyH_take (i := 0) (v := ?_) (by simp only [List.getElem?_toArray, List.getElem?_cons_zero]; rfl) (by kernel_rfl) (by kernel_rfl) (by kernel_rfl) (by exact fun _ _ _ h => h) (Or.inl ⟨by kernel_rfl, ?_⟩) (by assumption) ?_
        rotate_left
        · intro w hSw; (try dsimp only at hSw); go_simp <;> (try with_reducible rfl)
        try simp only [Act.put, List.setIfInBounds_toArray, List.set_cons_zero, List.set_cons_succ]
        refine wpAnyH_take (i := 2) (v := ?_) (by simp only [List.getElem?_toArray, List.getElem?_cons_succ, List.getElem?_cons_zero]; rfl) (by kernel_rfl) (by kernel_rfl) (by kernel_rfl) (by exact fun _ _ _ h => h) (Or.inl ⟨by kernel_rfl, ?_⟩) (by assumption) ?_
        rotate_left
        · intro w hSw; (try dsimp only at hSw); go_simp <;> (try with_reducible rfl)
        try simp only [Act.put, List.setIfInBounds_toArray, List.set_cons_zero, List.set_cons_succ]
        refine wpAnyH_take (i := 3) (v := ?_) (by simp only [List.getElem?_toArray, List.getElem?_cons_succ, List.getElem?_cons_zero]; rfl) (by kernel_rfl) (by kernel_rfl) (by kernel_rfl) (by exact fun _ _ _ h => h) (Or.inl ⟨by kernel_rfl, ?_⟩) (by assumption) ?_
        rotate_left
        · intro w hSw; (try dsimp only at hSw); go_simp <;> (try with_reducible rfl)
        try simp only [Act.put, List.setIfInBounds_toArray, List.set_cons_zero, List.set_cons_succ]
        refine wpAnyH_take (i := 4) (v := ?_) (by simp only [List.getElem?_toArray, List.getElem?_cons_succ, List.getElem?_cons_zero]; rfl) (by kernel_rfl) (by kernel_rfl) (by kernel_rfl) (by exact fun _ _ _ h => h) (Or.inl ⟨by kernel_rfl, ?_⟩) (by assumption) ?_
        rotate_left
        · intro w hSw; (try dsimp only at hSw); go_simp <;> (try with_reducible rfl)
        try simp only [Act.put, List.setIfInBounds_toArray, List.set_cons_zero, List.set_cons_succ]
        refine wpAnyH_take (i := 5) (v := ?_) (by simp only [List.getElem?_toArray, List.getElem?_cons_succ, List.getElem?_cons_zero]; rfl) (by kernel_rfl) (by kernel_rfl) (by kernel_rfl) (by exact fun _ _ _ h => h) (Or.inl ⟨by kernel_rfl, ?_⟩) (by assumption) ?_
        rotate_left
        · intro w hSw; (try dsimp only at hSw); go_simp <;> (try with_reducible rfl)
        try simp only [Act.put, List.setIfInBounds_toArray, List.set_cons_zero, List.set_cons_succ]
        refine wpAnyH_take (i := 6) (v := ?_) (by simp only [List.getElem?_toArray, List.getElem?_cons_succ, List.getElem?_cons_zero]; rfl) (by kernel_rfl) (by kernel_rfl) (by kernel_rfl) (by exact fun _ _ _ h => h) (Or.inl ⟨by kernel_rfl, ?_⟩) (by assumption) ?_
        rotate_left
        · intro w hSw; (try dsimp only at hSw); go_simp <;> (try with_reducible rfl)
        try simp only [Act.put, List.setIfInBounds_toArray, List.set_cons_zero, List.set_cons_succ]
        refine wpAnyH_take (i := 7) (v := ?_) (by simp only [List.getElem?_toArray, List.getElem?_cons_succ, List.getElem?_cons_zero]; rfl) (by kernel_rfl) (by kernel_rfl) (by kernel_rfl) (by exact fun _ _ _ h => h) (Or.inl ⟨by kernel_rfl, ?_⟩) (by assumption) ?_
        rotate_left
        · intro w hSw; (try dsimp only at hSw); go_simp <;> (try with_reducible rfl)
        try simp only [Act.put, List.setIfInBounds_toArray, List.set_cons_zero, List.set_cons_succ]
        refine wpAnyH_take (i := 8) (v := ?_) (by simp only [List.getElem?_toArray, List.getElem?_cons_succ, List.getElem?_cons_zero]; rfl) (by kernel_rfl) (by kernel_rfl) (by kernel_rfl) (by exact fun _ _ _ h => h) (Or.inl ⟨by kernel_rfl, ?_⟩) (by assumption) ?_
        rotate_left
        · intro w hSw; (try dsimp only at hSw); go_simp <;> (try with_reducible rfl)
        try simp only [Act.put, List.setIfInBounds_toArray, List.set_cons_zero, List.set_cons_succ]
        refine wpAnyH_take (i := 9) (v := ?_) (by simp only [List.getElem?_toArray, List.getElem?_cons_succ, List.getElem?_cons_zero]; rfl) (by kernel_rfl) (by kernel_rfl) (by kernel_rfl) (by exact fun _ _ _ h => h) (Or.inl ⟨by kernel_rfl, ?_⟩) (by assumption) ?_
        rotate_left
        · intro w hSw; (try dsimp only at hSw); go_simp <;> (try with_reducible rfl)
        try simp only [Act.put, List.setIfInBounds_toArray, List.set_cons_zero, List.set_cons_succ]
        refine wpAnyH_take (i := 10) (v := ?_) (by simp only [List.getElem?_toArray, List.getElem?_cons_succ, List.getElem?_cons_zero]; rfl) (by kernel_rfl) (by kernel_rfl) (by kernel_rfl) (by exact fun _ _ _ h => h) (Or.inl ⟨by kernel_rfl, ?_⟩) (by assumption) ?_
        rotate_left
        · intro w hSw; (try dsimp only at hSw); go_simp <;> (try with_reducible rfl)
        try simp only [Act.put, List.setIfInBounds_toArray, List.set_cons_zero, List.set_cons_succ]
        refine wpAnyH_take (i := 11) (v := ?_) (by simp only [List.getElem?_toArray, List.getElem?_cons_succ, List.getElem?_cons_zero]; rfl) (by kernel_rfl) (by kernel_rfl) (by kernel_rfl) (by exact fun _ _ _ h => h) (Or.inl ⟨by kernel_rfl, ?_⟩) (by assumption) ?_
        rotate_left
        · intro w hSw; (try dsimp only at hSw); go_simp <;> (try with_reducible rfl)
        try simp only [Act.put, List.setIfInBounds_toArray, List.set_cons_zero, List.set_cons_succ]
        refine wpAnyH_take (i := 12) (v := ?_) (by simp only [List.getElem?_toArray, List.getElem?_cons_succ, List.getElem?_cons_zero]; rfl) (by kernel_rfl) (by kernel_rfl) (by kernel_rfl) (by exact fun _ _ _ h => h) (Or.inl ⟨by kernel_rfl, ?_⟩) (by assumption) ?_
        rotate_left
        · intro w hSw; (try dsimp only at hSw); go_simp <;> (try with_reducible rfl)
        try simp only [Act.put, List.setIfInBounds_toArray, List.set_cons_zero, List.set_cons_succ]
        refine wpAnyH_take (i := 13) (v := ?_) (by simp only [List.getElem?_toArray, List.getElem?_cons_succ, List.getElem?_cons_zero]; rfl) (by kernel_rfl) (by kernel_rfl) (by kernel_rfl) (by exact fun _ _ _ h => h) (Or.inl ⟨by kernel_rfl, ?_⟩) (by assumption) ?_
        rotate_left
        · intro w hSw; (try dsimp only at hSw); go_simp <;> (try with_reducible rfl)
        try simp only [Act.put, List.setIfInBounds_toArray, List.set_cons_zero, List.set_cons_succ]
        refine wpAnyH_take (i := 14) (v := ?_) (by simp only [List.getElem?_toArray, List.getElem?_cons_succ, List.getElem?_cons_zero]; rfl) (by kernel_rfl) (by kernel_rfl) (by kernel_rfl) (by exact fun _ _ _ h => h) (Or.inl ⟨by kernel_rfl, ?_⟩) (by assumption) ?_
        rotate_left
        · intro w hSw; (try dsimp only at hSw); go_simp <;> (try with_reducible rfl)
        try simp only [Act.put, List.setIfInBounds_toArray, List.set_cons_zero, List.set_cons_succ]
        refine wpAnyH_take (i := 15) (v := ?_) (by simp only [List.getElem?_toArray, List.getElem?_cons_succ, List.getElem?_cons_zero]; rfl) (by kernel_rfl) (by kernel_rfl) (by kernel_rfl) (by exact fun _ _ _ h => h) (Or.inl ⟨by kernel_rfl, ?_⟩) (by assumption) ?_
        rotate_left
        · intro w hSw; (try dsimp only at hSw); go_simp <;> (try with_reducible rfl)
        try simp only [Act.put, List.setIfInBounds_toArray, List.set_cons_zero, List.set_cons_succ]
        refine wpAnyH_ready (rs := [1, 16]) (by kernel_rfl) (by simp) ?_
        refine AllReadyH.cons (by simp only [List.getElem?_toArray, List.getElem?_cons_succ, List.getElem?_cons_zero]; rfl) (fun K hK => ?_) (AllReadyH.cons (by simp only [List.getElem?_toArray, List.getElem?_cons_succ, List.getElem?_cons_zero]; rfl) (fun K hK => ?_) AllReadyH.nil)
        · go_simp
          clear hHeld
          refine hK.out _ _ (held HX) (fun hHeld => ?_)
          clear hK K
          try simp only [Act.put, List.setIfInBounds_toArray, List.set_cons_zero, List.set_cons_succ]
          refine wpAnyH_ready (rs := [16]) (by kernel_rfl) (by simp) ?_
          refine AllReadyH.cons (by simp only [List.getElem?_toArray, List.getElem?_cons_succ, List.getElem?_cons_zero]; rfl) (fun K hK => ?_) AllReadyH.nil
          go_simp
          clear hHeld
          refine hK.out _ _ (held (HX.ext (below_alloc _ _))) (fun hHeld => ?_)
          clear hK K
          try simp only [Act.put, List.setIfInBounds_toArray, List.set_cons_zero, List.set_cons_succ]
          refine wpAnyH_ready (rs := [17]) (by kernel_rfl) (by simp) ?_
          refine AllReadyH.cons (by simp only [List.getElem?_toArray, List.getElem?_cons_succ, List.getElem?_cons_zero]; rfl) (fun K hK => ?_) AllReadyH.nil
          refine step_epush wr.drew rfl _ _ rfl rfl rfl HOWN (by omega) hBr ?_
          intro A9 c9 w7 HOWN2 hb7 hlt7
          replace HX := HX.low hBw (by intro i q hq; match i, hq with | 0, hq => (simp at hq; subst hq; simp; try omega) | 1, hq => (simp at hq; subst hq; simp; try omega) | 2, hq => (simp at hq; subst hq; simp; try omega) | i + 3, hq => simp at hq) hb7
          clear hc21 hl3 hHeld
          have hc21 := HX.cell 2 1 rfl rfl
          have hf21 := HX.free 2 1 rfl
          try simp only [List.getElem_toArray, List.getElem_cons_zero, List.getElem_cons_succ] at hc21 hf21
          refine hK.out _ _ (held HX) (fun hHeld => ?_)
          clear hK K
          try simp only [Act.put, List.setIfInBounds_toArray, List.set_cons_zero, List.set_cons_succ]
          refine wpAnyH_ready (rs := [18]) (by kernel_rfl) (by simp) ?_
          refine AllReadyH.cons (by simp only [List.getElem?_toArray, List.getElem?_cons_succ, List.getElem?_cons_zero]; rfl) (fun K hK => ?_) AllReadyH.nil
          go_simp
          clear hHeld
          refine hK.out _ _ (held HX) (fun hHeld => ?_)
          clear hK K
          try simp only [Act.put, List.setIfInBounds_toArray, List.set_cons_zero, List.set_cons_succ]
          refine wpAnyH_ready (rs := [19]) (by kernel_rfl) (by simp) ?_
          refine AllReadyH.cons (by simp only [List.getElem?_toArray, List.getElem?_cons_succ, List.getElem?_cons_zero]; rfl) (fun K hK => ?_) AllReadyH.nil
          go_simp
          clear hHeld
          refine hK.out _ _ (held (HX.set1 2 rfl (by omega) (by intro k q hk hne; match k, hk with | 0, hk => (simp at hk; subst hk; simp at hne ⊢; try omega) | 1, hk => (simp at hk; subst hk; simp at hne ⊢; try omega) | 2, hk => (simp at hk; subst hk; simp at hne ⊢; try omega) | k + 3, hk => simp at hk) 1 _)) (fun hHeld => ?_)
          clear hK K
          try simp only [Act.put, List.setIfInBounds_toArray, List.set_cons_zero, List.set_cons_succ]
          refine wpAnyH_done (by kernel_rfl) ?_ _
          clear hc21 hf21 held hHeld
          have hB7 : B ≤ w7.heap.size := by omega
          replace HX := HX.set1 2 rfl (by omega) (by intro k q hk hne; match k, hk with | 0, hk => (simp at hk; subst hk; simp at hne ⊢; try omega) | 1, hk => (simp at hk; subst hk; simp at hne ⊢; try omega) | 2, hk => (simp at hk; subst hk; simp at hne ⊢; try omega) | k + 3, hk => simp at hk) 1 (.slice A9 (m.length + 1) c9)
          simp only [List.set_cons_zero, List.set_cons_succ, List.setIfInBounds_toArray] at HX
          replace HOWN2 := HOWN2.far (p := ⟨g3, 1, none⟩) (by show g3 < B; omega) (.slice A9 (m.length + 1) c9)
          have hB8 : B ≤ (w7.setCell ⟨g3, 1, none⟩ (.slice A9 (m.length + 1) c9)).heap.size := by simpa [World.setCell] using hB7
          generalize w7.setCell ⟨g3, 1, none⟩ (.slice A9 (m.length + 1) c9) = w8 at *
          go_wp2
          go_roundg (la.length - (j + 1))
          case measure => omega
          case rel => exact ⟨j + 1, A9, c9, _, by omega, by go_num, hnx, HOWN2, by rw [List.length_append]; exact HX, hB8⟩
        · go_simp
          clear hHeld
          refine hK.out _ _ (held (HX.ext (below_alloc _ _))) (fun hHeld => ?_)
          clear hK K
          try simp only [Act.put, List.setIfInBounds_toArray, List.set_cons_zero, List.set_cons_succ]
          refine wpAnyH_ready (rs := [1]) (by kernel_rfl) (by simp) ?_
          refine AllReadyH.cons (by simp only [List.getElem?_toArray, List.getElem?_cons_succ, List.getElem?_cons_zero]; rfl) (fun K hK => ?_) AllReadyH.nil
          go_simp
          clear hHeld
          refine hK.out _ _ (held (HX.ext (below_alloc _ _))) (fun hHeld => ?_)
          clear hK K
          try simp only [Act.put, List.setIfInBounds_toArray, List.set_cons_zero, List.set_cons_succ]
          refine wpAnyH_ready (rs := [17]) (by kernel_rfl) (by simp) ?_
          refine AllReadyH.cons (by simp only [List.getElem?_toArray, List.getElem?_cons_succ, List.getElem?_cons_zero]; rfl) (fun K hK => ?_) AllReadyH.nil
          refine step_epush wr.drew rfl _ _ rfl rfl rfl HOWN (by omega) hBr ?_
          intro A9 c9 w7 HOWN2 hb7 hlt7
          replace HX := HX.low hBw (by intro i q hq; match i, hq with | 0, hq => (simp at hq; subst hq; simp; try omega) | 1, hq => (simp at hq; subst hq; simp; try omega) | 2, hq => (simp at hq; subst hq; simp; try omega) | i + 3, hq => simp at hq) hb7
          clear hc21 hl3 hHeld
          have hc21 := HX.cell 2 1 rfl rfl
          have hf21 := HX.free 2 1 rfl
          try simp only [List.getElem_toArray, List.getElem_cons_zero, List.getElem_cons_succ] at hc21 hf21
          refine hK.out _ _ (held HX) (fun hHeld => ?_)
          clear hK K
          try simp only [Act.put, List.setIfInBounds_toArray, List.set_cons_zero, List.set_cons_succ]
          refine wpAnyH_ready (rs := [18]) (by kernel_rfl) (by simp) ?_
          refine AllReadyH.cons (by simp only [List.getElem?_toArray, List.getElem?_cons_succ, List.getElem?_cons_zero]; rfl) (fun K hK => ?_) AllReadyH.nil
          go_simp
          clear hHeld
          refine hK.out _ _ (held HX) (fun hHeld => ?_)
          clear hK K
          try simp only [Act.put, List.setIfInBounds_toArray, List.set_cons_zero, List.set_cons_succ]
          refine wpAnyH_ready (rs := [19]) (by kernel_rfl) (by simp) ?_
          refine AllReadyH.cons (by simp only [List.getElem?_toArray, List.getElem?_cons_succ, List.getElem?_cons_zero]; rfl) (fun K hK => ?_) AllReadyH.nil
          go_simp
          clear hHeld
          refine hK.out _ _ (held (HX.set1 2 rfl (by omega) (by intro k q hk hne; match k, hk with | 0, hk => (simp at hk; subst hk; simp at hne ⊢; try omega) | 1, hk => (simp at hk; subst hk; simp at hne ⊢; try omega) | 2, hk => (simp at hk; subst hk; simp at hne ⊢; try omega) | k + 3, hk => simp at hk) 1 _)) (fun hHeld => ?_)
          clear hK K
          try simp only [Act.put, List.setIfInBounds_toArray, List.set_cons_zero, List.set_cons_succ]
          refine wpAnyH_done (by kernel_rfl) ?_ _
          clear hc21 hf21 held hHeld
          have hB7 : B ≤ w7.heap.size := by omega
          replace HX := HX.set1 2 rfl (by omega) (by intro k q hk hne; match k, hk with | 0, hk => (simp at hk; subst hk; simp at hne ⊢; try omega) | 1, hk => (simp at hk; subst hk; simp at hne ⊢; try omega) | 2, hk => (simp at hk; subst hk; simp at hne ⊢; try omega) | k + 3, hk => simp at hk) 1 (.slice A9 (m.length + 1) c9)
          simp only [List.set_cons_zero, List.set_cons_succ, List.setIfInBounds_toArray] at HX
          replace HOWN2 := HOWN2.far (p := ⟨g3, 1, none⟩) (by show g3 < B; omega) (.slice A9 (m.length + 1) c9)
          have hB8 : B ≤ (w7.setCell ⟨g3, 1, none⟩ (.slice A9 (m.length + 1) c9)).heap.size := by simpa [World.setCell] using hB7
          generalize w7.setCell ⟨g3, 1, none⟩ (.slice A9 (m.length + 1) c9) = w8 at *
          go_wp2
          go_roundg (la.length - (j + 1))
          case measure => omega
          case rel => exact ⟨j + 1, A9, c9, _, by omega, by go_num, hnx, HOWN2, by rw [List.length_append]; exact HX, hB8⟩
      · have d1 : min v 400 = 400 := by omega
        rw [d1] at hnx
        go_upto_region 5 with fail
        clear hc00 hc01 hc02 hc03
        have held : ∀ {W' : World} {L : List (Nat × Array Value × TypeId)}, BL w W' ((w.heap.size, #[.int .i64 ia, .slice (some ad) la.length ca, .int .i64 fa, .int .i64 ta], 26) :: L) → W'.cell? ⟨w.heap.size, 1, none⟩ = some (.slice (some ad) la.length ca) ∧ W'.cell? (ad.add (j * 2)) = some (.int .i64 k) ∧ W'.cell? ⟨(ad.add (j * 2)).block, (ad.add (j * 2)).off + 1, none⟩ = some (.int .i64 v) := fun h => ⟨h.cell 0 1 rfl rfl, by
          obtain ⟨ad1, e1, _, r1, r2⟩ := (HA.ext h.below).at_ hx.out
          obtain rfl := Option.some.inj e1
          exact ⟨r1, r2⟩⟩
        have hc21 := HX.cell 2 1 rfl rfl
        have hl3 := HX.lt 2 rfl
        try simp only [List.getElem_toArray, List.getElem_cons_zero, List.getElem_cons_succ] at hc21 hl3
        replace HX := HX.ext (drew_ext _)
        replace HOWN := HOWN.ext (drew_ext _)
        replace hBr : B ≤ wr.drew.heap.size := hBr
        refine wp_region_held_drew (S := fun W' => W'.cell? ⟨w.heap.size, 1, none⟩ = some (.slice (some ad) la.length ca) ∧ W'.cell? (ad.add (j * 2)) = some (.int .i64 k) ∧ W'.cell? ⟨(ad.add (j * 2)).block, (ad.add (j * 2)).off + 1, none⟩ = some (.int .i64 v)) (by kernel_rfl) (held HX) (fun hHeld => ?_)
        refine wpAnyH_take (i := 0) (v := ?_) (by simp only [List.getElem?_toArray, List.getElem?_cons_zero]; rfl) (by kernel_rfl) (by kernel_rfl) (by kernel_rfl) (by exact fun _ _ _ h => h) (Or.inl ⟨by kernel_rfl, ?_⟩) (by assumption) ?_
        rotate_left
        · intro w hSw; (try dsimp only at hSw); go_simp <;> (try with_reducible rfl)
        try simp only [Act.put, List.setIfInBounds_toArray, List.set_cons_zero, List.set_cons_succ]
        refine wpAnyH_take (i := 2) (v := ?_) (by simp only [List.getElem?_toArray, List.getElem?_cons_succ, List.getElem?_cons_zero]; rfl) (by kernel_rfl) (by kernel_rfl) (by kernel_rfl) (by exact fun _ _ _ h => h) (Or.inl ⟨by kernel_rfl, ?_⟩) (by assumption) ?_
        rotate_left
        · intro w hSw; (try dsimp only at hSw); go_simp <;> (try with_reducible rfl)
        try simp only [Act.put, List.setIfInBounds_toArray, List.set_cons_zero, List.set_cons_succ]
        refine wpAnyH_take (i := 3) (v := ?_) (by simp only [List.getElem?_toArray, List.getElem?_cons_succ, List.getElem?_cons_zero]; rfl) (by kernel_rfl) (by kernel_rfl) (by kernel_rfl) (by exact fun _ _ _ h => h) (Or.inl ⟨by kernel_rfl, ?_⟩) (by assumption) ?_
        rotate_left
        · intro w hSw; (try dsimp only at hSw); go_simp <;> (try with_reducible rfl)
        try simp only [Act.put, List.setIfInBounds_toArray, List.set_cons_zero, List.set_cons_succ]
        refine wpAnyH_take (i := 4) (v := ?_) (by simp only [List.getElem?_toArray, List.getElem?_cons_succ, List.getElem?_cons_zero]; rfl) (by kernel_rfl) (by kernel_rfl) (by kernel_rfl) (by exact fun _ _ _ h => h) (Or.inl ⟨by kernel_rfl, ?_⟩) (by assumption) ?_
        rotate_left
        · intro w hSw; (try dsimp only at hSw); go_simp <;> (try with_reducible rfl)
        try simp only [Act.put, List.setIfInBounds_toArray, List.set_cons_zero, List.set_cons_succ]
        refine wpAnyH_take (i := 5) (v := ?_) (by simp only [List.getElem?_toArray, List.getElem?_cons_succ, List.getElem?_cons_zero]; rfl) (by kernel_rfl) (by kernel_rfl) (by kernel_rfl) (by exact fun _ _ _ h => h) (Or.inl ⟨by kernel_rfl, ?_⟩) (by assumption) ?_
        rotate_left
        · intro w hSw; (try dsimp only at hSw); go_simp <;> (try with_reducible rfl)
        try simp only [Act.put, List.setIfInBounds_toArray, List.set_cons_zero, List.set_cons_succ]
        refine wpAnyH_take (i := 6) (v := ?_) (by simp only [List.getElem?_toArray, List.getElem?_cons_succ, List.getElem?_cons_zero]; rfl) (by kernel_rfl) (by kernel_rfl) (by kernel_rfl) (by exact fun _ _ _ h => h) (Or.inl ⟨by kernel_rfl, ?_⟩) (by assumption) ?_
        rotate_left
        · intro w hSw; (try dsimp only at hSw); go_simp <;> (try with_reducible rfl)
        try simp only [Act.put, List.setIfInBounds_toArray, List.set_cons_zero, List.set_cons_succ]
        refine wpAnyH_take (i := 7) (v := ?_) (by simp only [List.getElem?_toArray, List.getElem?_cons_succ, List.getElem?_cons_zero]; rfl) (by kernel_rfl) (by kernel_rfl) (by kernel_rfl) (by exact fun _ _ _ h => h) (Or.inl ⟨by kernel_rfl, ?_⟩) (by assumption) ?_
        rotate_left
        · intro w hSw; (try dsimp only at hSw); go_simp <;> (try with_reducible rfl)
        try simp only [Act.put, List.setIfInBounds_toArray, List.set_cons_zero, List.set_cons_succ]
        refine wpAnyH_take (i := 8) (v := ?_) (by simp only [List.getElem?_toArray, List.getElem?_cons_succ, List.getElem?_cons_zero]; rfl) (by kernel_rfl) (by kernel_rfl) (by kernel_rfl) (by exact fun _ _ _ h => h) (Or.inl ⟨by kernel_rfl, ?_⟩) (by assumption) ?_
        rotate_left
        · intro w hSw; (try dsimp only at hSw); go_simp <;> (try with_reducible rfl)
        try simp only [Act.put, List.setIfInBounds_toArray, List.set_cons_zero, List.set_cons_succ]
        refine wpAnyH_take (i := 9) (v := ?_) (by simp only [List.getElem?_toArray, List.getElem?_cons_succ, List.getElem?_cons_zero]; rfl) (by kernel_rfl) (by kernel_rfl) (by kernel_rfl) (by exact fun _ _ _ h => h) (Or.inl ⟨by kernel_rfl, ?_⟩) (by assumption) ?_
        rotate_left
        · intro w hSw; (try dsimp only at hSw); go_simp <;> (try with_reducible rfl)
        try simp only [Act.put, List.setIfInBounds_toArray, List.set_cons_zero, List.set_cons_succ]
        refine wpAnyH_take (i := 10) (v := ?_) (by simp only [List.getElem?_toArray, List.getElem?_cons_succ, List.getElem?_cons_zero]; rfl) (by kernel_rfl) (by kernel_rfl) (by kernel_rfl) (by exact fun _ _ _ h => h) (Or.inl ⟨by kernel_rfl, ?_⟩) (by assumption) ?_
        rotate_left
        · intro w hSw; (try dsimp only at hSw); go_simp <;> (try with_reducible rfl)
        try simp only [Act.put, List.setIfInBounds_toArray, List.set_cons_zero, List.set_cons_succ]
        refine wpAnyH_take (i := 11) (v := ?_) (by simp only [List.getElem?_toArray, List.getElem?_cons_succ, List.getElem?_cons_zero]; rfl) (by kernel_rfl) (by kernel_rfl) (by kernel_rfl) (by exact fun _ _ _ h => h) (Or.inl ⟨by kernel_rfl, ?_⟩) (by assumption) ?_
        rotate_left
        · intro w hSw; (try dsimp only at hSw); go_simp <;> (try with_reducible rfl)
        try simp only [Act.put, List.setIfInBounds_toArray, List.set_cons_zero, List.set_cons_succ]
        refine wpAnyH_take (i := 12) (v := ?_) (by simp only [List.getElem?_toArray, List.getElem?_cons_succ, List.getElem?_cons_zero]; rfl) (by kernel_rfl) (by kernel_rfl) (by kernel_rfl) (by exact fun _ _ _ h => h) (Or.inl ⟨by kernel_rfl, ?_⟩) (by assumption) ?_
        rotate_left
        · intro w hSw; (try dsimp only at hSw); go_simp <;> (try with_reducible rfl)
        try simp only [Act.put, List.setIfInBounds_toArray, List.set_cons_zero, List.set_cons_succ]
        refine wpAnyH_take (i := 13) (v := ?_) (by simp only [List.getElem?_toArray, List.getElem?_cons_succ, List.getElem?_cons_zero]; rfl) (by kernel_rfl) (by kernel_rfl) (by kernel_rfl) (by exact fun _ _ _ h => h) (Or.inl ⟨by kernel_rfl, ?_⟩) (by assumption) ?_
        rotate_left
        · intro w hSw; (try dsimp only at hSw); go_simp <;> (try with_reducible rfl)
        try simp only [Act.put, List.setIfInBounds_toArray, List.set_cons_zero, List.set_cons_succ]
        refine wpAnyH_take (i := 14) (v := ?_) (by simp only [List.getElem?_toArray, List.getElem?_cons_succ, List.getElem?_cons_zero]; rfl) (by kernel_rfl) (by kernel_rfl) (by kernel_rfl) (by exact fun _ _ _ h => h) (Or.inl ⟨by kernel_rfl, ?_⟩) (by assumption) ?_
        rotate_left
        · intro w hSw; (try dsimp only at hSw); go_simp <;> (try with_reducible rfl)
        try simp only [Act.put, List.setIfInBounds_toArray, List.set_cons_zero, List.set_cons_succ]
        refine wpAnyH_take (i := 15) (v := ?_) (by simp only [List.getElem?_toArray, List.getElem?_cons_succ, List.getElem?_cons_zero]; rfl) (by kernel_rfl) (by kernel_rfl) (by kernel_rfl) (by exact fun _ _ _ h => h) (Or.inl ⟨by kernel_rfl, ?_⟩) (by assumption) ?_
        rotate_left
        · intro w hSw; (try dsimp only at hSw); go_simp <;> (try with_reducible rfl)
        try simp only [Act.put, List.setIfInBounds_toArray, List.set_cons_zero, List.set_cons_succ]
        refine wpAnyH_ready (rs := [1, 16]) (by kernel_rfl) (by simp) ?_
        refine AllReadyH.cons (by simp only [List.getElem?_toArray, List.getElem?_cons_succ, List.getElem?_cons_zero]; rfl) (fun K hK => ?_) (AllReadyH.cons (by simp only [List.getElem?_toArray, List.getElem?_cons_succ, List.getElem?_cons_zero]; rfl) (fun K hK => ?_) AllReadyH.nil)
        · go_simp
          clear hHeld
          refine hK.out _ _ (held HX) (fun hHeld => ?_)
          clear hK K
          try simp only [Act.put, List.setIfInBounds_toArray, List.set_cons_zero, List.set_cons_succ]
          refine wpAnyH_ready (rs := [16]) (by kernel_rfl) (by simp) ?_
          refine AllReadyH.cons (by simp only [List.getElem?_toArray, List.getElem?_cons_succ, List.getElem?_cons_zero]; rfl) (fun K hK => ?_) AllReadyH.nil
          go_simp
          clear hHeld
          refine hK.out _ _ (held (HX.ext (below_alloc _ _))) (fun hHeld => ?_)
          clear hK K
          try simp only [Act.put, List.setIfInBounds_toArray, List.set_cons_zero, List.set_cons_succ]
          refine wpAnyH_ready (rs := [17]) (by kernel_rfl) (by simp) ?_
          refine AllReadyH.cons (by simp only [List.getElem?_toArray, List.getElem?_cons_succ, List.getElem?_cons_zero]; rfl) (fun K hK => ?_) AllReadyH.nil
          refine step_epush wr.drew rfl _ _ rfl rfl rfl HOWN (by omega) hBr ?_
          intro A9 c9 w7 HOWN2 hb7 hlt7
          replace HX := HX.low hBw (by intro i q hq; match i, hq with | 0, hq => (simp at hq; subst hq; simp; try omega) | 1, hq => (simp at hq; subst hq; simp; try omega) | 2, hq => (simp at hq; subst hq; simp; try omega) | i + 3, hq => simp at hq) hb7
          clear hc21 hl3 hHeld
          have hc21 := HX.cell 2 1 rfl rfl
          have hf21 := HX.free 2 1 rfl
          try simp only [List.getElem_toArray, List.getElem_cons_zero, List.getElem_cons_succ] at hc21 hf21
          refine hK.out _ _ (held HX) (fun hHeld => ?_)
          clear hK K
          try simp only [Act.put, List.setIfInBounds_toArray, List.set_cons_zero, List.set_cons_succ]
          refine wpAnyH_ready (rs := [18]) (by kernel_rfl) (by simp) ?_
          refine AllReadyH.cons (by simp only [List.getElem?_toArray, List.getElem?_cons_succ, List.getElem?_cons_zero]; rfl) (fun K hK => ?_) AllReadyH.nil
          go_simp
          clear hHeld
          refine hK.out _ _ (held HX) (fun hHeld => ?_)
          clear hK K
          try simp only [Act.put, List.setIfInBounds_toArray, List.set_cons_zero, List.set_cons_succ]
          refine wpAnyH_ready (rs := [19]) (by kernel_rfl) (by simp) ?_
          refine AllReadyH.cons (by simp only [List.getElem?_toArray, List.getElem?_cons_succ, List.getElem?_cons_zero]; rfl) (fun K hK => ?_) AllReadyH.nil
          go_simp
          clear hHeld
          refine hK.out _ _ (held (HX.set1 2 rfl (by omega) (by intro k q hk hne; match k, hk with | 0, hk => (simp at hk; subst hk; simp at hne ⊢; try omega) | 1, hk => (simp at hk; subst hk; simp at hne ⊢; try omega) | 2, hk => (simp at hk; subst hk; simp at hne ⊢; try omega) | k + 3, hk => simp at hk) 1 _)) (fun hHeld => ?_)
          clear hK K
          try simp only [Act.put, List.setIfInBounds_toArray, List.set_cons_zero, List.set_cons_succ]
          refine wpAnyH_done (by kernel_rfl) ?_ _
          clear hc21 hf21 held hHeld
          have hB7 : B ≤ w7.heap.size := by omega
          replace HX := HX.set1 2 rfl (by omega) (by intro k q hk hne; match k, hk with | 0, hk => (simp at hk; subst hk; simp at hne ⊢; try omega) | 1, hk => (simp at hk; subst hk; simp at hne ⊢; try omega) | 2, hk => (simp at hk; subst hk; simp at hne ⊢; try omega) | k + 3, hk => simp at hk) 1 (.slice A9 (m.length + 1) c9)
          simp only [List.set_cons_zero, List.set_cons_succ, List.setIfInBounds_toArray] at HX
          replace HOWN2 := HOWN2.far (p := ⟨g3, 1, none⟩) (by show g3 < B; omega) (.slice A9 (m.length + 1) c9)
          have hB8 : B ≤ (w7.setCell ⟨g3, 1, none⟩ (.slice A9 (m.length + 1) c9)).heap.size := by simpa [World.setCell] using hB7
          generalize w7.setCell ⟨g3, 1, none⟩ (.slice A9 (m.length + 1) c9) = w8 at *
          go_wp2
          go_roundg (la.length - (j + 1))
          case measure => omega
          case rel => exact ⟨j + 1, A9, c9, _, by omega, by go_num, hnx, HOWN2, by rw [List.length_append]; exact HX, hB8⟩
        · go_simp
          clear hHeld
          refine hK.out _ _ (held (HX.ext (below_alloc _ _))) (fun hHeld => ?_)
          clear hK K
          try simp only [Act.put, List.setIfInBounds_toArray, List.set_cons_zero, List.set_cons_succ]
          refine wpAnyH_ready (rs := [1]) (by kernel_rfl) (by simp) ?_
          refine AllReadyH.cons (by simp only [List.getElem?_toArray, List.getElem?_cons_succ, List.getElem?_cons_zero]; rfl) (fun K hK => ?_) AllReadyH.nil
          go_simp
          clear hHeld
          refine hK.out _ _ (held (HX.ext (below_alloc _ _))) (fun hHeld => ?_)
          clear hK K
          try simp only [Act.put, List.setIfInBounds_toArray, List.set_cons_zero, List.set_cons_succ]
          refine wpAnyH_ready (rs := [17]) (by kernel_rfl) (by simp) ?_
          refine AllReadyH.cons (by simp only [List.getElem?_toArray, List.getElem?_cons_succ, List.getElem?_cons_zero]; rfl) (fun K hK => ?_) AllReadyH.nil
          refine step_epush wr.drew rfl _ _ rfl rfl rfl HOWN (by omega) hBr ?_
          intro A9 c9 w7 HOWN2 hb7 hlt7
          replace HX := HX.low hBw (by intro i q hq; match i, hq with | 0, hq => (simp at hq; subst hq; simp; try omega) | 1, hq => (simp at hq; subst hq; simp; try omega) | 2, hq => (simp at hq; subst hq; simp; try omega) | i + 3, hq => simp at hq) hb7
          clear hc21 hl3 hHeld
          have hc21 := HX.cell 2 1 rfl rfl
          have hf21 := HX.free 2 1 rfl
          try simp only [List.getElem_toArray, List.getElem_cons_zero, List.getElem_cons_succ] at hc21 hf21
          refine hK.out _ _ (held HX) (fun hHeld => ?_)
          clear hK K
          try simp only [Act.put, List.setIfInBounds_toArray, List.set_cons_zero, List.set_cons_succ]
          refine wpAnyH_ready (rs := [18]) (by kernel_rfl) (by simp) ?_
          refine AllReadyH.cons (by simp only [List.getElem?_toArray, List.getElem?_cons_succ, List.getElem?_cons_zero]; rfl) (fun K hK => ?_) AllReadyH.nil
          go_simp
          clear hHeld
          refine hK.out _ _ (held HX) (fun hHeld => ?_)
          clear hK K
          try simp only [Act.put, List.setIfInBounds_toArray, List.set_cons_zero, List.set_cons_succ]
          refine wpAnyH_ready (rs := [19]) (by kernel_rfl) (by simp) ?_
          refine AllReadyH.cons (by simp only [List.getElem?_toArray, List.getElem?_cons_succ, List.getElem?_cons_zero]; rfl) (fun K hK => ?_) AllReadyH.nil
          go_simp
          clear hHeld
          refine hK.out _ _ (held (HX.set1 2 rfl (by omega) (by intro k q hk hne; match k, hk with | 0, hk => (simp at hk; subst hk; simp at hne ⊢; try omega) | 1, hk => (simp at hk; subst hk; simp at hne ⊢; try omega) | 2, hk => (simp at hk; subst hk; simp at hne ⊢; try omega) | k + 3, hk => simp at hk) 1 _)) (fun hHeld => ?_)
          clear hK K
          try simp only [Act.put, List.setIfInBounds_toArray, List.set_cons_zero, List.set_cons_succ]
          refine wpAnyH_done (by kernel_rfl) ?_ _
          clear hc21 hf21 held hHeld
          have hB7 : B ≤ w7.heap.size := by omega
          replace HX := HX.set1 2 rfl (by omega) (by intro k q hk hne; match k, hk with | 0, hk => (simp at hk; subst hk; simp at hne ⊢; try omega) | 1, hk => (simp at hk; subst hk; simp at hne ⊢; try omega) | 2, hk => (simp at hk; subst hk; simp at hne ⊢; try omega) | k + 3, hk => simp at hk) 1 (.slice A9 (m.length + 1) c9)
          simp only [List.set_cons_zero, List.set_cons_succ, List.setIfInBounds_toArray] at HX
          replace HOWN2 := HOWN2.far (p := ⟨g3, 1, none⟩) (by show g3 < B; omega) (.slice A9 (m.length + 1) c9)
          have hB8 : B ≤ (w7.setCell ⟨g3, 1, none⟩ (.slice A9 (m.length + 1) c9)).heap.size := by simpa [World.setCell] using hB7
          generalize w7.setCell ⟨g3, 1, none⟩ (.slice A9 (m.length + 1) c9) = w8 at *
          go_wp2
          go_roundg (la.length - (j + 1))
          case measure => omega
          case rel => exact ⟨j + 1, A9, c9, _, by omega, by go_num, hnx, HOWN2, by rw [List.length_append]; exact HX, hB8⟩
      · have d1 : min v 400 = 400 := by omega
        rw [d1] at hnx
        go_upto_region 5 with fail
        clear hc00 hc01 hc02 hc03
        have held : ∀ {W' : World} {L : List (Nat × Array Value × TypeId)}, BL w W' ((w.heap.size, #[.int .i64 ia, .slice (some ad) la.length ca, .int .i64 fa, .int .i64 ta], 26) :: L) → W'.cell? ⟨w.heap.size, 1, none⟩ = some (.slice (some ad) la.length ca) ∧ W'.cell? (ad.add (j * 2)) = some (.int .i64 k) ∧ W'.cell? ⟨(ad.add (j * 2)).block, (ad.add (j * 2)).off + 1, none⟩ = some (.int .i64 v) := fun h => ⟨h.cell 0 1 rfl rfl, by
          obtain ⟨ad1, e1, _, r1, r2⟩ := (HA.ext h.below).at_ hx.out
          obtain rfl := Option.some.inj e1
          exact ⟨r1, r2⟩⟩
        have hc21 := HX.cell 2 1 rfl rfl
        have hl3 := HX.lt 2 rfl
        try simp only [List.getElem_toArray, List.getElem_cons_zero, List.getElem_cons_succ] at hc21 hl3
        replace HX := HX.ext (drew_ext _)
        replace HOWN := HOWN.ext (drew_ext _)
        replace hBr : B ≤ wr.drew.heap.size := hBr
        refine wp_region_held_drew (S := fun W' => W'.cell? ⟨w.heap.size, 1, none⟩ = some (.slice (some ad) la.length ca) ∧ W'.cell? (ad.add (j * 2)) = some (.int .i64 k) ∧ W'.cell? ⟨(ad.add (j * 2)).block, (ad.add (j * 2)).off + 1, none⟩ = some (.int .i64 v)) (by kernel_rfl) (held HX) (fun hHeld => ?_)
        refine wpAnyH_take (i := 0) (v := ?_) (by simp only [List.getElem?_toArray, List.getElem?_cons_zero]; rfl) (by kernel_rfl) (by kernel_rfl) (by kernel_rfl) (by exact fun _ _ _ h => h) (Or.inl ⟨by kernel_rfl, ?_⟩) (by assumption) ?_
        rotate_left
        · intro w hSw; (try dsimp only at hSw); go_simp <;> (try with_reducible rfl)
        try simp only [Act.put, List.setIfInBounds_toArray, List.set_cons_zero, List.set_cons_succ]
        refine wpAnyH_take (i := 2) (v := ?_) (by simp only [List.getElem?_toArray, List.getElem?_cons_succ, List.getElem?_cons_zero]; rfl) (by kernel_rfl) (by kernel_rfl) (by kernel_rfl) (by exact fun _ _ _ h => h) (Or.inl ⟨by kernel_rfl, ?_⟩) (by assumption) ?_
        rotate_left
        · intro w hSw; (try dsimp only at hSw); go_simp <;> (try with_reducible rfl)
        try simp only [Act.put, List.setIfInBounds_toArray, List.set_cons_zero, List.set_cons_succ]
        refine wpAnyH_take (i := 3) (v := ?_) (by simp only [List.getElem?_toArray, List.getElem?_cons_succ, List.getElem?_cons_zero]; rfl) (by kernel_rfl) (by kernel_rfl) (by kernel_rfl) (by exact fun _ _ _ h => h) (Or.inl ⟨by kernel_rfl, ?_⟩) (by assumption) ?_
        rotate_left
        · intro w hSw; (try dsimp only at hSw); go_simp <;> (try with_reducible rfl)
        try simp only [Act.put, List.setIfInBounds_toArray, List.set_cons_zero, List.set_cons_succ]
        refine wpAnyH_take (i := 4) (v := ?_) (by simp only [List.getElem?_toArray, List.getElem?_cons_succ, List.getElem?_cons_zero]; rfl) (by kernel_rfl) (by kernel_rfl) (by kernel_rfl) (by exact fun _ _ _ h => h) (Or.inl ⟨by kernel_rfl, ?_⟩) (by assumption) ?_
        rotate_left
        · intro w hSw; (try dsimp only at hSw); go_simp <;> (try with_reducible rfl)
        try simp only [Act.put, List.setIfInBounds_toArray, List.set_cons_zero, List.set_cons_succ]
        refine wpAnyH_take (i := 5) (v := ?_) (by simp only [List.getElem?_toArray, List.getElem?_cons_succ, List.getElem?_cons_zero]; rfl) (by kernel_rfl) (by kernel_rfl) (by kernel_rfl) (by exact fun _ _ _ h => h) (Or.inl ⟨by kernel_rfl, ?_⟩) (by assumption) ?_
        rotate_left
        · intro w hSw; (try dsimp only at hSw); go_simp <;> (try with_reducible rfl)
        try simp only [Act.put, List.setIfInBounds_toArray, List.set_cons_zero, List.set_cons_succ]
        refine wpAnyH_take (i := 6) (v := ?_) (by simp only [List.getElem?_toArray, List.getElem?_cons_succ, List.getElem?_cons_zero]; rfl) (by kernel_rfl) (by kernel_rfl) (by kernel_rfl) (by exact fun _ _ _ h => h) (Or.inl ⟨by kernel_rfl, ?_⟩) (by assumption) ?_
        rotate_left
        · intro w hSw; (try dsimp only at hSw); go_simp <;> (try with_reducible rfl)
        try simp only [Act.put, List.setIfInBounds_toArray, List.set_cons_zero, List.set_cons_succ]
        refine wpAnyH_take (i := 7) (v := ?_) (by simp only [List.getElem?_toArray, List.getElem?_cons_succ, List.getElem?_cons_zero]; rfl) (by kernel_rfl) (by kernel_rfl) (by kernel_rfl) (by exact fun _ _ _ h => h) (Or.inl ⟨by kernel_rfl, ?_⟩) (by assumption) ?_
        rotate_left
        · intro w hSw; (try dsimp only at hSw); go_simp <;> (try with_reducible rfl)
        try simp only [Act.put, List.setIfInBounds_toArray, List.set_cons_zero, List.set_cons_succ]
        refine wpAnyH_take (i := 8) (v := ?_) (by simp only [List.getElem?_toArray, List.getElem?_cons_succ, List.getElem?_cons_zero]; rfl) (by kernel_rfl) (by kernel_rfl) (by kernel_rfl) (by exact fun _ _ _ h => h) (Or.inl ⟨by kernel_rfl, ?_⟩) (by assumption) ?_
        rotate_left
        · intro w hSw; (try dsimp only at hSw); go_simp <;> (try with_reducible rfl)
        try simp only [Act.put, List.setIfInBounds_toArray, List.set_cons_zero, List.set_cons_succ]
        refine wpAnyH_take (i := 9) (v := ?_) (by simp only [List.getElem?_toArray, List.getElem?_cons_succ, List.getElem?_cons_zero]; rfl) (by kernel_rfl) (by kernel_rfl) (by kernel_rfl) (by exact fun _ _ _ h => h) (Or.inl ⟨by kernel_rfl, ?_⟩) (by assumption) ?_
        rotate_left
        · intro w hSw; (try dsimp only at hSw); go_simp <;> (try with_reducible rfl)
        try simp only [Act.put, List.setIfInBounds_toArray, List.set_cons_zero, List.set_cons_succ]
        refine wpAnyH_take (i := 10) (v := ?_) (by simp only [List.getElem?_toArray, List.getElem?_cons_succ, List.getElem?_cons_zero]; rfl) (by kernel_rfl) (by kernel_rfl) (by kernel_rfl) (by exact fun _ _ _ h => h) (Or.inl ⟨by kernel_rfl, ?_⟩) (by assumption) ?_
        rotate_left
        · intro w hSw; (try dsimp only at hSw); go_simp <;> (try with_reducible rfl)
        try simp only [Act.put, List.setIfInBounds_toArray, List.set_cons_zero, List.set_cons_succ]
        refine wpAnyH_take (i := 11) (v := ?_) (by simp only [List.getElem?_toArray, List.getElem?_cons_succ, List.getElem?_cons_zero]; rfl) (by kernel_rfl) (by kernel_rfl) (by kernel_rfl) (by exact fun _ _ _ h => h) (Or.inl ⟨by kernel_rfl, ?_⟩) (by assumption) ?_
        rotate_left
        · intro w hSw; (try dsimp only at hSw); go_simp <;> (try with_reducible rfl)
        try simp only [Act.put, List.setIfInBounds_toArray, List.set_cons_zero, List.set_cons_succ]
        refine wpAnyH_take (i := 12) (v := ?_) (by simp only [List.getElem?_toArray, List.getElem?_cons_succ, List.getElem?_cons_zero]; rfl) (by kernel_rfl) (by kernel_rfl) (by kernel_rfl) (by exact fun _ _ _ h => h) (Or.inl ⟨by kernel_rfl, ?_⟩) (by assumption) ?_
        rotate_left
        · intro w hSw; (try dsimp only at hSw); go_simp <;> (try with_reducible rfl)
        try simp only [Act.put, List.setIfInBounds_toArray, List.set_cons_zero, List.set_cons_succ]
        refine wpAnyH_take (i := 13) (v := ?_) (by simp only [List.getElem?_toArray, List.getElem?_cons_succ, List.getElem?_cons_zero]; rfl) (by kernel_rfl) (by kernel_rfl) (by kernel_rfl) (by exact fun _ _ _ h => h) (Or.inl ⟨by kernel_rfl, ?_⟩) (by assumption) ?_
        rotate_left
        · intro w hSw; (try dsimp only at hSw); go_simp <;> (try with_reducible rfl)
        try simp only [Act.put, List.setIfInBounds_toArray, List.set_cons_zero, List.set_cons_succ]
        refine wpAnyH_take (i := 14) (v := ?_) (by simp only [List.getElem?_toArray, List.getElem?_cons_succ, List.getElem?_cons_zero]; rfl) (by kernel_rfl) (by kernel_rfl) (by kernel_rfl) (by exact fun _ _ _ h => h) (Or.inl ⟨by kernel_rfl, ?_⟩) (by assumption) ?_
        rotate_left
        · intro w hSw; (try dsimp only at hSw); go_simp <;> (try with_reducible rfl)
        try simp only [Act.put, List.setIfInBounds_toArray, List.set_cons_zero, List.set_cons_succ]
        refine wpAnyH_take (i := 15) (v := ?_) (by simp only [List.getElem?_toArray, List.getElem?_cons_succ, List.getElem?_cons_zero]; rfl) (by kernel_rfl) (by kernel_rfl) (by kernel_rfl) (by exact fun _ _ _ h => h) (Or.inl ⟨by kernel_rfl, ?_⟩) (by assumption) ?_
        rotate_left
        · intro w hSw; (try dsimp only at hSw); go_simp <;> (try with_reducible rfl)
        try simp only [Act.put, List.setIfInBounds_toArray, List.set_cons_zero, List.set_cons_succ]
        refine wpAnyH_ready (rs := [1, 16]) (by kernel_rfl) (by simp) ?_
        refine AllReadyH.cons (by simp only [List.getElem?_toArray, List.getElem?_cons_succ, List.getElem?_cons_zero]; rfl) (fun K hK => ?_) (AllReadyH.cons (by simp only [List.getElem?_toArray, List.getElem?_cons_succ, List.getElem?_cons_zero]; rfl) (fun K hK => ?_) AllReadyH.nil)
        · go_simp
          clear hHeld
          refine hK.out _ _ (held HX) (fun hHeld => ?_)
          clear hK K
          try simp only [Act.put, List.setIfInBounds_toArray, List.set_cons_zero, List.set_cons_succ]
          refine wpAnyH_ready (rs := [16]) (by kernel_rfl) (by simp) ?_
          refine AllReadyH.cons (by simp only [List.getElem?_toArray, List.getElem?_cons_succ, List.getElem?_cons_zero]; rfl) (fun K hK => ?_) AllReadyH.nil
          go_simp
          clear hHeld
          refine hK.out _ _ (held (HX.ext (below_alloc _ _))) (fun hHeld => ?_)
          clear hK K
          try simp only [Act.put, List.setIfInBounds_toArray, List.set_cons_zero, List.set_cons_succ]
          refine wpAnyH_ready (rs := [17]) (by kernel_rfl) (by simp) ?_
          refine AllReadyH.cons (by simp only [List.getElem?_toArray, List.getElem?_cons_succ, List.getElem?_cons_zero]; rfl) (fun K hK => ?_) AllReadyH.nil
          refine step_epush wr.drew rfl _ _ rfl rfl rfl HOWN (by omega) hBr ?_
          intro A9 c9 w7 HOWN2 hb7 hlt7
          replace HX := HX.low hBw (by intro i q hq; match i, hq with | 0, hq => (simp at hq; subst hq; simp; try omega) | 1, hq => (simp at hq; subst hq; simp; try omega) | 2, hq => (simp at hq; subst hq; simp; try omega) | i + 3, hq => simp at hq) hb7
          clear hc21 hl3 hHeld
          have hc21 := HX.cell 2 1 rfl rfl
          have hf21 := HX.free 2 1 rfl
          try simp only [List.getElem_toArray, List.getElem_cons_zero, List.getElem_cons_succ] at hc21 hf21
          refine hK.out _ _ (held HX) (fun hHeld => ?_)
          clear hK K
          try simp only [Act.put, List.setIfInBounds_toArray, List.set_cons_zero, List.set_cons_succ]
          refine wpAnyH_ready (rs := [18]) (by kernel_rfl) (by simp) ?_
          refine AllReadyH.cons (by simp only [List.getElem?_toArray, List.getElem?_cons_succ, List.getElem?_cons_zero]; rfl) (fun K hK => ?_) AllReadyH.nil
          go_simp
          clear hHeld
          refine hK.out _ _ (held HX) (fun hHeld => ?_)
          clear hK K
          try simp only [Act.put, List.setIfInBounds_toArray, List.set_cons_zero, List.set_cons_succ]
          refine wpAnyH_ready (rs := [19]) (by kernel_rfl) (by simp) ?_
          refine AllReadyH.cons (by simp only [List.getElem?_toArray, List.getElem?_cons_succ, List.getElem?_cons_zero]; rfl) (fun K hK => ?_) AllReadyH.nil
          go_simp
          clear hHeld
          refine hK.out _ _ (held (HX.set1 2 rfl (by omega) (by intro k q hk hne; match k, hk with | 0, hk => (simp at hk; subst hk; simp at hne ⊢; try omega) | 1, hk => (simp at hk; subst hk; simp at hne ⊢; try omega) | 2, hk => (simp at hk; subst hk; simp at hne ⊢; try omega) | k + 3, hk => simp at hk) 1 _)) (fun hHeld => ?_)
          clear hK K
          try simp only [Act.put, List.setIfInBounds_toArray, List.set_cons_zero, List.set_cons_succ]
          refine wpAnyH_done (by kernel_rfl) ?_ _
          clear hc21 hf21 held hHeld
          have hB7 : B ≤ w7.heap.size := by omega
          replace HX := HX.set1 2 rfl (by omega) (by intro k q hk hne; match k, hk with | 0, hk => (simp at hk; subst hk; simp at hne ⊢; try omega) | 1, hk => (simp at hk; subst hk; simp at hne ⊢; try omega) | 2, hk => (simp at hk; subst hk; simp at hne ⊢; try omega) | k + 3, hk => simp at hk) 1 (.slice A9 (m.length + 1) c9)
          simp only [List.set_cons_zero, List.set_cons_succ, List.setIfInBounds_toArray] at HX
          replace HOWN2 := HOWN2.far (p := ⟨g3, 1, none⟩) (by show g3 < B; omega) (.slice A9 (m.length + 1) c9)
          have hB8 : B ≤ (w7.setCell ⟨g3, 1, none⟩ (.slice A9 (m.length + 1) c9)).heap.size := by simpa [World.setCell] using hB7
          generalize w7.setCell ⟨g3, 1, none⟩ (.slice A9 (m.length + 1) c9) = w8 at *
          go_wp2
          go_roundg (la.length - (j + 1))
          case measure => omega
          case rel => exact ⟨j + 1, A9, c9, _, by omega, by go_num, hnx, HOWN2, by rw [List.length_append]; exact HX, hB8⟩
        · go_simp
          clear hHeld
          refine hK.out _ _ (held (HX.ext (below_alloc _ _))) (fun hHeld => ?_)
          clear hK K
          try simp only [Act.put, List.setIfInBounds_toArray, List.set_cons_zero, List.set_cons_succ]
          refine wpAnyH_ready (rs := [1]) (by kernel_rfl) (by simp) ?_
          refine AllReadyH.cons (by simp only [List.getElem?_toArray, List.getElem?_cons_succ, List.getElem?_cons_zero]; rfl) (fun K hK => ?_) AllReadyH.nil
          go_simp
          clear hHeld
          refine hK.out _ _ (held (HX.ext (below_alloc _ _))) (fun hHeld => ?_)
          clear hK K
          try simp only [Act.put, List.setIfInBounds_toArray, List.set_cons_zero, List.set_cons_succ]
          refine wpAnyH_ready (rs := [17]) (by kernel_rfl) (by simp) ?_
          refine AllReadyH.cons (by simp only [List.getElem?_toArray, List.getElem?_cons_succ, List.getElem?_cons_zero]; rfl) (fun K hK => ?_) AllReadyH.nil
          refine step_epush wr.drew rfl _ _ rfl rfl rfl HOWN (by omega) hBr ?_
          intro A9 c9 w7 HOWN2 hb7 hlt7
          replace HX := HX.low hBw (by intro i q hq; match i, hq with | 0, hq => (simp at hq; subst hq; simp; try omega) | 1, hq => (simp at hq; subst hq; simp; try omega) | 2, hq => (simp at hq; subst hq; simp; try omega) | i + 3, hq => simp at hq) hb7
          clear hc21 hl3 hHeld
          have hc21 := HX.cell 2 1 rfl rfl
          have hf21 := HX.free 2 1 rfl
          try simp only [List.getElem_toArray, List.getElem_cons_zero, List.getElem_cons_succ] at hc21 hf21
          refine hK.out _ _ (held HX) (fun hHeld => ?_)
          clear hK K
          try simp only [Act.put, List.setIfInBounds_toArray, List.set_cons_zero, List.set_cons_succ]
          refine wpAnyH_ready (rs := [18]) (by kernel_rfl) (by simp) ?_
          refine AllReadyH.cons (by simp only [List.getElem?_toArray, List.getElem?_cons_succ, List.getElem?_cons_zero]; rfl) (fun K hK => ?_) AllReadyH.nil
          go_simp
          clear hHeld
          refine hK.out _ _ (held HX) (fun hHeld => ?_)
          clear hK K
          try simp only [Act.put, List.setIfInBounds_toArray, List.set_cons_zero, List.set_cons_succ]
          refine wpAnyH_ready (rs := [19]) (by kernel_rfl) (by simp) ?_
          refine AllReadyH.cons (by simp only [List.getElem?_toArray, List.getElem?_cons_succ, List.getElem?_cons_zero]; rfl) (fun K hK => ?_) AllReadyH.nil
          go_simp
          clear hHeld
          refine hK.out _ _ (held (HX.set1 2 rfl (by omega) (by intro k q hk hne; match k, hk with | 0, hk => (simp at hk; subst hk; simp at hne ⊢; try omega) | 1, hk => (simp at hk; subst hk; simp at hne ⊢; try omega) | 2, hk => (simp at hk; subst hk; simp at hne ⊢; try omega) | k + 3, hk => simp at hk) 1 _)) (fun hHeld => ?_)
          clear hK K
          try simp only [Act.put, List.setIfInBounds_toArray, List.set_cons_zero, List.set_cons_succ]
          refine wpAnyH_done (by kernel_rfl) ?_ _
          clear hc21 hf21 held hHeld
          have hB7 : B ≤ w7.heap.size := by omega
          replace HX := HX.set1 2 rfl (by omega) (by intro k q hk hne; match k, hk with | 0, hk => (simp at hk; subst hk; simp at hne ⊢; try omega) | 1, hk => (simp at hk; subst hk; simp at hne ⊢; try omega) | 2, hk => (simp at hk; subst hk; simp at hne ⊢; try omega) | k + 3, hk => simp at hk) 1 (.slice A9 (m.length + 1) c9)
          simp only [List.set_cons_zero, List.set_cons_succ, List.setIfInBounds_toArray] at HX
          replace HOWN2 := HOWN2.far (p := ⟨g3, 1, none⟩) (by show g3 < B; omega) (.slice A9 (m.length + 1) c9)
          have hB8 : B ≤ (w7.setCell ⟨g3, 1, none⟩ (.slice A9 (m.length + 1) c9)).heap.size := by simpa [World.setCell] using hB7
          generalize w7.setCell ⟨g3, 1, none⟩ (.slice A9 (m.length + 1) c9) = w8 at *
          go_wp2
          go_roundg (la.length - (j + 1))
          case measure => omega
          case rel => exact ⟨j + 1, A9, c9, _, by omega, by go_num, hnx, HOWN2, by rw [List.length_append]; exact HX, hB8⟩
    · obtain rfl : capL la = m := by rw [← hm.out, List.take_of_length_le (by rw [capL_len]; omega)]
      obtain ⟨m, hmm⟩ : ∃ m, capL la = m := ⟨_, rfl⟩
      rw [hmm] at HOWN HX hml
      have HMM := Lib.hid hmm
      clear hmm hm
      have hc00 := HX.cell 0 0 rfl rfl
      have hc01 := HX.cell 0 1 rfl rfl
      have hc02 := HX.cell 0 2 rfl rfl
      have hc03 := HX.cell 0 3 rfl rfl
      try simp only [List.getElem_toArray, List.getElem_cons_zero, List.getElem_cons_succ] at hc00 hc01 hc02 hc03
      have hc20 := HX.cell 2 0 rfl rfl
      have hc21 := HX.cell 2 1 rfl rfl
      have hc22 := HX.cell 2 2 rfl rfl
      have hc23 := HX.cell 2 3 rfl rfl
      try simp only [List.getElem_toArray, List.getElem_cons_zero, List.getElem_cons_succ] at hc20 hc21 hc22 hc23
      have hc10 := HX.cell 1 0 rfl rfl
      have hf10 := HX.free 1 0 rfl
      have hc11 := HX.cell 1 1 rfl rfl
      have hf11 := HX.free 1 1 rfl
      have hc12 := HX.cell 1 2 rfl rfl
      have hf12 := HX.free 1 2 rfl
      have hc13 := HX.cell 1 3 rfl rfl
      have hf13 := HX.free 1 3 rfl
      try simp only [List.getElem_toArray, List.getElem_cons_zero, List.getElem_cons_succ] at hc10 hf10 hc11 hf11 hc12 hf12 hc13 hf13
      go_wp2
      clear hc00 hc01 hc02 hc03
      clear hc20 hc21 hc22 hc23
      clear hc10 hf10 hc11 hf11 hc12 hf12 hc13 hf13
      replace HOWN := HOWN.far (p := ⟨w.heap.size + 1, 0, none⟩) (by show w.heap.size + 1 < B; omega) (.int .i64 ia)
      replace HOWN := HOWN.far (p := ⟨w.heap.size + 1, 1, none⟩) (by show w.heap.size + 1 < B; omega) (.slice A8 m.length c8)
      replace HOWN := HOWN.far (p := ⟨w.heap.size + 1, 2, none⟩) (by show w.heap.size + 1 < B; omega) (.int .i64 fa)
      replace HOWN := HOWN.far (p := ⟨w.heap.size + 1, 3, none⟩) (by show w.heap.size + 1 < B; omega) (.int .i64 ta)
      replace HX := HX.put4 1 rfl (by omega) (by intro k q hk hne; match k, hk with | 0, hk => (simp at hk; subst hk; simp at hne ⊢; try omega) | 1, hk => (simp at hk; subst hk; simp at hne ⊢; try omega) | 2, hk => (simp at hk; subst hk; simp at hne ⊢; try omega) | k + 3, hk => simp at hk) (.int .i64 ia) (.slice A8 m.length c8) (.int .i64 fa) (.int .i64 ta)
      simp only [List.set_cons_zero, List.set_cons_succ] at HX
      have hc10 := HX.cell 1 0 rfl rfl
      have hc11 := HX.cell 1 1 rfl rfl
      have hc12 := HX.cell 1 2 rfl rfl
      have hc13 := HX.cell 1 3 rfl rfl
      try simp only [List.getElem_toArray, List.getElem_cons_zero, List.getElem_cons_succ] at hc10 hc11 hc12 hc13
      exact bodyPost_ret (v := .agg #[.int .i64 ia, .slice A8 m.length c8, .int .i64 fa, .int .i64 ta]) (by simp [results, Tryz.results15, go_sem, hc10, hc11, hc12, hc13]) rfl ⟨A8, c8, by rw [HMM.out], by rw [HMM.out]; exact HOWN.es, HX.below⟩
theorem ftext_e {w : World} {A B : Option Addr} {c d k : Nat} {q : Rat} {L : List UInt8} (hL : Hid (fracText q = L)) (h : Fc w A c B d q k) (hk : k ≤ 1000000) (hT : Tab w) :
    Calls Tryz.prog 20 #[.agg #[.bool (sg q), .slice A (dig (nu q)).length c, .slice B (dig q.den).length d]] w fun e w' => e = .returned (.string (str L)) ∧ Below w.heap.size w w' := by
  rw [← hL.out]
  exact ftext_any w h.fr (by omega) hT
set_option maxHeartbeats 4000000 in
set_option maxRecDepth 100000 in
theorem hoardsAwake_any (w : World) (HE : Env w) :
    Calls Tryz.prog 13 #[] w (RetB w true) := by
  obtain ⟨la, hla⟩ : ∃ l, l = [((1 : Int), (1 : Int)), (2, 1)] := ⟨_, rfl⟩
  obtain ⟨lb, hlb⟩ : ∃ l, l = [((2 : Int), (3 : Int))] := ⟨_, rfl⟩
  have VA : Hid (HV 1 la 1 1) := Lib.hid (hla ▸ hA0)
  have VB : Hid (HV 2 lb 1 1) := Lib.hid (hlb ▸ hB0)
  have PA : Hid (PH [72, 49, 58, 32, 49, 120, 49, 32, 50, 120, 49, 59, 32, 49, 32, 65, 68] 1 la 1 1 0) := Lib.hid (hla ▸ pA0)
  have PB : Hid (PH [72, 50, 58, 32, 50, 120, 51, 59, 32, 49, 32, 65, 68] 2 lb 1 1 0) := Lib.hid (hlb ▸ pB0)
  have hl1 : la.length ≤ 32 := VA.out.2.1.2
  have hl2 : lb.length ≤ 32 := VB.out.2.1.2
  obtain ⟨u, hu⟩ : ∃ u, Hid (coD la lb 99 = u) := ⟨_, Lib.hid rfl⟩
  obtain ⟨T, HT⟩ : ∃ T, Hid (fracText u = T) := ⟨_, Lib.hid rfl⟩
  have ht : ((str T).toList == [49, 48, 48]) = true := by
    rw [str_toList, ← HT.out, ← hu.out, hla, hlb, cAB, t100]; rfl
  clear hla hlb
  go_enter Tryz.func13, Tryz.ntmps13
  go_wp2_with fail
  have HX := BL.nil w
  refine (hparse_any (S := [72, 49, 58, 32, 49, 120, 49, 32, 50, 120, 49, 59, 32, 49, 32, 65, 68]) _ HE (by decide) PA).mono ?_
  rintro e w1 ⟨A1, c1, rfl, E1, hb⟩
  replace HX := HX.ext hb
  replace HE := HE.ext hb
  clear hb
  go_upto_region 2 with fail
  have hb := below_alloc w1 (.cells #[.int .i64 1, .slice A1 la.length c1, .int .i64 1, .int .i64 1] 26)
  replace HX := HX.new #[.int .i64 1, .slice A1 la.length c1, .int .i64 1, .int .i64 1] 26
  simp only [List.nil_append] at HX
  replace HE := HE.ext hb
  replace E1 := E1.ext hb
  clear hb
  generalize w1.alloc (.cells #[.int .i64 1, .slice A1 la.length c1, .int .i64 1, .int .i64 1] 26) = V1 at *
  generalize w1.heap.size = g1 at *
  go_wp2_with fail
  refine (hparse_any (S := [72, 50, 58, 32, 50, 120, 51, 59, 32, 49, 32, 65, 68]) _ HE (by decide) PB).mono ?_
  rintro e w2 ⟨A2, c2, rfl, E2, hb⟩
  replace HX := HX.ext hb
  replace HE := HE.ext hb
  replace E1 := E1.ext hb
  clear hb
  go_upto_region 3 with fail
  have hb := below_alloc w2 (.cells #[.int .i64 2, .slice A2 lb.length c2, .int .i64 1, .int .i64 1] 26)
  replace HX := HX.new #[.int .i64 2, .slice A2 lb.length c2, .int .i64 1, .int .i64 1] 26
  simp only [List.cons_append, List.nil_append] at HX
  replace HE := HE.ext hb
  replace E1 := E1.ext hb
  replace E2 := E2.ext hb
  clear hb
  generalize w2.alloc (.cells #[.int .i64 2, .slice A2 lb.length c2, .int .i64 1, .int .i64 1] 26) = V2 at *
  generalize w2.heap.size = g2 at *
  have hc00 := HX.cell 0 0 rfl rfl
  have hc01 := HX.cell 0 1 rfl rfl
  have hc02 := HX.cell 0 2 rfl rfl
  have hc03 := HX.cell 0 3 rfl rfl
  try simp only [List.getElem_toArray, List.getElem_cons_zero, List.getElem_cons_succ] at hc00 hc01 hc02 hc03
  have hc10 := HX.cell 1 0 rfl rfl
  have hc11 := HX.cell 1 1 rfl rfl
  have hc12 := HX.cell 1 2 rfl rfl
  have hc13 := HX.cell 1 3 rfl rfl
  try simp only [List.getElem_toArray, List.getElem_cons_zero, List.getElem_cons_succ] at hc10 hc11 hc12 hc13
  go_wp2_with fail
  refine (coeff_any A1 A2 c1 c2 la lb _ E1 E2 (by omega) (by omega) VA.out VB.out hu).mono ?_
  rintro e w3 ⟨A5, c5, B5, d5, rfl, F5, hb⟩
  clear E1 E2
  clear hc00 hc01 hc02 hc03
  clear hc10 hc11 hc12 hc13
  replace HX := HX.ext hb
  replace HE := HE.ext hb
  clear hb
  go_upto_region 4 with fail
  have hb := below_alloc w3 (.cells #[.bool (sg u), .slice A5 (dig (nu u)).length c5, .slice B5 (dig u.den).length d5] 37)
  replace HX := HX.new #[.bool (sg u), .slice A5 (dig (nu u)).length c5, .slice B5 (dig u.den).length d5] 37
  simp only [List.cons_append, List.nil_append] at HX
  replace HE := HE.ext hb
  replace F5 := F5.ext hb
  clear hb
  generalize w3.alloc (.cells #[.bool (sg u), .slice A5 (dig (nu u)).length c5, .slice B5 (dig u.den).length d5] 37) = V3 at *
  generalize w3.heap.size = g3 at *
  have hc20 := HX.cell 2 0 rfl rfl
  have hc21 := HX.cell 2 1 rfl rfl
  have hc22 := HX.cell 2 2 rfl rfl
  try simp only [List.getElem_toArray, List.getElem_cons_zero, List.getElem_cons_succ] at hc20 hc21 hc22
  go_wp2_with fail
  refine (ftext_e HT F5 (by omega) HE.tab).mono ?_
  rintro e w4 ⟨rfl, hb⟩
  clear hc20 hc21 hc22
  replace HX := HX.ext hb
  clear hb
  go_wp2
  go_ret
  exact ⟨by first | rfl | simp, HX.below⟩
end Go.Proofs.YteleohgalknkiaaGreatDoor

namespace Go.Proofs.YteleohgalknkiaaGreatDoor
open Go.RowKit Go.Proofs Go

set_option maxHeartbeats 2000000 in
set_option maxRecDepth 100000 in
theorem whole_a {ia fa ta ib fb tb ic fc tc : Int} {Aa Ab Ac : Option Addr} {ca cb cc : Nat} {la lb lc : List (Int × Int)} (w : World) (HE : Env w) (EA : Es w Aa la) (hla : la.length ≤ 9223372036854775807) (_EB : Es w Ab lb) (_hlb : lb.length ≤ 9223372036854775807) (_EC : Es w Ac lc) (_hlc : lc.length ≤ 9223372036854775807) (va : ¬ HV ia la fa ta) :
    Calls Tryz.prog 3 #[.agg #[.int .i64 ia, .slice Aa la.length ca, .int .i64 fa, .int .i64 ta], .agg #[.int .i64 ib, .slice Ab lb.length cb, .int .i64 fb, .int .i64 tb], .agg #[.int .i64 ic, .slice Ac lc.length cc, .int .i64 fc, .int .i64 tc]] w (RetB w true) := by
  have NA := no va
  go_enter Tryz.func3, Tryz.ntmps3
  go_wp2_with fail
  have HX := BL.three w #[.int .i64 ia, .slice Aa la.length ca, .int .i64 fa, .int .i64 ta] #[.int .i64 ib, .slice Ab lb.length cb, .int .i64 fb, .int .i64 tb] #[.int .i64 ic, .slice Ac lc.length cc, .int .i64 fc, .int .i64 tc] 26 26 26
  replace HE := HE.ext HX.below
  replace EA := EA.ext HX.below
  refine (hoardsAwake_any _ HE).mono ?_
  rintro e w1 ⟨rfl, hb⟩
  replace HX := HX.ext hb
  replace HE := HE.ext hb
  replace EA := EA.ext hb
  clear hb
  have hc00 := HX.cell 0 0 rfl rfl
  have hc01 := HX.cell 0 1 rfl rfl
  have hc02 := HX.cell 0 2 rfl rfl
  have hc03 := HX.cell 0 3 rfl rfl
  try simp only [List.getElem_toArray, List.getElem_cons_zero, List.getElem_cons_succ] at hc00 hc01 hc02 hc03
  go_wp2_with fail
  refine (bhoard_any (b := false) Aa ca la _ EA hla NA).mono ?_
  rintro e w2 ⟨rfl, hb⟩
  clear hc00 hc01 hc02 hc03
  replace HX := HX.ext hb
  replace HE := HE.ext hb
  clear hb
  go_wp2_with fail
  refine (hoardsAwake_any _ HE).mono ?_
  rintro e w3 ⟨rfl, hb⟩
  replace HX := HX.ext hb
  clear hb
  go_wp2
  go_ret
  exact ⟨by first | rfl | simp, HX.below⟩
set_option maxHeartbeats 2000000 in
set_option maxRecDepth 100000 in
theorem whole_b {ia fa ta ib fb tb ic fc tc : Int} {Aa Ab Ac : Option Addr} {ca cb cc : Nat} {la lb lc : List (Int × Int)} (w : World) (HE : Env w) (EA : Es w Aa la) (hla : la.length ≤ 9223372036854775807) (EB : Es w Ab lb) (hlb : lb.length ≤ 9223372036854775807) (_EC : Es w Ac lc) (_hlc : lc.length ≤ 9223372036854775807) (va : HV ia la fa ta) (vb : ¬ HV ib lb fb tb) :
    Calls Tryz.prog 3 #[.agg #[.int .i64 ia, .slice Aa la.length ca, .int .i64 fa, .int .i64 ta], .agg #[.int .i64 ib, .slice Ab lb.length cb, .int .i64 fb, .int .i64 tb], .agg #[.int .i64 ic, .slice Ac lc.length cc, .int .i64 fc, .int .i64 tc]] w (RetB w true) := by
  have YA := yes va
  have NB := no vb
  go_enter Tryz.func3, Tryz.ntmps3
  go_wp2_with fail
  have HX := BL.three w #[.int .i64 ia, .slice Aa la.length ca, .int .i64 fa, .int .i64 ta] #[.int .i64 ib, .slice Ab lb.length cb, .int .i64 fb, .int .i64 tb] #[.int .i64 ic, .slice Ac lc.length cc, .int .i64 fc, .int .i64 tc] 26 26 26
  replace HE := HE.ext HX.below
  replace EA := EA.ext HX.below
  replace EB := EB.ext HX.below
  refine (hoardsAwake_any _ HE).mono ?_
  rintro e w1 ⟨rfl, hb⟩
  replace HX := HX.ext hb
  replace HE := HE.ext hb
  replace EA := EA.ext hb
  replace EB := EB.ext hb
  clear hb
  have hc00 := HX.cell 0 0 rfl rfl
  have hc01 := HX.cell 0 1 rfl rfl
  have hc02 := HX.cell 0 2 rfl rfl
  have hc03 := HX.cell 0 3 rfl rfl
  try simp only [List.getElem_toArray, List.getElem_cons_zero, List.getElem_cons_succ] at hc00 hc01 hc02 hc03
  go_wp2_with fail
  refine (bhoard_any (b := true) Aa ca la _ EA hla YA).mono ?_
  rintro e w2 ⟨rfl, hb⟩
  clear hc00 hc01 hc02 hc03
  replace HX := HX.ext hb
  replace HE := HE.ext hb
  replace EB := EB.ext hb
  clear hb
  have hc10 := HX.cell 1 0 rfl rfl
  have hc11 := HX.cell 1 1 rfl rfl
  have hc12 := HX.cell 1 2 rfl rfl
  have hc13 := HX.cell 1 3 rfl rfl
  try simp only [List.getElem_toArray, List.getElem_cons_zero, List.getElem_cons_succ] at hc10 hc11 hc12 hc13
  go_wp2_with fail
  refine (bhoard_any (b := false) Ab cb lb _ EB hlb NB).mono ?_
  rintro e w3 ⟨rfl, hb⟩
  clear hc10 hc11 hc12 hc13
  replace HX := HX.ext hb
  replace HE := HE.ext hb
  clear hb
  go_wp2_with fail
  refine (hoardsAwake_any _ HE).mono ?_
  rintro e w4 ⟨rfl, hb⟩
  replace HX := HX.ext hb
  clear hb
  go_wp2
  go_ret
  exact ⟨by first | rfl | simp, HX.below⟩
set_option maxHeartbeats 2000000 in
set_option maxRecDepth 100000 in
theorem whole_c {ia fa ta ib fb tb ic fc tc : Int} {Aa Ab Ac : Option Addr} {ca cb cc : Nat} {la lb lc : List (Int × Int)} (w : World) (HE : Env w) (EA : Es w Aa la) (hla : la.length ≤ 9223372036854775807) (EB : Es w Ab lb) (hlb : lb.length ≤ 9223372036854775807) (EC : Es w Ac lc) (hlc : lc.length ≤ 9223372036854775807) (va : HV ia la fa ta) (vb : HV ib lb fb tb) (vc : ¬ HV ic lc fc tc) :
    Calls Tryz.prog 3 #[.agg #[.int .i64 ia, .slice Aa la.length ca, .int .i64 fa, .int .i64 ta], .agg #[.int .i64 ib, .slice Ab lb.length cb, .int .i64 fb, .int .i64 tb], .agg #[.int .i64 ic, .slice Ac lc.length cc, .int .i64 fc, .int .i64 tc]] w (RetB w true) := by
  have YA := yes va
  have YB := yes vb
  have NC := no vc
  go_enter Tryz.func3, Tryz.ntmps3
  go_wp2_with fail
  have HX := BL.three w #[.int .i64 ia, .slice Aa la.length ca, .int .i64 fa, .int .i64 ta] #[.int .i64 ib, .slice Ab lb.length cb, .int .i64 fb, .int .i64 tb] #[.int .i64 ic, .slice Ac lc.length cc, .int .i64 fc, .int .i64 tc] 26 26 26
  replace HE := HE.ext HX.below
  replace EA := EA.ext HX.below
  replace EB := EB.ext HX.below
  replace EC := EC.ext HX.below
  refine (hoardsAwake_any _ HE).mono ?_
  rintro e w1 ⟨rfl, hb⟩
  replace HX := HX.ext hb
  replace HE := HE.ext hb
  replace EA := EA.ext hb
  replace EB := EB.ext hb
  replace EC := EC.ext hb
  clear hb
  have hc00 := HX.cell 0 0 rfl rfl
  have hc01 := HX.cell 0 1 rfl rfl
  have hc02 := HX.cell 0 2 rfl rfl
  have hc03 := HX.cell 0 3 rfl rfl
  try simp only [List.getElem_toArray, List.getElem_cons_zero, List.getElem_cons_succ] at hc00 hc01 hc02 hc03
  go_wp2_with fail
  refine (bhoard_any (b := true) Aa ca la _ EA hla YA).mono ?_
  rintro e w2 ⟨rfl, hb⟩
  clear hc00 hc01 hc02 hc03
  replace HX := HX.ext hb
  replace HE := HE.ext hb
  replace EB := EB.ext hb
  replace EC := EC.ext hb
  clear hb
  have hc10 := HX.cell 1 0 rfl rfl
  have hc11 := HX.cell 1 1 rfl rfl
  have hc12 := HX.cell 1 2 rfl rfl
  have hc13 := HX.cell 1 3 rfl rfl
  try simp only [List.getElem_toArray, List.getElem_cons_zero, List.getElem_cons_succ] at hc10 hc11 hc12 hc13
  go_wp2_with fail
  refine (bhoard_any (b := true) Ab cb lb _ EB hlb YB).mono ?_
  rintro e w3 ⟨rfl, hb⟩
  clear hc10 hc11 hc12 hc13
  replace HX := HX.ext hb
  replace HE := HE.ext hb
  replace EC := EC.ext hb
  clear hb
  have hc20 := HX.cell 2 0 rfl rfl
  have hc21 := HX.cell 2 1 rfl rfl
  have hc22 := HX.cell 2 2 rfl rfl
  have hc23 := HX.cell 2 3 rfl rfl
  try simp only [List.getElem_toArray, List.getElem_cons_zero, List.getElem_cons_succ] at hc20 hc21 hc22 hc23
  go_wp2_with fail
  refine (bhoard_any (b := false) Ac cc lc _ EC hlc NC).mono ?_
  rintro e w4 ⟨rfl, hb⟩
  clear hc20 hc21 hc22 hc23
  replace HX := HX.ext hb
  replace HE := HE.ext hb
  clear hb
  go_wp2_with fail
  refine (hoardsAwake_any _ HE).mono ?_
  rintro e w5 ⟨rfl, hb⟩
  replace HX := HX.ext hb
  clear hb
  go_wp2
  go_ret
  exact ⟨by first | rfl | simp, HX.below⟩
set_option maxHeartbeats 16000000 in
set_option maxRecDepth 100000 in
theorem whole_ok {ia fa ta ib fb tb ic fc tc : Int} {Aa Ab Ac : Option Addr} {ca cb cc : Nat} {la lb lc : List (Int × Int)} (w : World) (HE : Env w) (EA : Es w Aa la) (hla : la.length ≤ 9223372036854775807) (EB : Es w Ab lb) (hlb : lb.length ≤ 9223372036854775807) (EC : Es w Ac lc) (hlc : lc.length ≤ 9223372036854775807) (va : HV ia la fa ta) (vb : HV ib lb fb tb) (vc : HV ic lc fc tc) :
    Calls Tryz.prog 3 #[.agg #[.int .i64 ia, .slice Aa la.length ca, .int .i64 fa, .int .i64 ta], .agg #[.int .i64 ib, .slice Ab lb.length cb, .int .i64 fb, .int .i64 tb], .agg #[.int .i64 ic, .slice Ac lc.length cc, .int .i64 fc, .int .i64 tc]] w (RetB w true) := by
  have YA := yes va
  have YB := yes vb
  have YC := yes vc
  have VA := Lib.hid va
  have VB := Lib.hid vb
  have VC := Lib.hid vc
  have hla2 : la.length ≤ 32 := va.2.1.2
  obtain ⟨lx, hlx⟩ : ∃ l, Hid (capL la = l) := ⟨_, Lib.hid rfl⟩
  have VX : Hid (HV ia lx fa ta) := Lib.hid (hlx.out ▸ va.cap)
  have N4 : Hid (∀ t, numE lx t ≤ 400) := Lib.hid (hlx.out ▸ capL_num va.2.2.1)
  have hlx2 : lx.length ≤ 32 := VX.out.2.1.2
  obtain ⟨lt, hlt⟩ : ∃ l, Hid (mergeP lx lx 99 = l) := ⟨_, Lib.hid rfl⟩
  have MT : Hid (MergeIs ia lx fa ta ia lx fa ta ia lt fa ta 0) := Lib.hid (hlt.out ▸ merge2 VX.out N4.out)
  have VT : Hid (HV ia lt fa ta) := Lib.hid (hlt.out ▸ (hv2 VX.out N4.out).1)
  have hlt2 : lt.length ≤ 32 := VT.out.2.1.2
  have Z2 : sumD lx lt 99 = 0 := hlt.out ▸ zero2 VX.out N4.out
  have hpx := VX.out.pos
  have hpt := VT.out.pos
  obtain ⟨q0, HZ⟩ : ∃ q, Hid (disD lx lt = q) := ⟨_, Lib.hid rfl⟩
  have hz : Hid (sgn q0 = 0) := Lib.hid (sgn_eq_zero.2 (HZ.out.symm.trans (dis_zero Z2)))
  obtain ⟨q1, HS1⟩ : ∃ q, Hid (coD lt lx 99 = q) := ⟨_, Lib.hid rfl⟩
  obtain ⟨T1, HT1⟩ : ∃ T, Hid (fracText q1 = T) := ⟨_, Lib.hid rfl⟩
  have ht1 : ((str T1).toList == [50, 48, 48]) = true := by
    rw [str_toList, ← HT1.out, ← HS1.out, co_full (by omega) (by omega) (by rw [sumD_comm]; exact Z2), t200]; rfl
  obtain ⟨m0, hm0⟩ : ∃ m, totE lx = m := ⟨_, rfl⟩
  have hm1 : totE lt = 2 * m0 := by rw [← hm0, ← hlt.out]; exact (hv2 VX.out N4.out).2
  have hmb : 1 ≤ m0 ∧ m0 ≤ 32000 := by rw [← hm0]; exact ⟨hpx, VX.out.tt.2⟩
  have NX : TotIs ia lx fa ta m0 := ⟨fun _ => hm0.symm, fun h => absurd VX.out h⟩
  have NT : TotIs ia lt fa ta (2 * m0) := ⟨fun _ => hm1.symm, fun h => absurd VT.out h⟩
  have hw2 : IntKind.i64.wrap (2 * m0) = 2 * m0 := Go.IntWalk.i64_in _ (by omega)
  have hpa := va.pos
  have hpb := vb.pos
  have hpc := vc.pos
  obtain ⟨dd1, H1⟩ : ∃ q, Hid (disD la lb = q) := ⟨_, Lib.hid rfl⟩
  obtain ⟨dd2, H2⟩ : ∃ q, Hid (disD lb lc = q) := ⟨_, Lib.hid rfl⟩
  obtain ⟨dd3, H3⟩ : ∃ q, Hid (disD la lc = q) := ⟨_, Lib.hid rfl⟩
  obtain ⟨dd4, H4⟩ : ∃ q, Hid (dd1 + dd2 = q) := ⟨_, Lib.hid rfl⟩
  obtain ⟨o1, HO1⟩ : ∃ q, Hid (quo 100 1 = q) := ⟨_, Lib.hid rfl⟩
  have s1 : Sz dd1 2 := H1.out ▸ dis_sz va vb
  have s2 : Sz dd2 2 := H2.out ▸ dis_sz vb vc
  obtain ⟨x1, HX1⟩ : ∃ x, Hid (cmpQ dd3 dd4 = x) := ⟨_, Lib.hid rfl⟩
  have hx1 : x1 ≤ 0 := by rw [← HX1.out, ← H4.out, ← H1.out, ← H2.out, ← H3.out]; exact cmpQ_le.2 (dis_tri (by omega) (by omega) (by omega))
  have hdx1 : decide (0 < x1) = false := decide_eq_false (by omega)
  obtain ⟨x2, HX2⟩ : ∃ x, Hid (sgn dd1 = x) := ⟨_, Lib.hid rfl⟩
  have hx2 : 0 ≤ x2 := by
    have h := dis_nn (a := la) (b := lb) (by omega) (by omega)
    rw [H1.out, show quo 0 1 = 0 by rw [quo, Rat.div_def, Rat.intCast_zero, Rat.zero_mul]] at h
    rw [← HX2.out]
    rcases sgn_cases dd1 with ⟨h1, e⟩ | ⟨h1, e⟩ | ⟨h1, e⟩
    · exact absurd h (Rat.not_le.2 h1)
    · omega
    · omega
  have hdx2 : decide (x2 < 0) = false := decide_eq_false (by omega)
  obtain ⟨x3, HX3⟩ : ∃ x, Hid (cmpQ dd1 o1 = x) := ⟨_, Lib.hid rfl⟩
  have hx3 : x3 ≤ 0 := by rw [← HX3.out, ← HO1.out, ← H1.out]; exact cmpQ_le.2 (dis_lt va vb)
  have hdx3 : decide (0 < x3) = false := decide_eq_false (by omega)
  obtain ⟨im, lm, fm, tm, k, hM⟩ := MergeIs.ex ia la fa ta ib lb fb tb
  have HM := Lib.hid hM
  obtain ⟨T2, HT2⟩ : ∃ T, Hid (fracText dd1 = T) := ⟨_, Lib.hid rfl⟩
  have hz4 : Sz dd4 5 := by rw [← H4.out]; exact s1.add s2
  clear va vb vc hM Z2 hm0 hm1 hpx hpt hpa hpb hpc hx1 hx2 hx3
  go_enter Tryz.func3, Tryz.ntmps3
  go_wp2_with fail
  have HX := BL.three w #[.int .i64 ia, .slice Aa la.length ca, .int .i64 fa, .int .i64 ta] #[.int .i64 ib, .slice Ab lb.length cb, .int .i64 fb, .int .i64 tb] #[.int .i64 ic, .slice Ac lc.length cc, .int .i64 fc, .int .i64 tc] 26 26 26
  replace HE := HE.ext HX.below
  replace EA := EA.ext HX.below
  replace EB := EB.ext HX.below
  replace EC := EC.ext HX.below
  refine (hoardsAwake_any _ HE).mono ?_
  rintro e w1 ⟨rfl, hb⟩
  replace HX := HX.ext hb
  replace HE := HE.ext hb
  replace EA := EA.ext hb
  replace EB := EB.ext hb
  replace EC := EC.ext hb
  clear hb
  have hc00 := HX.cell 0 0 rfl rfl
  have hc01 := HX.cell 0 1 rfl rfl
  have hc02 := HX.cell 0 2 rfl rfl
  have hc03 := HX.cell 0 3 rfl rfl
  try simp only [List.getElem_toArray, List.getElem_cons_zero, List.getElem_cons_succ] at hc00 hc01 hc02 hc03
  go_wp2_with fail
  refine (bhoard_any (b := true) Aa ca la _ EA hla YA).mono ?_
  rintro e w2 ⟨rfl, hb⟩
  clear hc00 hc01 hc02 hc03
  replace HX := HX.ext hb
  replace HE := HE.ext hb
  replace EA := EA.ext hb
  replace EB := EB.ext hb
  replace EC := EC.ext hb
  clear hb
  have hc10 := HX.cell 1 0 rfl rfl
  have hc11 := HX.cell 1 1 rfl rfl
  have hc12 := HX.cell 1 2 rfl rfl
  have hc13 := HX.cell 1 3 rfl rfl
  try simp only [List.getElem_toArray, List.getElem_cons_zero, List.getElem_cons_succ] at hc10 hc11 hc12 hc13
  go_wp2_with fail
  refine (bhoard_any (b := true) Ab cb lb _ EB hlb YB).mono ?_
  rintro e w3 ⟨rfl, hb⟩
  clear hc10 hc11 hc12 hc13
  replace HX := HX.ext hb
  replace HE := HE.ext hb
  replace EA := EA.ext hb
  replace EB := EB.ext hb
  replace EC := EC.ext hb
  clear hb
  have hc20 := HX.cell 2 0 rfl rfl
  have hc21 := HX.cell 2 1 rfl rfl
  have hc22 := HX.cell 2 2 rfl rfl
  have hc23 := HX.cell 2 3 rfl rfl
  try simp only [List.getElem_toArray, List.getElem_cons_zero, List.getElem_cons_succ] at hc20 hc21 hc22 hc23
  go_wp2_with fail
  refine (bhoard_any (b := true) Ac cc lc _ EC hlc YC).mono ?_
  rintro e w4 ⟨rfl, hb⟩
  clear hc20 hc21 hc22 hc23
  replace HX := HX.ext hb
  replace HE := HE.ext hb
  replace EA := EA.ext hb
  replace EB := EB.ext hb
  replace EC := EC.ext hb
  clear hb
  have hc00 := HX.cell 0 0 rfl rfl
  have hc01 := HX.cell 0 1 rfl rfl
  have hc02 := HX.cell 0 2 rfl rfl
  have hc03 := HX.cell 0 3 rfl rfl
  try simp only [List.getElem_toArray, List.getElem_cons_zero, List.getElem_cons_succ] at hc00 hc01 hc02 hc03
  go_wp2_with fail
  refine (halved_any Aa ca la _ EA hla2).mono ?_
  rintro e w5 ⟨Ax, cx, rfl, EX, hb⟩
  clear hc00 hc01 hc02 hc03
  replace HX := HX.ext hb
  replace HE := HE.ext hb
  replace EA := EA.ext hb
  replace EB := EB.ext hb
  replace EC := EC.ext hb
  clear hb
  rw [hlx.out] at EX ⊢
  go_upto_region 4 with fail
  have hb := below_alloc w5 (.cells #[.int .i64 ia, .slice Ax lx.length cx, .int .i64 fa, .int .i64 ta] 26)
  replace HX := HX.new #[.int .i64 ia, .slice Ax lx.length cx, .int .i64 fa, .int .i64 ta] 26
  simp only [List.cons_append, List.nil_append] at HX
  replace HE := HE.ext hb
  replace EA := EA.ext hb
  replace EB := EB.ext hb
  replace EC := EC.ext hb
  replace EX := EX.ext hb
  clear hb
  generalize w5.alloc (.cells #[.int .i64 ia, .slice Ax lx.length cx, .int .i64 fa, .int .i64 ta] 26) = V5 at *
  generalize w5.heap.size = g3 at *
  have hc30 := HX.cell 3 0 rfl rfl
  have hc31 := HX.cell 3 1 rfl rfl
  have hc32 := HX.cell 3 2 rfl rfl
  have hc33 := HX.cell 3 3 rfl rfl
  try simp only [List.getElem_toArray, List.getElem_cons_zero, List.getElem_cons_succ] at hc30 hc31 hc32 hc33
  go_wp2_with fail
  refine (hmerge_any Ax Ax cx cx lx lx _ EX EX (by omega) (by omega) MT.out).mono ?_
  rintro e w6 ⟨At, ct, rfl, ET, hb⟩
  clear hc30 hc31 hc32 hc33
  replace HX := HX.ext hb
  replace HE := HE.ext hb
  replace EA := EA.ext hb
  replace EB := EB.ext hb
  replace EC := EC.ext hb
  replace EX := EX.ext hb
  clear hb
  go_upto_region 5 with fail
  have hb := below_alloc w6 (.cells #[.int .i64 ia, .slice At lt.length ct, .int .i64 fa, .int .i64 ta] 26)
  replace HX := HX.new #[.int .i64 ia, .slice At lt.length ct, .int .i64 fa, .int .i64 ta] 26
  simp only [List.cons_append, List.nil_append] at HX
  replace HE := HE.ext hb
  replace EA := EA.ext hb
  replace EB := EB.ext hb
  replace EC := EC.ext hb
  replace EX := EX.ext hb
  replace ET := ET.ext hb
  clear hb
  generalize w6.alloc (.cells #[.int .i64 ia, .slice At lt.length ct, .int .i64 fa, .int .i64 ta] 26) = V6 at *
  generalize w6.heap.size = g4 at *
  have hc30 := HX.cell 3 0 rfl rfl
  have hc31 := HX.cell 3 1 rfl rfl
  have hc32 := HX.cell 3 2 rfl rfl
  have hc33 := HX.cell 3 3 rfl rfl
  try simp only [List.getElem_toArray, List.getElem_cons_zero, List.getElem_cons_succ] at hc30 hc31 hc32 hc33
  have hc40 := HX.cell 4 0 rfl rfl
  have hc41 := HX.cell 4 1 rfl rfl
  have hc42 := HX.cell 4 2 rfl rfl
  have hc43 := HX.cell 4 3 rfl rfl
  try simp only [List.getElem_toArray, List.getElem_cons_zero, List.getElem_cons_succ] at hc40 hc41 hc42 hc43
  go_wp2_with fail
  refine (dist_any Ax At cx ct lx lt _ EX ET (by omega) (by omega) VX.out VT.out HZ).mono ?_
  rintro e w7 ⟨A5, c5, B5, d5, rfl, F5, hb⟩
  clear hc30 hc31 hc32 hc33
  clear hc40 hc41 hc42 hc43
  replace HX := HX.ext hb
  replace HE := HE.ext hb
  replace EA := EA.ext hb
  replace EB := EB.ext hb
  replace EC := EC.ext hb
  replace EX := EX.ext hb
  replace ET := ET.ext hb
  clear hb
  go_upto_region 6 with fail
  have hb := below_alloc w7 (.cells #[.bool (sg q0), .slice A5 (dig (nu q0)).length c5, .slice B5 (dig q0.den).length d5] 37)
  replace HX := HX.new #[.bool (sg q0), .slice A5 (dig (nu q0)).length c5, .slice B5 (dig q0.den).length d5] 37
  simp only [List.cons_append, List.nil_append] at HX
  replace HE := HE.ext hb
  replace EA := EA.ext hb
  replace EB := EB.ext hb
  replace EC := EC.ext hb
  replace EX := EX.ext hb
  replace ET := ET.ext hb
  replace F5 := F5.ext hb
  clear hb
  generalize w7.alloc (.cells #[.bool (sg q0), .slice A5 (dig (nu q0)).length c5, .slice B5 (dig q0.den).length d5] 37) = V7 at *
  generalize w7.heap.size = g5 at *
  have hc40 := HX.cell 4 0 rfl rfl
  have hc41 := HX.cell 4 1 rfl rfl
  have hc42 := HX.cell 4 2 rfl rfl
  have hc43 := HX.cell 4 3 rfl rfl
  try simp only [List.getElem_toArray, List.getElem_cons_zero, List.getElem_cons_succ] at hc40 hc41 hc42 hc43
  have hc30 := HX.cell 3 0 rfl rfl
  have hc31 := HX.cell 3 1 rfl rfl
  have hc32 := HX.cell 3 2 rfl rfl
  have hc33 := HX.cell 3 3 rfl rfl
  try simp only [List.getElem_toArray, List.getElem_cons_zero, List.getElem_cons_succ] at hc30 hc31 hc32 hc33
  go_wp2_with fail
  refine (coeff_any At Ax ct cx lt lx _ ET EX (by omega) (by omega) VT.out VX.out HS1).mono ?_
  rintro e w8 ⟨A6, c6, B6, d6, rfl, F6, hb⟩
  clear hc40 hc41 hc42 hc43
  clear hc30 hc31 hc32 hc33
  replace HX := HX.ext hb
  replace HE := HE.ext hb
  replace EA := EA.ext hb
  replace EB := EB.ext hb
  replace EC := EC.ext hb
  replace EX := EX.ext hb
  replace ET := ET.ext hb
  replace F5 := F5.ext hb
  clear hb
  go_upto_region 7 with fail
  have hb := below_alloc w8 (.cells #[.bool (sg q1), .slice A6 (dig (nu q1)).length c6, .slice B6 (dig q1.den).length d6] 37)
  replace HX := HX.new #[.bool (sg q1), .slice A6 (dig (nu q1)).length c6, .slice B6 (dig q1.den).length d6] 37
  simp only [List.cons_append, List.nil_append] at HX
  replace HE := HE.ext hb
  replace EA := EA.ext hb
  replace EB := EB.ext hb
  replace EC := EC.ext hb
  replace EX := EX.ext hb
  replace ET := ET.ext hb
  replace F5 := F5.ext hb
  replace F6 := F6.ext hb
  clear hb
  generalize w8.alloc (.cells #[.bool (sg q1), .slice A6 (dig (nu q1)).length c6, .slice B6 (dig q1.den).length d6] 37) = V8 at *
  generalize w8.heap.size = g6 at *
  go_upto_region 7 with fail
  have HEu := HE
  have EAu := EA
  have EBu := EB
  have ECu := EC
  have EXu := EX
  have ETu := ET
  have F5u := F5
  have F6u := F6
  go_cut [93] (fun x wx => x = .bool false ∧ BL w wx [(w.heap.size, #[.int .i64 ia, .slice Aa la.length ca, .int .i64 fa, .int .i64 ta], 26), (w.heap.size + 1, #[.int .i64 ib, .slice Ab lb.length cb, .int .i64 fb, .int .i64 tb], 26), (w.heap.size + 2, #[.int .i64 ic, .slice Ac lc.length cc, .int .i64 fc, .int .i64 tc], 26), (g3, #[.int .i64 ia, .slice Ax lx.length cx, .int .i64 fa, .int .i64 ta], 26), (g4, #[.int .i64 ia, .slice At lt.length ct, .int .i64 fa, .int .i64 ta], 26), (g5, #[.bool (sg q0), .slice A5 (dig (nu q0)).length c5, .slice B5 (dig q0.den).length d5], 37), (g6, #[.bool (sg q1), .slice A6 (dig (nu q1)).length c6, .slice B6 (dig q1.den).length d6], 37)] ∧ Below V8.heap.size V8 wx)
  case first =>
    have hbx : Below V8.heap.size V8 V8.drew := drew_below (Below.refl _ _) 1
    have held : ∀ {W' : World}, BL w W' [(w.heap.size, #[.int .i64 ia, .slice Aa la.length ca, .int .i64 fa, .int .i64 ta], 26), (w.heap.size + 1, #[.int .i64 ib, .slice Ab lb.length cb, .int .i64 fb, .int .i64 tb], 26), (w.heap.size + 2, #[.int .i64 ic, .slice Ac lc.length cc, .int .i64 fc, .int .i64 tc], 26), (g3, #[.int .i64 ia, .slice Ax lx.length cx, .int .i64 fa, .int .i64 ta], 26), (g4, #[.int .i64 ia, .slice At lt.length ct, .int .i64 fa, .int .i64 ta], 26), (g5, #[.bool (sg q0), .slice A5 (dig (nu q0)).length c5, .slice B5 (dig q0.den).length d5], 37), (g6, #[.bool (sg q1), .slice A6 (dig (nu q1)).length c6, .slice B6 (dig q1.den).length d6], 37)] → W'.cell? ⟨g3, 0, none⟩ = some (.int .i64 ia) ∧ W'.cell? ⟨g3, 1, none⟩ = some (.slice Ax lx.length cx) ∧ W'.cell? ⟨g3, 2, none⟩ = some (.int .i64 fa) ∧ W'.cell? ⟨g3, 3, none⟩ = some (.int .i64 ta) ∧ W'.cell? ⟨g4, 0, none⟩ = some (.int .i64 ia) ∧ W'.cell? ⟨g4, 1, none⟩ = some (.slice At lt.length ct) ∧ W'.cell? ⟨g4, 2, none⟩ = some (.int .i64 fa) ∧ W'.cell? ⟨g4, 3, none⟩ = some (.int .i64 ta) ∧ W'.cell? ⟨g5, 0, none⟩ = some (.bool (sg q0)) ∧ W'.cell? ⟨g5, 1, none⟩ = some (.slice A5 (dig (nu q0)).length c5) ∧ W'.cell? ⟨g5, 2, none⟩ = some (.slice B5 (dig q0.den).length d5) ∧ W'.cell? ⟨g6, 0, none⟩ = some (.bool (sg q1)) ∧ W'.cell? ⟨g6, 1, none⟩ = some (.slice A6 (dig (nu q1)).length c6) ∧ W'.cell? ⟨g6, 2, none⟩ = some (.slice B6 (dig q1.den).length d6) := fun h => ⟨h.cell 3 0 rfl rfl, h.cell 3 1 rfl rfl, h.cell 3 2 rfl rfl, h.cell 3 3 rfl rfl, h.cell 4 0 rfl rfl, h.cell 4 1 rfl rfl, h.cell 4 2 rfl rfl, h.cell 4 3 rfl rfl, h.cell 5 0 rfl rfl, h.cell 5 1 rfl rfl, h.cell 5 2 rfl rfl, h.cell 6 0 rfl rfl, h.cell 6 1 rfl rfl, h.cell 6 2 rfl rfl⟩
    replace HX := HX.ext (drew_ext _)
    replace HE := HE.ext (drew_ext _)
    replace EA := EA.ext (drew_ext _)
    replace EB := EB.ext (drew_ext _)
    replace EC := EC.ext (drew_ext _)
    replace EX := EX.ext (drew_ext _)
    replace ET := ET.ext (drew_ext _)
    replace F5 := F5.ext (drew_ext _)
    replace F6 := F6.ext (drew_ext _)
    go_region_held3 (fun W' => W'.cell? ⟨g3, 0, none⟩ = some (.int .i64 ia) ∧ W'.cell? ⟨g3, 1, none⟩ = some (.slice Ax lx.length cx) ∧ W'.cell? ⟨g3, 2, none⟩ = some (.int .i64 fa) ∧ W'.cell? ⟨g3, 3, none⟩ = some (.int .i64 ta) ∧ W'.cell? ⟨g4, 0, none⟩ = some (.int .i64 ia) ∧ W'.cell? ⟨g4, 1, none⟩ = some (.slice At lt.length ct) ∧ W'.cell? ⟨g4, 2, none⟩ = some (.int .i64 fa) ∧ W'.cell? ⟨g4, 3, none⟩ = some (.int .i64 ta) ∧ W'.cell? ⟨g5, 0, none⟩ = some (.bool (sg q0)) ∧ W'.cell? ⟨g5, 1, none⟩ = some (.slice A5 (dig (nu q0)).length c5) ∧ W'.cell? ⟨g5, 2, none⟩ = some (.slice B5 (dig q0.den).length d5) ∧ W'.cell? ⟨g6, 0, none⟩ = some (.bool (sg q1)) ∧ W'.cell? ⟨g6, 1, none⟩ = some (.slice A6 (dig (nu q1)).length c6) ∧ W'.cell? ⟨g6, 2, none⟩ = some (.slice B6 (dig q1.den).length d6))
      (exact held HX)
      (first
        | (go_at_call 19; refine (fsign_h hz F5.fr (by omega)).mono ?_; rintro e wz ⟨rfl, hb⟩; replace HX := HX.ext hb; replace hbx := bel_trans hbx hb; replace HE := HE.ext hb; replace EA := EA.ext hb; replace EB := EB.ext hb; replace EC := EC.ext hb; replace EX := EX.ext hb; replace ET := ET.ext hb; replace F5 := F5.ext hb; replace F6 := F6.ext hb; clear hb)
        | (go_at_call 20; refine (ftext_e HT1 F6 (by omega) HE.tab).mono ?_; rintro e wz ⟨rfl, hb⟩; replace HX := HX.ext hb; replace hbx := bel_trans hbx hb; replace HE := HE.ext hb; replace EA := EA.ext hb; replace EB := EB.ext hb; replace EC := EC.ext hb; replace EX := EX.ext hb; replace ET := ET.ext hb; replace F5 := F5.ext hb; replace F6 := F6.ext hb; clear hb)
        | (go_at_call_of 21 (Value.slice At lt.length ct); refine (htotal_any At ct lt _ ET (by omega) NT).mono ?_; rintro e wz ⟨rfl, hb⟩; replace HX := HX.ext hb; replace hbx := bel_trans hbx hb; replace HE := HE.ext hb; replace EA := EA.ext hb; replace EB := EB.ext hb; replace EC := EC.ext hb; replace EX := EX.ext hb; replace ET := ET.ext hb; replace F5 := F5.ext hb; replace F6 := F6.ext hb; clear hb)
        | (go_at_call_of 21 (Value.slice Ax lx.length cx); refine (htotal_any Ax cx lx _ EX (by omega) NX).mono ?_; rintro e wz ⟨rfl, hb⟩; replace HX := HX.ext hb; replace hbx := bel_trans hbx hb; replace HE := HE.ext hb; replace EA := EA.ext hb; replace EB := EB.ext hb; replace EC := EC.ext hb; replace EX := EX.ext hb; replace ET := ET.ext hb; replace F5 := F5.ext hb; replace F6 := F6.ext hb; clear hb))
    all_goals (
      go_wp2_with fail
      go_meet
      case rel => exact ⟨by first | rfl | simp, HX, hbx⟩)
  case rest =>
    obtain ⟨rfl, h1, hb⟩ := hcut
    clear HX
    have HX := h1
    clear h1
    replace HE := HEu.ext hb
    replace EA := EAu.ext hb
    replace EB := EBu.ext hb
    replace EC := ECu.ext hb
    replace EX := EXu.ext hb
    replace ET := ETu.ext hb
    replace F5 := F5u.ext hb
    replace F6 := F6u.ext hb
    clear hb HEu EAu EBu ECu EXu ETu F5u F6u
    clear EX ET F5 F6
    have hc00 := HX.cell 0 0 rfl rfl
    have hc01 := HX.cell 0 1 rfl rfl
    have hc02 := HX.cell 0 2 rfl rfl
    have hc03 := HX.cell 0 3 rfl rfl
    try simp only [List.getElem_toArray, List.getElem_cons_zero, List.getElem_cons_succ] at hc00 hc01 hc02 hc03
    have hc10 := HX.cell 1 0 rfl rfl
    have hc11 := HX.cell 1 1 rfl rfl
    have hc12 := HX.cell 1 2 rfl rfl
    have hc13 := HX.cell 1 3 rfl rfl
    try simp only [List.getElem_toArray, List.getElem_cons_zero, List.getElem_cons_succ] at hc10 hc11 hc12 hc13
    go_wp2_with fail
    refine (dist_any Aa Ab ca cb la lb _ EA EB (by omega) (by omega) VA.out VB.out H1).mono ?_
    rintro e w9 ⟨A7, c7, B7, d7, rfl, F7, hb⟩
    clear hc00 hc01 hc02 hc03
    clear hc10 hc11 hc12 hc13
    replace HX := HX.ext hb
    replace HE := HE.ext hb
    replace EA := EA.ext hb
    replace EB := EB.ext hb
    replace EC := EC.ext hb
    clear hb
    go_upto_region 10 with fail
    have hb := below_alloc w9 (.cells #[.bool (sg dd1), .slice A7 (dig (nu dd1)).length c7, .slice B7 (dig dd1.den).length d7] 37)
    replace HX := HX.new #[.bool (sg dd1), .slice A7 (dig (nu dd1)).length c7, .slice B7 (dig dd1.den).length d7] 37
    simp only [List.cons_append, List.nil_append] at HX
    replace HE := HE.ext hb
    replace EA := EA.ext hb
    replace EB := EB.ext hb
    replace EC := EC.ext hb
    replace F7 := F7.ext hb
    clear hb
    generalize w9.alloc (.cells #[.bool (sg dd1), .slice A7 (dig (nu dd1)).length c7, .slice B7 (dig dd1.den).length d7] 37) = V9 at *
    generalize w9.heap.size = g7 at *
    have hc10 := HX.cell 1 0 rfl rfl
    have hc11 := HX.cell 1 1 rfl rfl
    have hc12 := HX.cell 1 2 rfl rfl
    have hc13 := HX.cell 1 3 rfl rfl
    try simp only [List.getElem_toArray, List.getElem_cons_zero, List.getElem_cons_succ] at hc10 hc11 hc12 hc13
    have hc20 := HX.cell 2 0 rfl rfl
    have hc21 := HX.cell 2 1 rfl rfl
    have hc22 := HX.cell 2 2 rfl rfl
    have hc23 := HX.cell 2 3 rfl rfl
    try simp only [List.getElem_toArray, List.getElem_cons_zero, List.getElem_cons_succ] at hc20 hc21 hc22 hc23
    go_wp2_with fail
    refine (dist_any Ab Ac cb cc lb lc _ EB EC (by omega) (by omega) VB.out VC.out H2).mono ?_
    rintro e w10 ⟨A8, c8, B8, d8, rfl, F8, hb⟩
    clear hc10 hc11 hc12 hc13
    clear hc20 hc21 hc22 hc23
    replace HX := HX.ext hb
    replace HE := HE.ext hb
    replace EA := EA.ext hb
    replace EB := EB.ext hb
    replace EC := EC.ext hb
    replace F7 := F7.ext hb
    clear hb
    go_upto_region 11 with fail
    have hb := below_alloc w10 (.cells #[.bool (sg dd2), .slice A8 (dig (nu dd2)).length c8, .slice B8 (dig dd2.den).length d8] 37)
    replace HX := HX.new #[.bool (sg dd2), .slice A8 (dig (nu dd2)).length c8, .slice B8 (dig dd2.den).length d8] 37
    simp only [List.cons_append, List.nil_append] at HX
    replace HE := HE.ext hb
    replace EA := EA.ext hb
    replace EB := EB.ext hb
    replace EC := EC.ext hb
    replace F7 := F7.ext hb
    replace F8 := F8.ext hb
    clear hb
    generalize w10.alloc (.cells #[.bool (sg dd2), .slice A8 (dig (nu dd2)).length c8, .slice B8 (dig dd2.den).length d8] 37) = V10 at *
    generalize w10.heap.size = g8 at *
    have hc00 := HX.cell 0 0 rfl rfl
    have hc01 := HX.cell 0 1 rfl rfl
    have hc02 := HX.cell 0 2 rfl rfl
    have hc03 := HX.cell 0 3 rfl rfl
    try simp only [List.getElem_toArray, List.getElem_cons_zero, List.getElem_cons_succ] at hc00 hc01 hc02 hc03
    have hc20 := HX.cell 2 0 rfl rfl
    have hc21 := HX.cell 2 1 rfl rfl
    have hc22 := HX.cell 2 2 rfl rfl
    have hc23 := HX.cell 2 3 rfl rfl
    try simp only [List.getElem_toArray, List.getElem_cons_zero, List.getElem_cons_succ] at hc20 hc21 hc22 hc23
    go_wp2_with fail
    refine (dist_any Aa Ac ca cc la lc _ EA EC (by omega) (by omega) VA.out VC.out H3).mono ?_
    rintro e w11 ⟨A9, c9, B9, d9, rfl, F9, hb⟩
    clear hc00 hc01 hc02 hc03
    clear hc20 hc21 hc22 hc23
    replace HX := HX.ext hb
    replace HE := HE.ext hb
    replace EA := EA.ext hb
    replace EB := EB.ext hb
    replace EC := EC.ext hb
    replace F7 := F7.ext hb
    replace F8 := F8.ext hb
    clear hb
    go_upto_region 12 with fail
    have hb := below_alloc w11 (.cells #[.bool (sg dd3), .slice A9 (dig (nu dd3)).length c9, .slice B9 (dig dd3.den).length d9] 37)
    replace HX := HX.new #[.bool (sg dd3), .slice A9 (dig (nu dd3)).length c9, .slice B9 (dig dd3.den).length d9] 37
    simp only [List.cons_append, List.nil_append] at HX
    replace HE := HE.ext hb
    replace EA := EA.ext hb
    replace EB := EB.ext hb
    replace EC := EC.ext hb
    replace F7 := F7.ext hb
    replace F8 := F8.ext hb
    replace F9 := F9.ext hb
    clear hb
    generalize w11.alloc (.cells #[.bool (sg dd3), .slice A9 (dig (nu dd3)).length c9, .slice B9 (dig dd3.den).length d9] 37) = V11 at *
    generalize w11.heap.size = g9 at *
    go_upto_region 12 with fail
    have HEu := HE
    have EAu := EA
    have EBu := EB
    have ECu := EC
    have F7u := F7
    have F8u := F8
    have F9u := F9
    go_cut [140] (fun x wx => x = .bool false ∧ BL w wx [(w.heap.size, #[.int .i64 ia, .slice Aa la.length ca, .int .i64 fa, .int .i64 ta], 26), (w.heap.size + 1, #[.int .i64 ib, .slice Ab lb.length cb, .int .i64 fb, .int .i64 tb], 26), (w.heap.size + 2, #[.int .i64 ic, .slice Ac lc.length cc, .int .i64 fc, .int .i64 tc], 26), (g3, #[.int .i64 ia, .slice Ax lx.length cx, .int .i64 fa, .int .i64 ta], 26), (g4, #[.int .i64 ia, .slice At lt.length ct, .int .i64 fa, .int .i64 ta], 26), (g5, #[.bool (sg q0), .slice A5 (dig (nu q0)).length c5, .slice B5 (dig q0.den).length d5], 37), (g6, #[.bool (sg q1), .slice A6 (dig (nu q1)).length c6, .slice B6 (dig q1.den).length d6], 37), (g7, #[.bool (sg dd1), .slice A7 (dig (nu dd1)).length c7, .slice B7 (dig dd1.den).length d7], 37), (g8, #[.bool (sg dd2), .slice A8 (dig (nu dd2)).length c8, .slice B8 (dig dd2.den).length d8], 37), (g9, #[.bool (sg dd3), .slice A9 (dig (nu dd3)).length c9, .slice B9 (dig dd3.den).length d9], 37)] ∧ Below V11.heap.size V11 wx)
    case first =>
      have hbx : Below V11.heap.size V11 V11.drew := drew_below (Below.refl _ _) 1
      have held : ∀ {W' : World}, BL w W' [(w.heap.size, #[.int .i64 ia, .slice Aa la.length ca, .int .i64 fa, .int .i64 ta], 26), (w.heap.size + 1, #[.int .i64 ib, .slice Ab lb.length cb, .int .i64 fb, .int .i64 tb], 26), (w.heap.size + 2, #[.int .i64 ic, .slice Ac lc.length cc, .int .i64 fc, .int .i64 tc], 26), (g3, #[.int .i64 ia, .slice Ax lx.length cx, .int .i64 fa, .int .i64 ta], 26), (g4, #[.int .i64 ia, .slice At lt.length ct, .int .i64 fa, .int .i64 ta], 26), (g5, #[.bool (sg q0), .slice A5 (dig (nu q0)).length c5, .slice B5 (dig q0.den).length d5], 37), (g6, #[.bool (sg q1), .slice A6 (dig (nu q1)).length c6, .slice B6 (dig q1.den).length d6], 37), (g7, #[.bool (sg dd1), .slice A7 (dig (nu dd1)).length c7, .slice B7 (dig dd1.den).length d7], 37), (g8, #[.bool (sg dd2), .slice A8 (dig (nu dd2)).length c8, .slice B8 (dig dd2.den).length d8], 37), (g9, #[.bool (sg dd3), .slice A9 (dig (nu dd3)).length c9, .slice B9 (dig dd3.den).length d9], 37)] → W'.cell? ⟨g7, 0, none⟩ = some (.bool (sg dd1)) ∧ W'.cell? ⟨g7, 1, none⟩ = some (.slice A7 (dig (nu dd1)).length c7) ∧ W'.cell? ⟨g7, 2, none⟩ = some (.slice B7 (dig dd1.den).length d7) ∧ W'.cell? ⟨g8, 0, none⟩ = some (.bool (sg dd2)) ∧ W'.cell? ⟨g8, 1, none⟩ = some (.slice A8 (dig (nu dd2)).length c8) ∧ W'.cell? ⟨g8, 2, none⟩ = some (.slice B8 (dig dd2.den).length d8) ∧ W'.cell? ⟨g9, 0, none⟩ = some (.bool (sg dd3)) ∧ W'.cell? ⟨g9, 1, none⟩ = some (.slice A9 (dig (nu dd3)).length c9) ∧ W'.cell? ⟨g9, 2, none⟩ = some (.slice B9 (dig dd3.den).length d9) := fun h => ⟨h.cell 7 0 rfl rfl, h.cell 7 1 rfl rfl, h.cell 7 2 rfl rfl, h.cell 8 0 rfl rfl, h.cell 8 1 rfl rfl, h.cell 8 2 rfl rfl, h.cell 9 0 rfl rfl, h.cell 9 1 rfl rfl, h.cell 9 2 rfl rfl⟩
      replace HX := HX.ext (drew_ext _)
      replace HE := HE.ext (drew_ext _)
      replace EA := EA.ext (drew_ext _)
      replace EB := EB.ext (drew_ext _)
      replace EC := EC.ext (drew_ext _)
      replace F7 := F7.ext (drew_ext _)
      replace F8 := F8.ext (drew_ext _)
      replace F9 := F9.ext (drew_ext _)
      go_region_held3 (fun W' => W'.cell? ⟨g7, 0, none⟩ = some (.bool (sg dd1)) ∧ W'.cell? ⟨g7, 1, none⟩ = some (.slice A7 (dig (nu dd1)).length c7) ∧ W'.cell? ⟨g7, 2, none⟩ = some (.slice B7 (dig dd1.den).length d7) ∧ W'.cell? ⟨g8, 0, none⟩ = some (.bool (sg dd2)) ∧ W'.cell? ⟨g8, 1, none⟩ = some (.slice A8 (dig (nu dd2)).length c8) ∧ W'.cell? ⟨g8, 2, none⟩ = some (.slice B8 (dig dd2.den).length d8) ∧ W'.cell? ⟨g9, 0, none⟩ = some (.bool (sg dd3)) ∧ W'.cell? ⟨g9, 1, none⟩ = some (.slice A9 (dig (nu dd3)).length c9) ∧ W'.cell? ⟨g9, 2, none⟩ = some (.slice B9 (dig dd3.den).length d9))
        (exact held HX)
        (first
          | (go_at_call 23; refine (fadd_h H4 hz4 F7.fr F8.fr (by omega) (by omega)).mono ?_; rintro e wz ⟨A10, c10, B10, d10, rfl, F10, hb⟩; replace HX := HX.ext hb; replace hbx := bel_trans hbx hb; replace HE := HE.ext hb; replace EA := EA.ext hb; replace EB := EB.ext hb; replace EC := EC.ext hb; replace F7 := F7.ext hb; replace F8 := F8.ext hb; replace F9 := F9.ext hb; (try replace F11 := F11.ext hb); clear hb)
          | (go_at_call_of 22 (Value.slice A9 (dig (nu dd3)).length c9); refine (fcmp_h HX1 F9.fr F10.fr (by omega) (by omega)).mono ?_; rintro e wz ⟨rfl, hb⟩; replace HX := HX.ext hb; replace hbx := bel_trans hbx hb; replace HE := HE.ext hb; replace EA := EA.ext hb; replace EB := EB.ext hb; replace EC := EC.ext hb; replace F7 := F7.ext hb; replace F8 := F8.ext hb; replace F9 := F9.ext hb; (try replace F10 := F10.ext hb); (try replace F11 := F11.ext hb); clear hb)
          | (go_at_call 19; refine (fsign_h HX2 F7.fr (by omega)).mono ?_; rintro e wz ⟨rfl, hb⟩; replace HX := HX.ext hb; replace hbx := bel_trans hbx hb; replace HE := HE.ext hb; replace EA := EA.ext hb; replace EB := EB.ext hb; replace EC := EC.ext hb; replace F7 := F7.ext hb; replace F8 := F8.ext hb; replace F9 := F9.ext hb; (try replace F10 := F10.ext hb); (try replace F11 := F11.ext hb); clear hb)
          | (go_at_call 24; refine (fofq (by decide) HO1 (by decide) (by decide) (by decide)).mono ?_; rintro e wz ⟨A11, c11, B11, d11, rfl, F11, hb⟩; replace HX := HX.ext hb; replace hbx := bel_trans hbx hb; replace HE := HE.ext hb; replace EA := EA.ext hb; replace EB := EB.ext hb; replace EC := EC.ext hb; replace F7 := F7.ext hb; replace F8 := F8.ext hb; replace F9 := F9.ext hb; (try replace F10 := F10.ext hb); clear hb)
          | (go_at_call_of 22 (Value.slice A11 (dig (nu o1)).length c11); refine (fcmp_h HX3 F7.fr F11.fr (by omega) (by omega)).mono ?_; rintro e wz ⟨rfl, hb⟩; replace HX := HX.ext hb; replace hbx := bel_trans hbx hb; replace HE := HE.ext hb; replace EA := EA.ext hb; replace EB := EB.ext hb; replace EC := EC.ext hb; replace F7 := F7.ext hb; replace F8 := F8.ext hb; replace F9 := F9.ext hb; (try replace F10 := F10.ext hb); (try replace F11 := F11.ext hb); clear hb))
      all_goals (
        go_wp2_with fail
        go_meet
        case rel => exact ⟨by first | rfl | simp, HX, hbx⟩)
    case rest =>
      obtain ⟨rfl, h1, hb⟩ := hcut
      clear HX
      have HX := h1
      clear h1
      replace HE := HEu.ext hb
      replace EA := EAu.ext hb
      replace EB := EBu.ext hb
      replace EC := ECu.ext hb
      replace F7 := F7u.ext hb
      replace F8 := F8u.ext hb
      replace F9 := F9u.ext hb
      clear hb HEu EAu EBu ECu F7u F8u F9u
      clear F8 F9 EC
      have hc00 := HX.cell 0 0 rfl rfl
      have hc01 := HX.cell 0 1 rfl rfl
      have hc02 := HX.cell 0 2 rfl rfl
      have hc03 := HX.cell 0 3 rfl rfl
      try simp only [List.getElem_toArray, List.getElem_cons_zero, List.getElem_cons_succ] at hc00 hc01 hc02 hc03
      have hc10 := HX.cell 1 0 rfl rfl
      have hc11 := HX.cell 1 1 rfl rfl
      have hc12 := HX.cell 1 2 rfl rfl
      have hc13 := HX.cell 1 3 rfl rfl
      try simp only [List.getElem_toArray, List.getElem_cons_zero, List.getElem_cons_succ] at hc10 hc11 hc12 hc13
      go_wp2_with fail
      refine (hmerge_any Aa Ab ca cb la lb _ EA EB (by omega) (by omega) HM.out).mono ?_
      rintro e w12 ⟨Am, cm, rfl, EM, hb⟩
      clear hc00 hc01 hc02 hc03
      clear hc10 hc11 hc12 hc13
      replace HX := HX.ext hb
      replace HE := HE.ext hb
      replace EA := EA.ext hb
      replace EB := EB.ext hb
      replace F7 := F7.ext hb
      clear hb
      go_upto_region 15 with fail
      have hb := below_alloc w12 (.cells #[.int .i64 im, .slice Am lm.length cm, .int .i64 fm, .int .i64 tm] 26)
      replace HX := HX.new #[.int .i64 im, .slice Am lm.length cm, .int .i64 fm, .int .i64 tm] 26
      simp only [List.cons_append, List.nil_append] at HX
      replace HE := HE.ext hb
      replace EA := EA.ext hb
      replace EB := EB.ext hb
      replace F7 := F7.ext hb
      replace EM := EM.ext hb
      clear hb
      generalize w12.alloc (.cells #[.int .i64 im, .slice Am lm.length cm, .int .i64 fm, .int .i64 tm] 26) = V12 at *
      generalize w12.heap.size = g10 at *
      by_cases hk0 : k = 0
      · subst hk0
        obtain ⟨vm, hmt, hs1, hs2⟩ := near_sums HM.out
        have hpa := VA.out.pos
        have hpb := VB.out.pos
        have VM := Lib.hid vm
        have hlm : lm.length ≤ 32 := vm.2.1.2
        obtain ⟨dd5, H5⟩ : ∃ q, Hid (disD la lm = q) := ⟨_, Lib.hid rfl⟩
        obtain ⟨dd6, H6⟩ : ∃ q, Hid (disD lm lb = q) := ⟨_, Lib.hid rfl⟩
        obtain ⟨x4, HX4⟩ : ∃ x, Hid (cmpQ dd5 dd1 = x) := ⟨_, Lib.hid rfl⟩
        have hx4 : x4 ≤ 0 := by rw [← HX4.out, ← H5.out, ← H1.out]; exact cmpQ_le.2 (dis_near (by omega) (by omega) hmt hs1)
        have hdx4 : decide (x4 ≤ 0) = true := decide_eq_true hx4
        have H7 : Hid (dd5 + dd6 = dd1) := Lib.hid (by rw [← H5.out, ← H6.out, ← H1.out]; exact dis_way (by omega) (by omega) hmt hs1 hs2)
        have HX5 : Hid (cmpQ dd1 dd1 = 0) := Lib.hid (cmpQ_eq rfl)
        obtain ⟨L, hL⟩ : ∃ L, comR la lb 99 = L := ⟨_, rfl⟩
        have hft := full_text VA.out VB.out
        rw [H1.out, HT2.out, hL] at hft
        have HC : ComIs ia la fa ta ib lb fb tb L 0 := .inr ⟨VA.out, VB.out, hL, rfl⟩
        obtain ⟨bt, hbt1⟩ : ∃ bt, ((str T2).toList == [49, 48, 48]) = bt := ⟨_, rfl⟩
        have hbt2 : ((L.length : Int) == 0) = bt := by
          rw [← hbt1, str_toList]
          by_cases hL0 : L = []
          · rw [hft.2 hL0, hL0]; rfl
          · have h1 : L.length ≠ 0 := fun h => hL0 (List.eq_nil_of_length_eq_zero h)
            rw [beq_eq_false_iff_ne.2 (show (L.length : Int) ≠ 0 by omega), beq_eq_false_iff_ne.2 fun h => hL0 (hft.1 h)]
        clear vm hmt hs1 hs2 hL hft hpa hpb hx4
        have hc00 := HX.cell 0 0 rfl rfl
        have hc01 := HX.cell 0 1 rfl rfl
        have hc02 := HX.cell 0 2 rfl rfl
        have hc03 := HX.cell 0 3 rfl rfl
        try simp only [List.getElem_toArray, List.getElem_cons_zero, List.getElem_cons_succ] at hc00 hc01 hc02 hc03
        have hc100 := HX.cell 10 0 rfl rfl
        have hc101 := HX.cell 10 1 rfl rfl
        have hc102 := HX.cell 10 2 rfl rfl
        have hc103 := HX.cell 10 3 rfl rfl
        try simp only [List.getElem_toArray, List.getElem_cons_zero, List.getElem_cons_succ] at hc100 hc101 hc102 hc103
        go_wp2_with fail
        refine (dist_any Aa Am ca cm la lm _ EA EM (by omega) (by omega) VA.out VM.out H5).mono ?_
        rintro e w13 ⟨A12, c12, B12, d12, rfl, F12, hb⟩
        clear hc00 hc01 hc02 hc03
        clear hc100 hc101 hc102 hc103
        replace HX := HX.ext hb
        replace HE := HE.ext hb
        replace EA := EA.ext hb
        replace EB := EB.ext hb
        replace F7 := F7.ext hb
        replace EM := EM.ext hb
        clear hb
        go_upto_region 18 with fail
        have hb := below_alloc w13 (.cells #[.bool (sg dd5), .slice A12 (dig (nu dd5)).length c12, .slice B12 (dig dd5.den).length d12] 37)
        replace HX := HX.new #[.bool (sg dd5), .slice A12 (dig (nu dd5)).length c12, .slice B12 (dig dd5.den).length d12] 37
        simp only [List.cons_append, List.nil_append] at HX
        replace HE := HE.ext hb
        replace EA := EA.ext hb
        replace EB := EB.ext hb
        replace F7 := F7.ext hb
        replace EM := EM.ext hb
        replace F12 := F12.ext hb
        clear hb
        generalize w13.alloc (.cells #[.bool (sg dd5), .slice A12 (dig (nu dd5)).length c12, .slice B12 (dig dd5.den).length d12] 37) = V13 at *
        generalize w13.heap.size = g11 at *
        have hc100 := HX.cell 10 0 rfl rfl
        have hc101 := HX.cell 10 1 rfl rfl
        have hc102 := HX.cell 10 2 rfl rfl
        have hc103 := HX.cell 10 3 rfl rfl
        try simp only [List.getElem_toArray, List.getElem_cons_zero, List.getElem_cons_succ] at hc100 hc101 hc102 hc103
        have hc10 := HX.cell 1 0 rfl rfl
        have hc11 := HX.cell 1 1 rfl rfl
        have hc12 := HX.cell 1 2 rfl rfl
        have hc13 := HX.cell 1 3 rfl rfl
        try simp only [List.getElem_toArray, List.getElem_cons_zero, List.getElem_cons_succ] at hc10 hc11 hc12 hc13
        go_wp2_with fail
        refine (dist_any Am Ab cm cb lm lb _ EM EB (by omega) (by omega) VM.out VB.out H6).mono ?_
        rintro e w14 ⟨A13, c13, B13, d13, rfl, F13, hb⟩
        clear hc100 hc101 hc102 hc103
        clear hc10 hc11 hc12 hc13
        replace HX := HX.ext hb
        replace HE := HE.ext hb
        replace EA := EA.ext hb
        replace EB := EB.ext hb
        replace F7 := F7.ext hb
        replace EM := EM.ext hb
        replace F12 := F12.ext hb
        clear hb
        go_upto_region 19 with fail
        have hb := below_alloc w14 (.cells #[.bool (sg dd6), .slice A13 (dig (nu dd6)).length c13, .slice B13 (dig dd6.den).length d13] 37)
        replace HX := HX.new #[.bool (sg dd6), .slice A13 (dig (nu dd6)).length c13, .slice B13 (dig dd6.den).length d13] 37
        simp only [List.cons_append, List.nil_append] at HX
        replace HE := HE.ext hb
        replace EA := EA.ext hb
        replace EB := EB.ext hb
        replace F7 := F7.ext hb
        replace EM := EM.ext hb
        replace F12 := F12.ext hb
        replace F13 := F13.ext hb
        clear hb
        generalize w14.alloc (.cells #[.bool (sg dd6), .slice A13 (dig (nu dd6)).length c13, .slice B13 (dig dd6.den).length d13] 37) = V14 at *
        generalize w14.heap.size = g12 at *
        have hc00 := HX.cell 0 0 rfl rfl
        have hc01 := HX.cell 0 1 rfl rfl
        have hc02 := HX.cell 0 2 rfl rfl
        have hc03 := HX.cell 0 3 rfl rfl
        try simp only [List.getElem_toArray, List.getElem_cons_zero, List.getElem_cons_succ] at hc00 hc01 hc02 hc03
        have hc10 := HX.cell 1 0 rfl rfl
        have hc11 := HX.cell 1 1 rfl rfl
        have hc12 := HX.cell 1 2 rfl rfl
        have hc13 := HX.cell 1 3 rfl rfl
        try simp only [List.getElem_toArray, List.getElem_cons_zero, List.getElem_cons_succ] at hc10 hc11 hc12 hc13
        go_wp2_with fail
        refine (hcommon_any Aa Ab ca cb la lb _ EA EB (by omega) (by omega) HC).mono ?_
        rintro e w15 ⟨A14, c14, rfl, _, hb⟩
        clear hc00 hc01 hc02 hc03
        clear hc10 hc11 hc12 hc13
        replace HX := HX.ext hb
        replace HE := HE.ext hb
        replace EA := EA.ext hb
        replace EB := EB.ext hb
        replace F7 := F7.ext hb
        replace EM := EM.ext hb
        replace F12 := F12.ext hb
        replace F13 := F13.ext hb
        clear hb
        go_upto_region 20 with fail
        have held : ∀ {W' : World}, BL w W' [(w.heap.size, #[.int .i64 ia, .slice Aa la.length ca, .int .i64 fa, .int .i64 ta], 26), (w.heap.size + 1, #[.int .i64 ib, .slice Ab lb.length cb, .int .i64 fb, .int .i64 tb], 26), (w.heap.size + 2, #[.int .i64 ic, .slice Ac lc.length cc, .int .i64 fc, .int .i64 tc], 26), (g3, #[.int .i64 ia, .slice Ax lx.length cx, .int .i64 fa, .int .i64 ta], 26), (g4, #[.int .i64 ia, .slice At lt.length ct, .int .i64 fa, .int .i64 ta], 26), (g5, #[.bool (sg q0), .slice A5 (dig (nu q0)).length c5, .slice B5 (dig q0.den).length d5], 37), (g6, #[.bool (sg q1), .slice A6 (dig (nu q1)).length c6, .slice B6 (dig q1.den).length d6], 37), (g7, #[.bool (sg dd1), .slice A7 (dig (nu dd1)).length c7, .slice B7 (dig dd1.den).length d7], 37), (g8, #[.bool (sg dd2), .slice A8 (dig (nu dd2)).length c8, .slice B8 (dig dd2.den).length d8], 37), (g9, #[.bool (sg dd3), .slice A9 (dig (nu dd3)).length c9, .slice B9 (dig dd3.den).length d9], 37), (g10, #[.int .i64 im, .slice Am lm.length cm, .int .i64 fm, .int .i64 tm], 26), (g11, #[.bool (sg dd5), .slice A12 (dig (nu dd5)).length c12, .slice B12 (dig dd5.den).length d12], 37), (g12, #[.bool (sg dd6), .slice A13 (dig (nu dd6)).length c13, .slice B13 (dig dd6.den).length d13], 37)] → W'.cell? ⟨g11, 0, none⟩ = some (.bool (sg dd5)) ∧ W'.cell? ⟨g11, 1, none⟩ = some (.slice A12 (dig (nu dd5)).length c12) ∧ W'.cell? ⟨g11, 2, none⟩ = some (.slice B12 (dig dd5.den).length d12) ∧ W'.cell? ⟨g12, 0, none⟩ = some (.bool (sg dd6)) ∧ W'.cell? ⟨g12, 1, none⟩ = some (.slice A13 (dig (nu dd6)).length c13) ∧ W'.cell? ⟨g12, 2, none⟩ = some (.slice B13 (dig dd6.den).length d13) ∧ W'.cell? ⟨g7, 0, none⟩ = some (.bool (sg dd1)) ∧ W'.cell? ⟨g7, 1, none⟩ = some (.slice A7 (dig (nu dd1)).length c7) ∧ W'.cell? ⟨g7, 2, none⟩ = some (.slice B7 (dig dd1.den).length d7) := fun h => ⟨h.cell 11 0 rfl rfl, h.cell 11 1 rfl rfl, h.cell 11 2 rfl rfl, h.cell 12 0 rfl rfl, h.cell 12 1 rfl rfl, h.cell 12 2 rfl rfl, h.cell 7 0 rfl rfl, h.cell 7 1 rfl rfl, h.cell 7 2 rfl rfl⟩
        replace HX := HX.ext (drew_ext _)
        replace HE := HE.ext (drew_ext _)
        replace EA := EA.ext (drew_ext _)
        replace EB := EB.ext (drew_ext _)
        replace F7 := F7.ext (drew_ext _)
        replace EM := EM.ext (drew_ext _)
        replace F12 := F12.ext (drew_ext _)
        replace F13 := F13.ext (drew_ext _)
        go_region_held3 (fun W' => W'.cell? ⟨g11, 0, none⟩ = some (.bool (sg dd5)) ∧ W'.cell? ⟨g11, 1, none⟩ = some (.slice A12 (dig (nu dd5)).length c12) ∧ W'.cell? ⟨g11, 2, none⟩ = some (.slice B12 (dig dd5.den).length d12) ∧ W'.cell? ⟨g12, 0, none⟩ = some (.bool (sg dd6)) ∧ W'.cell? ⟨g12, 1, none⟩ = some (.slice A13 (dig (nu dd6)).length c13) ∧ W'.cell? ⟨g12, 2, none⟩ = some (.slice B13 (dig dd6.den).length d13) ∧ W'.cell? ⟨g7, 0, none⟩ = some (.bool (sg dd1)) ∧ W'.cell? ⟨g7, 1, none⟩ = some (.slice A7 (dig (nu dd1)).length c7) ∧ W'.cell? ⟨g7, 2, none⟩ = some (.slice B7 (dig dd1.den).length d7))
          (exact held HX)
          (first
            | (go_at_call_of 22 (Value.slice A12 (dig (nu dd5)).length c12); refine (fcmp_h HX4 F12.fr F7.fr (by omega) (by omega)).mono ?_; rintro e wz ⟨rfl, hb⟩; replace HX := HX.ext hb; replace HE := HE.ext hb; replace EA := EA.ext hb; replace EB := EB.ext hb; replace F7 := F7.ext hb; replace EM := EM.ext hb; replace F12 := F12.ext hb; replace F13 := F13.ext hb; (try replace F15 := F15.ext hb); clear hb)
            | (go_at_call 23; refine (fadd_h H7 s1 F12.fr F13.fr (by omega) (by omega)).mono ?_; rintro e wz ⟨A15, c15, B15, d15, rfl, F15, hb⟩; replace HX := HX.ext hb; replace HE := HE.ext hb; replace EA := EA.ext hb; replace EB := EB.ext hb; replace F7 := F7.ext hb; replace EM := EM.ext hb; replace F12 := F12.ext hb; replace F13 := F13.ext hb; clear hb)
            | (go_at_call_of 22 (Value.slice A15 (dig (nu dd1)).length c15); refine (fcmp_h HX5 F15.fr F7.fr (by omega) (by omega)).mono ?_; rintro e wz ⟨rfl, hb⟩; replace HX := HX.ext hb; replace HE := HE.ext hb; replace EA := EA.ext hb; replace EB := EB.ext hb; replace F7 := F7.ext hb; replace EM := EM.ext hb; replace F12 := F12.ext hb; replace F13 := F13.ext hb; (try replace F15 := F15.ext hb); clear hb)
            | (go_at_call 20; refine (ftext_e HT2 F7 (by omega) HE.tab).mono ?_; rintro e wz ⟨rfl, hb⟩; replace HX := HX.ext hb; replace HE := HE.ext hb; replace EA := EA.ext hb; replace EB := EB.ext hb; replace F7 := F7.ext hb; replace EM := EM.ext hb; replace F12 := F12.ext hb; replace F13 := F13.ext hb; (try replace F15 := F15.ext hb); clear hb))
        all_goals (
          go_wp2
          go_ret
          exact ⟨by first | rfl | simp, HX.below⟩)
      · obtain ⟨_, rfl⟩ := HM.out.bad hk0
        have hk1 : (k != 0) = true := bne_iff_ne.2 hk0
        clear hk0
        have hc100 := HX.cell 10 0 rfl rfl
        have hc101 := HX.cell 10 1 rfl rfl
        have hc102 := HX.cell 10 2 rfl rfl
        have hc103 := HX.cell 10 3 rfl rfl
        try simp only [List.getElem_toArray, List.getElem_cons_zero, List.getElem_cons_succ] at hc100 hc101 hc102 hc103
        go_wp2
        go_ret
        exact ⟨by first | rfl | simp, HX.below⟩
set_option maxHeartbeats 1000000 in
set_option maxRecDepth 100000 in
theorem wholeHoards_any {ia fa ta ib fb tb ic fc tc : Int} {Aa Ab Ac : Option Addr} {ca cb cc : Nat} {la lb lc : List (Int × Int)} (w : World) (HE : Env w) (EA : Es w Aa la) (hla : la.length ≤ 9223372036854775807) (EB : Es w Ab lb) (hlb : lb.length ≤ 9223372036854775807) (EC : Es w Ac lc) (hlc : lc.length ≤ 9223372036854775807) :
    Calls Tryz.prog 3 #[.agg #[.int .i64 ia, .slice Aa la.length ca, .int .i64 fa, .int .i64 ta], .agg #[.int .i64 ib, .slice Ab lb.length cb, .int .i64 fb, .int .i64 tb], .agg #[.int .i64 ic, .slice Ac lc.length cc, .int .i64 fc, .int .i64 tc]] w (RetB w true) := by
  by_cases va : HV ia la fa ta
  · by_cases vb : HV ib lb fb tb
    · by_cases vc : HV ic lc fc tc
      · exact whole_ok w HE EA hla EB hlb EC hlc va vb vc
      · exact whole_c w HE EA hla EB hlb EC hlc va vb vc
    · exact whole_b w HE EA hla EB hlb EC hlc va vb
  · exact whole_a w HE EA hla EB hlb EC hlc va
end Go.Proofs.YteleohgalknkiaaGreatDoor
