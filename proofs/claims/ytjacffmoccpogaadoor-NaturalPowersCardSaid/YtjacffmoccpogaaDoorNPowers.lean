/- The statement NaturalPowers: its walk. -/
import Derived.Test.YtjacffmoccpogaaDoorNCom
namespace Go.Proofs.YtjacffmoccpogaaDoor
open Go.RowKit Go.Proofs Go

theorem pow_size (p : Nat) (k : Int) : (dig (powV p k)).length ≤ 445 := by
  unfold powV
  split
  · rename_i h; exact pow_len2 (N := k.toNat) (Nat.le_refl _) h.2.2
  · rw [dig_zero]; simp
theorem pow_fine {p : Nat} {k : Int} (h : powE p k = 0) : 0 ≤ k ∧ k ≤ 256 ∧ powV p k = p ^ k.toNat := by
  unfold powE at h
  by_cases h1 : k < 0 ∨ 256 < k
  · rw [if_pos h1] at h; cases h
  · rw [if_neg h1] at h
    by_cases h2 : 4000 < Lib.nDigits p * k.toNat
    · rw [if_pos h2] at h; cases h
    · exact ⟨by omega, by omega, by rw [powV, if_pos ⟨by omega, by omega, by omega⟩]⟩

set_option maxHeartbeats 400000 in
set_option maxRecDepth 100000 in
theorem npowers_big {A1 : Option Addr} {na ca : Nat} {x y : Int} (w : World) (hT : Tab w) (hna : na ≤ 9223372036854775807) (_ : -9223372036854775808 ≤ x) (_ : x ≤ 9223372036854775807) (_ : -9223372036854775808 ≤ y) (_ : y ≤ 9223372036854775807) (h1 : 3 < na) :
    Calls Tryd.prog 7 #[.agg #[.slice A1 na ca], .int .i64 x, .int .i64 y] w (RetB w true) := by
  go_enter Tryd.func7, Tryd.ntmps7
  go_wp2_with fail
  have HX := BL.one w #[.slice A1 na ca] 24
  replace hT := hT.ext HX.below
  refine (awake_h hT).mono ?_
  rintro e w1 ⟨rfl, hb⟩
  replace HX := HX.ext hb
  replace hT := hT.ext hb
  clear hb
  have hc0 := HX.cell 0 0 rfl rfl
  try simp only [List.getElem_toArray, List.getElem_cons_zero] at hc0
  go_wp2_with fail
  refine (awake_h hT).mono ?_
  rintro e w98 ⟨rfl, hb⟩
  replace HX := HX.ext hb
  go_wp2
  go_ret
  exact ⟨rfl, HX.below⟩

set_option maxHeartbeats 400000 in
set_option maxRecDepth 100000 in
theorem npowers_mx {A1 : Option Addr} {na ca : Nat} {x y : Int} (w : World) (hT : Tab w) (hna : na ≤ 9223372036854775807) (_ : -9223372036854775808 ≤ x) (_ : x ≤ 9223372036854775807) (_ : -9223372036854775808 ≤ y) (_ : y ≤ 9223372036854775807) (h1 : na ≤ 3) (h2 : 40 < x) (h3 : x ≤ 256) :
    Calls Tryd.prog 7 #[.agg #[.slice A1 na ca], .int .i64 x, .int .i64 y] w (RetB w true) := by
  go_enter Tryd.func7, Tryd.ntmps7
  go_wp2_with fail
  have HX := BL.one w #[.slice A1 na ca] 24
  replace hT := hT.ext HX.below
  refine (awake_h hT).mono ?_
  rintro e w1 ⟨rfl, hb⟩
  replace HX := HX.ext hb
  replace hT := hT.ext hb
  clear hb
  have hc0 := HX.cell 0 0 rfl rfl
  try simp only [List.getElem_toArray, List.getElem_cons_zero] at hc0
  go_wp2_with fail
  refine (awake_h hT).mono ?_
  rintro e w98 ⟨rfl, hb⟩
  replace HX := HX.ext hb
  go_wp2
  go_ret
  exact ⟨rfl, HX.below⟩

set_option maxHeartbeats 400000 in
set_option maxRecDepth 100000 in
theorem npowers_my0 {A1 : Option Addr} {na ca : Nat} {x y : Int} (w : World) (hT : Tab w) (hna : na ≤ 9223372036854775807) (b0 : -9223372036854775808 ≤ x) (b1 : x ≤ 9223372036854775807) (_ : -9223372036854775808 ≤ y) (_ : y ≤ 9223372036854775807) (h1 : na ≤ 3) (h2 : x ≤ 40) (h4 : 40 < y) (h5 : y ≤ 256) :
    Calls Tryd.prog 7 #[.agg #[.slice A1 na ca], .int .i64 x, .int .i64 y] w (RetB w true) := by
  go_enter Tryd.func7, Tryd.ntmps7
  go_wp2_with fail
  have HX := BL.one w #[.slice A1 na ca] 24
  replace hT := hT.ext HX.below
  refine (awake_h hT).mono ?_
  rintro e w1 ⟨rfl, hb⟩
  replace HX := HX.ext hb
  replace hT := hT.ext hb
  clear hb
  have hc0 := HX.cell 0 0 rfl rfl
  try simp only [List.getElem_toArray, List.getElem_cons_zero] at hc0
  go_wp2_with fail
  refine (awake_h hT).mono ?_
  rintro e w98 ⟨rfl, hb⟩
  replace HX := HX.ext hb
  go_wp2
  go_ret
  exact ⟨rfl, HX.below⟩

set_option maxHeartbeats 400000 in
set_option maxRecDepth 100000 in
theorem npowers_my1 {A1 : Option Addr} {na ca : Nat} {x y : Int} (w : World) (hT : Tab w) (hna : na ≤ 9223372036854775807) (b0 : -9223372036854775808 ≤ x) (b1 : x ≤ 9223372036854775807) (_ : -9223372036854775808 ≤ y) (_ : y ≤ 9223372036854775807) (h1 : na ≤ 3) (h2 : 256 < x) (h4 : 40 < y) (h5 : y ≤ 256) :
    Calls Tryd.prog 7 #[.agg #[.slice A1 na ca], .int .i64 x, .int .i64 y] w (RetB w true) := by
  go_enter Tryd.func7, Tryd.ntmps7
  go_wp2_with fail
  have HX := BL.one w #[.slice A1 na ca] 24
  replace hT := hT.ext HX.below
  refine (awake_h hT).mono ?_
  rintro e w1 ⟨rfl, hb⟩
  replace HX := HX.ext hb
  replace hT := hT.ext hb
  clear hb
  have hc0 := HX.cell 0 0 rfl rfl
  try simp only [List.getElem_toArray, List.getElem_cons_zero] at hc0
  go_wp2_with fail
  refine (awake_h hT).mono ?_
  rintro e w98 ⟨rfl, hb⟩
  replace HX := HX.ext hb
  go_wp2
  go_ret
  exact ⟨rfl, HX.below⟩

set_option maxHeartbeats 4000000 in
set_option maxRecDepth 100000 in
theorem npowers_ss_ok {A1 : Option Addr} {na ca : Nat} {a : Nat} {x y : Int} (w : World) (hT : Tab w) (Pa : Nr w A1 na ca a 12) (b0 : -9223372036854775808 ≤ x) (b1 : x ≤ 9223372036854775807) (b2 : -9223372036854775808 ≤ y) (b3 : y ≤ 9223372036854775807) (h1 : na ≤ 3) (h2 : x ≤ 40) (h4 : y ≤ 40) (hE : Hid (powE a x = 0 ∧ powE a y = 0)) :
    Calls Tryd.prog 7 #[.agg #[.slice A1 na ca], .int .i64 x, .int .i64 y] w (RetB w true) := by
  have za := Pa.len
  have ya := Pa.le
  obtain ⟨u, hu⟩ : ∃ u, powV a x = u := ⟨_, rfl⟩
  have zu : (dig u).length ≤ 500 := by rw [← hu]; exact Nat.le_trans (pow_size a x) (by omega)
  have Hu := Lib.hid hu
  obtain ⟨v, hv⟩ : ∃ v, powV a y = v := ⟨_, rfl⟩
  have zv : (dig v).length ≤ 500 := by rw [← hv]; exact Nat.le_trans (pow_size a y) (by omega)
  have Hv := Lib.hid hv
  have Ee := Lib.hid hE.out.1
  have Eg := Lib.hid hE.out.2
  obtain ⟨f1, f2, f3⟩ := pow_fine hE.out.1
  obtain ⟨f4, f5, f6⟩ := pow_fine hE.out.2
  obtain ⟨t, ht⟩ : ∃ t, powV a (x + y) = t := ⟨_, rfl⟩
  have zt : (dig t).length ≤ 500 := by rw [← ht]; exact Nat.le_trans (pow_size a (x + y)) (by omega)
  have Ht := Lib.hid ht
  obtain ⟨m, hm⟩ : ∃ m, u * v = m := ⟨_, rfl⟩
  have zm : (dig m).length ≤ 1100 := by rw [← hm]; exact Nat.le_trans (mul_len zu zv) (by omega)
  have Hm := Lib.hid hm
  obtain ⟨h, hh⟩ : ∃ h : Int, powE a (x + y) = h := ⟨_, rfl⟩
  have Hh := Lib.hid hh
  have hmt : Hid (h = 0 → m = t) := Lib.hid (fun e => by
    rw [e] at hh
    obtain ⟨_, _, f9⟩ := pow_fine hh
    rw [← hm, ← ht, f9, ← hu, ← hv, f3, f6, ← Nat.pow_add]
    congr 1; omega)
  clear hu hv ht hm hh f3 f6
  go_enter Tryd.func7, Tryd.ntmps7
  go_wp2_with fail
  have HX := BL.one w #[.slice A1 na ca] 24
  replace Pa := Pa.ext HX.below
  replace hT := hT.ext HX.below
  refine (awake_h hT).mono ?_
  rintro e w1 ⟨rfl, hb⟩
  replace HX := HX.ext hb
  replace hT := hT.ext hb
  replace Pa := Pa.ext hb
  clear hb
  have hc0 := HX.cell 0 0 rfl rfl
  try simp only [List.getElem_toArray, List.getElem_cons_zero] at hc0
  go_wp2_with fail
  refine (npow_h Hu Ee zu Pa (by omega) hT).mono ?_
  rintro e w2 ⟨A2, c2, rfl, F2, hb⟩
  clear hc0
  replace HX := HX.ext hb
  replace hT := hT.ext hb
  replace Pa := Pa.ext hb
  clear hb
  go_upto_region 4 with fail
  have hb := below_alloc w2 (.cells #[.slice A2 (dig u).length c2] 24)
  replace HX := HX.new #[.slice A2 (dig u).length c2] 24
  simp only [List.cons_append, List.nil_append] at HX
  replace Pa := Pa.ext hb
  replace F2 := F2.ext hb
  replace hT := hT.ext hb
  clear hb
  generalize w2.alloc (.cells #[.slice A2 (dig u).length c2] 24) = W4 at *
  generalize w2.heap.size = g4 at *
  have hc0 := HX.cell 0 0 rfl rfl
  try simp only [List.getElem_toArray, List.getElem_cons_zero] at hc0
  go_wp2_with fail
  refine (rpow_h Hu Ee zu Pa (by omega)).mono ?_
  rintro e w3 ⟨A3, c3, rfl, F3, hb⟩
  clear hc0
  replace HX := HX.ext hb
  replace hT := hT.ext hb
  replace Pa := Pa.ext hb
  replace F2 := F2.ext hb
  clear hb
  go_upto_region 5 with fail
  have hb := below_alloc w3 (.cells #[.slice A3 (dig u).length c3] 24)
  replace HX := HX.new #[.slice A3 (dig u).length c3] 24
  simp only [List.cons_append, List.nil_append] at HX
  replace Pa := Pa.ext hb
  replace F2 := F2.ext hb
  replace F3 := F3.ext hb
  replace hT := hT.ext hb
  clear hb
  generalize w3.alloc (.cells #[.slice A3 (dig u).length c3] 24) = W5 at *
  generalize w3.heap.size = g5 at *
  have hc0 := HX.cell 0 0 rfl rfl
  try simp only [List.getElem_toArray, List.getElem_cons_zero] at hc0
  go_wp2_with fail
  refine (npow_h Hv Eg zv Pa (by omega) hT).mono ?_
  rintro e w4 ⟨A4, c4, rfl, F4, hb⟩
  clear hc0
  replace HX := HX.ext hb
  replace hT := hT.ext hb
  replace Pa := Pa.ext hb
  replace F2 := F2.ext hb
  replace F3 := F3.ext hb
  clear hb
  go_upto_region 6 with fail
  have hb := below_alloc w4 (.cells #[.slice A4 (dig v).length c4] 24)
  replace HX := HX.new #[.slice A4 (dig v).length c4] 24
  simp only [List.cons_append, List.nil_append] at HX
  replace Pa := Pa.ext hb
  replace F2 := F2.ext hb
  replace F3 := F3.ext hb
  replace F4 := F4.ext hb
  replace hT := hT.ext hb
  clear hb
  generalize w4.alloc (.cells #[.slice A4 (dig v).length c4] 24) = W6 at *
  generalize w4.heap.size = g6 at *
  have hc1 := HX.cell 1 0 rfl rfl
  have hc2 := HX.cell 2 0 rfl rfl
  try simp only [List.getElem_toArray, List.getElem_cons_zero] at hc1 hc2
  go_wp2_with fail
  refine (same_h (Lib.hid (decide_eq_true rfl)) F2 F3 (by omega) (by omega)).mono ?_
  rintro e w5 ⟨rfl, hb⟩
  replace HX := HX.ext hb
  replace hT := hT.ext hb
  replace Pa := Pa.ext hb
  replace F2 := F2.ext hb
  replace F3 := F3.ext hb
  replace F4 := F4.ext hb
  clear hb
  clear hc1 hc2
  have hc0 := HX.cell 0 0 rfl rfl
  try simp only [List.getElem_toArray, List.getElem_cons_zero] at hc0
  go_wp2_with fail
  refine (npow_h Ht Hh zt Pa (by omega) hT).mono ?_
  rintro e w6 ⟨A6, c6, rfl, F6, hb⟩
  clear hc0
  replace HX := HX.ext hb
  replace hT := hT.ext hb
  replace Pa := Pa.ext hb
  replace F2 := F2.ext hb
  replace F3 := F3.ext hb
  replace F4 := F4.ext hb
  clear hb
  go_upto_region 9 with fail
  have hb := below_alloc w6 (.cells #[.slice A6 (dig t).length c6] 24)
  replace HX := HX.new #[.slice A6 (dig t).length c6] 24
  simp only [List.cons_append, List.nil_append] at HX
  replace Pa := Pa.ext hb
  replace F2 := F2.ext hb
  replace F3 := F3.ext hb
  replace F4 := F4.ext hb
  replace F6 := F6.ext hb
  replace hT := hT.ext hb
  clear hb
  generalize w6.alloc (.cells #[.slice A6 (dig t).length c6] 24) = W7 at *
  generalize w6.heap.size = g7 at *
  by_cases hc : h = 0
  · have Hsame : Hid (decide (t = m) = true) := Lib.hid (decide_eq_true (hmt.out hc).symm)
    clear hmt
    subst hc
    have held : ∀ {W' : World}, BL w W' [(w.heap.size, #[.slice A1 na ca], 24), (g4, #[.slice A2 (dig u).length c2], 24), (g5, #[.slice A3 (dig u).length c3], 24), (g6, #[.slice A4 (dig v).length c4], 24), (g7, #[.slice A6 (dig t).length c6], 24)] → W'.cell? ⟨w.heap.size, 0, none⟩ = some (.slice A1 na ca) ∧ W'.cell? ⟨g4, 0, none⟩ = some (.slice A2 (dig u).length c2) ∧ W'.cell? ⟨g5, 0, none⟩ = some (.slice A3 (dig u).length c3) ∧ W'.cell? ⟨g6, 0, none⟩ = some (.slice A4 (dig v).length c4) ∧ W'.cell? ⟨g7, 0, none⟩ = some (.slice A6 (dig t).length c6) := fun h => ⟨h.cell 0 0 rfl rfl, h.cell 1 0 rfl rfl, h.cell 2 0 rfl rfl, h.cell 3 0 rfl rfl, h.cell 4 0 rfl rfl⟩
    replace HX := HX.ext (drew_ext _)
    replace hT := hT.ext (drew_ext _)
    replace Pa := Pa.ext (drew_ext _)
    replace F2 := F2.ext (drew_ext _)
    replace F3 := F3.ext (drew_ext _)
    replace F4 := F4.ext (drew_ext _)
    replace F6 := F6.ext (drew_ext _)
    go_region_held3 (fun W' => W'.cell? ⟨w.heap.size, 0, none⟩ = some (.slice A1 na ca) ∧ W'.cell? ⟨g4, 0, none⟩ = some (.slice A2 (dig u).length c2) ∧ W'.cell? ⟨g5, 0, none⟩ = some (.slice A3 (dig u).length c3) ∧ W'.cell? ⟨g6, 0, none⟩ = some (.slice A4 (dig v).length c4) ∧ W'.cell? ⟨g7, 0, none⟩ = some (.slice A6 (dig t).length c6))
      (exact held HX)
      (first
        | (go_at_call_of 31 (Value.agg #[.slice A2 (dig u).length c2]); go_at_call_of 31 (Value.agg #[.slice A4 (dig v).length c4]); refine (nmul_h Hm zm F2.nr F4.nr (by omega) (by omega)).mono ?_; rintro e w7 ⟨A7, c7, rfl, F7, hb⟩; replace HX := HX.ext hb; replace hT := hT.ext hb; replace Pa := Pa.ext hb; replace F2 := F2.ext hb; replace F3 := F3.ext hb; replace F4 := F4.ext hb; replace F6 := F6.ext hb; clear hb)
        | (go_at_call_of 18 (Value.agg #[.slice A6 (dig t).length c6]); go_at_call_of 18 (Value.agg #[.slice A7 (dig m).length c7]); refine (same_h Hsame F6 F7 (by omega) (by omega)).mono ?_; rintro e w8 ⟨rfl, hb⟩; replace HX := HX.ext hb; replace hT := hT.ext hb; replace Pa := Pa.ext hb; replace F2 := F2.ext hb; replace F3 := F3.ext hb; replace F4 := F4.ext hb; replace F6 := F6.ext hb; replace F7 := F7.ext hb; clear hb))
    go_wp2
    go_ret
    exact ⟨by first | rfl | simp, HX.below⟩
  · have hc1 : (h != 0) = true := by simp [hc]
    go_quiet (fail)
    replace HX := HX.ext (drew_below (Below.refl _ _) nq)
    go_wp2
    go_ret
    exact ⟨by first | rfl | simp, HX.below⟩

set_option maxHeartbeats 4000000 in
set_option maxRecDepth 100000 in
theorem npowers_ss_bad {A1 : Option Addr} {na ca : Nat} {a : Nat} {x y : Int} (w : World) (hT : Tab w) (Pa : Nr w A1 na ca a 12) (b0 : -9223372036854775808 ≤ x) (b1 : x ≤ 9223372036854775807) (b2 : -9223372036854775808 ≤ y) (b3 : y ≤ 9223372036854775807) (h1 : na ≤ 3) (h2 : x ≤ 40) (h4 : y ≤ 40) (hE : Hid (¬ (powE a x = 0 ∧ powE a y = 0))) :
    Calls Tryd.prog 7 #[.agg #[.slice A1 na ca], .int .i64 x, .int .i64 y] w (RetB w true) := by
  have za := Pa.len
  have ya := Pa.le
  obtain ⟨u, hu⟩ : ∃ u, powV a x = u := ⟨_, rfl⟩
  have zu : (dig u).length ≤ 500 := by rw [← hu]; exact Nat.le_trans (pow_size a x) (by omega)
  have Hu := Lib.hid hu
  obtain ⟨v, hv⟩ : ∃ v, powV a y = v := ⟨_, rfl⟩
  have zv : (dig v).length ≤ 500 := by rw [← hv]; exact Nat.le_trans (pow_size a y) (by omega)
  have Hv := Lib.hid hv
  obtain ⟨e1, he1⟩ : ∃ e : Int, powE a x = e := ⟨_, rfl⟩
  obtain ⟨e2, he2⟩ : ∃ e : Int, powE a y = e := ⟨_, rfl⟩
  have Ee := Lib.hid he1
  have Eg := Lib.hid he2
  rw [he1, he2] at hE
  have hcase : ((e1 != 0) = true) ∨ ((e1 != 0) = false ∧ (e2 != 0) = true) := by
    by_cases q1 : e1 = 0
    · right; exact ⟨by simp [q1], by simp; exact fun q2 => hE.out ⟨q1, q2⟩⟩
    · left; simp [q1]
  clear hu hv he1 he2
  go_enter Tryd.func7, Tryd.ntmps7
  go_wp2_with fail
  have HX := BL.one w #[.slice A1 na ca] 24
  replace Pa := Pa.ext HX.below
  replace hT := hT.ext HX.below
  refine (awake_h hT).mono ?_
  rintro e w1 ⟨rfl, hb⟩
  replace HX := HX.ext hb
  replace hT := hT.ext hb
  replace Pa := Pa.ext hb
  clear hb
  have hc0 := HX.cell 0 0 rfl rfl
  try simp only [List.getElem_toArray, List.getElem_cons_zero] at hc0
  go_wp2_with fail
  refine (npow_h Hu Ee zu Pa (by omega) hT).mono ?_
  rintro e w2 ⟨A2, c2, rfl, F2, hb⟩
  clear hc0
  replace HX := HX.ext hb
  replace hT := hT.ext hb
  replace Pa := Pa.ext hb
  clear hb
  go_upto_region 4 with fail
  have hb := below_alloc w2 (.cells #[.slice A2 (dig u).length c2] 24)
  replace HX := HX.new #[.slice A2 (dig u).length c2] 24
  simp only [List.cons_append, List.nil_append] at HX
  replace Pa := Pa.ext hb
  replace F2 := F2.ext hb
  replace hT := hT.ext hb
  clear hb
  generalize w2.alloc (.cells #[.slice A2 (dig u).length c2] 24) = W4 at *
  generalize w2.heap.size = g4 at *
  have hc0 := HX.cell 0 0 rfl rfl
  try simp only [List.getElem_toArray, List.getElem_cons_zero] at hc0
  go_wp2_with fail
  refine (rpow_h Hu Ee zu Pa (by omega)).mono ?_
  rintro e w3 ⟨A3, c3, rfl, F3, hb⟩
  clear hc0
  replace HX := HX.ext hb
  replace hT := hT.ext hb
  replace Pa := Pa.ext hb
  replace F2 := F2.ext hb
  clear hb
  go_upto_region 5 with fail
  have hb := below_alloc w3 (.cells #[.slice A3 (dig u).length c3] 24)
  replace HX := HX.new #[.slice A3 (dig u).length c3] 24
  simp only [List.cons_append, List.nil_append] at HX
  replace Pa := Pa.ext hb
  replace F2 := F2.ext hb
  replace F3 := F3.ext hb
  replace hT := hT.ext hb
  clear hb
  generalize w3.alloc (.cells #[.slice A3 (dig u).length c3] 24) = W5 at *
  generalize w3.heap.size = g5 at *
  have hc0 := HX.cell 0 0 rfl rfl
  try simp only [List.getElem_toArray, List.getElem_cons_zero] at hc0
  go_wp2_with fail
  refine (npow_h Hv Eg zv Pa (by omega) hT).mono ?_
  rintro e w4 ⟨A4, c4, rfl, F4, hb⟩
  clear hc0
  replace HX := HX.ext hb
  replace hT := hT.ext hb
  replace Pa := Pa.ext hb
  replace F2 := F2.ext hb
  replace F3 := F3.ext hb
  clear hb
  go_upto_region 6 with fail
  have hb := below_alloc w4 (.cells #[.slice A4 (dig v).length c4] 24)
  replace HX := HX.new #[.slice A4 (dig v).length c4] 24
  simp only [List.cons_append, List.nil_append] at HX
  replace Pa := Pa.ext hb
  replace F2 := F2.ext hb
  replace F3 := F3.ext hb
  replace F4 := F4.ext hb
  replace hT := hT.ext hb
  clear hb
  generalize w4.alloc (.cells #[.slice A4 (dig v).length c4] 24) = W6 at *
  generalize w4.heap.size = g6 at *
  have hc1 := HX.cell 1 0 rfl rfl
  have hc2 := HX.cell 2 0 rfl rfl
  try simp only [List.getElem_toArray, List.getElem_cons_zero] at hc1 hc2
  go_wp2_with fail
  refine (same_h (Lib.hid (decide_eq_true rfl)) F2 F3 (by omega) (by omega)).mono ?_
  rintro e w5 ⟨rfl, hb⟩
  replace HX := HX.ext hb
  replace hT := hT.ext hb
  replace Pa := Pa.ext hb
  replace F2 := F2.ext hb
  replace F3 := F3.ext hb
  replace F4 := F4.ext hb
  clear hb
  clear hc1 hc2
  rcases hcase with c1 | ⟨c1, c2⟩
  · have hc1 := HX.cell 1 0 rfl rfl
    have hc2 := HX.cell 2 0 rfl rfl
    try simp only [List.getElem_toArray, List.getElem_cons_zero] at hc1 hc2
    go_wp2_with fail
    refine (same_h (Lib.hid (decide_eq_true rfl)) F2 F3 (by omega) (by omega)).mono ?_
    rintro e w6 ⟨rfl, hb⟩
    replace HX := HX.ext hb
    replace hT := hT.ext hb
    replace Pa := Pa.ext hb
    replace F2 := F2.ext hb
    replace F3 := F3.ext hb
    replace F4 := F4.ext hb
    clear hb
    clear hc1 hc2
    go_wp2
    go_ret
    exact ⟨by first | rfl | simp, HX.below⟩
  · have hc1 := HX.cell 1 0 rfl rfl
    have hc2 := HX.cell 2 0 rfl rfl
    try simp only [List.getElem_toArray, List.getElem_cons_zero] at hc1 hc2
    go_wp2_with fail
    refine (same_h (Lib.hid (decide_eq_true rfl)) F2 F3 (by omega) (by omega)).mono ?_
    rintro e w6 ⟨rfl, hb⟩
    replace HX := HX.ext hb
    replace hT := hT.ext hb
    replace Pa := Pa.ext hb
    replace F2 := F2.ext hb
    replace F3 := F3.ext hb
    replace F4 := F4.ext hb
    clear hb
    clear hc1 hc2
    go_wp2
    go_ret
    exact ⟨by first | rfl | simp, HX.below⟩

set_option maxHeartbeats 4000000 in
set_option maxRecDepth 100000 in
theorem npowers_sl_bad {A1 : Option Addr} {na ca : Nat} {a : Nat} {x y : Int} (w : World) (hT : Tab w) (Pa : Nr w A1 na ca a 12) (b0 : -9223372036854775808 ≤ x) (b1 : x ≤ 9223372036854775807) (b2 : -9223372036854775808 ≤ y) (b3 : y ≤ 9223372036854775807) (h1 : na ≤ 3) (h2 : x ≤ 40) (h4 : 256 < y) (hE : Hid (¬ (powE a x = 0 ∧ powE a y = 0))) :
    Calls Tryd.prog 7 #[.agg #[.slice A1 na ca], .int .i64 x, .int .i64 y] w (RetB w true) := by
  have za := Pa.len
  have ya := Pa.le
  obtain ⟨u, hu⟩ : ∃ u, powV a x = u := ⟨_, rfl⟩
  have zu : (dig u).length ≤ 500 := by rw [← hu]; exact Nat.le_trans (pow_size a x) (by omega)
  have Hu := Lib.hid hu
  obtain ⟨v, hv⟩ : ∃ v, powV a y = v := ⟨_, rfl⟩
  have zv : (dig v).length ≤ 500 := by rw [← hv]; exact Nat.le_trans (pow_size a y) (by omega)
  have Hv := Lib.hid hv
  obtain ⟨e1, he1⟩ : ∃ e : Int, powE a x = e := ⟨_, rfl⟩
  obtain ⟨e2, he2⟩ : ∃ e : Int, powE a y = e := ⟨_, rfl⟩
  have Ee := Lib.hid he1
  have Eg := Lib.hid he2
  rw [he1, he2] at hE
  have hcase : ((e1 != 0) = true) ∨ ((e1 != 0) = false ∧ (e2 != 0) = true) := by
    by_cases q1 : e1 = 0
    · right; exact ⟨by simp [q1], by simp; exact fun q2 => hE.out ⟨q1, q2⟩⟩
    · left; simp [q1]
  clear hu hv he1 he2
  go_enter Tryd.func7, Tryd.ntmps7
  go_wp2_with fail
  have HX := BL.one w #[.slice A1 na ca] 24
  replace Pa := Pa.ext HX.below
  replace hT := hT.ext HX.below
  refine (awake_h hT).mono ?_
  rintro e w1 ⟨rfl, hb⟩
  replace HX := HX.ext hb
  replace hT := hT.ext hb
  replace Pa := Pa.ext hb
  clear hb
  have hc0 := HX.cell 0 0 rfl rfl
  try simp only [List.getElem_toArray, List.getElem_cons_zero] at hc0
  go_wp2_with fail
  refine (npow_h Hu Ee zu Pa (by omega) hT).mono ?_
  rintro e w2 ⟨A2, c2, rfl, F2, hb⟩
  clear hc0
  replace HX := HX.ext hb
  replace hT := hT.ext hb
  replace Pa := Pa.ext hb
  clear hb
  go_upto_region 4 with fail
  have hb := below_alloc w2 (.cells #[.slice A2 (dig u).length c2] 24)
  replace HX := HX.new #[.slice A2 (dig u).length c2] 24
  simp only [List.cons_append, List.nil_append] at HX
  replace Pa := Pa.ext hb
  replace F2 := F2.ext hb
  replace hT := hT.ext hb
  clear hb
  generalize w2.alloc (.cells #[.slice A2 (dig u).length c2] 24) = W4 at *
  generalize w2.heap.size = g4 at *
  have hc0 := HX.cell 0 0 rfl rfl
  try simp only [List.getElem_toArray, List.getElem_cons_zero] at hc0
  go_wp2_with fail
  refine (rpow_h Hu Ee zu Pa (by omega)).mono ?_
  rintro e w3 ⟨A3, c3, rfl, F3, hb⟩
  clear hc0
  replace HX := HX.ext hb
  replace hT := hT.ext hb
  replace Pa := Pa.ext hb
  replace F2 := F2.ext hb
  clear hb
  go_upto_region 5 with fail
  have hb := below_alloc w3 (.cells #[.slice A3 (dig u).length c3] 24)
  replace HX := HX.new #[.slice A3 (dig u).length c3] 24
  simp only [List.cons_append, List.nil_append] at HX
  replace Pa := Pa.ext hb
  replace F2 := F2.ext hb
  replace F3 := F3.ext hb
  replace hT := hT.ext hb
  clear hb
  generalize w3.alloc (.cells #[.slice A3 (dig u).length c3] 24) = W5 at *
  generalize w3.heap.size = g5 at *
  have hc0 := HX.cell 0 0 rfl rfl
  try simp only [List.getElem_toArray, List.getElem_cons_zero] at hc0
  go_wp2_with fail
  refine (npow_h Hv Eg zv Pa (by omega) hT).mono ?_
  rintro e w4 ⟨A4, c4, rfl, F4, hb⟩
  clear hc0
  replace HX := HX.ext hb
  replace hT := hT.ext hb
  replace Pa := Pa.ext hb
  replace F2 := F2.ext hb
  replace F3 := F3.ext hb
  clear hb
  go_upto_region 6 with fail
  have hb := below_alloc w4 (.cells #[.slice A4 (dig v).length c4] 24)
  replace HX := HX.new #[.slice A4 (dig v).length c4] 24
  simp only [List.cons_append, List.nil_append] at HX
  replace Pa := Pa.ext hb
  replace F2 := F2.ext hb
  replace F3 := F3.ext hb
  replace F4 := F4.ext hb
  replace hT := hT.ext hb
  clear hb
  generalize w4.alloc (.cells #[.slice A4 (dig v).length c4] 24) = W6 at *
  generalize w4.heap.size = g6 at *
  have hc1 := HX.cell 1 0 rfl rfl
  have hc2 := HX.cell 2 0 rfl rfl
  try simp only [List.getElem_toArray, List.getElem_cons_zero] at hc1 hc2
  go_wp2_with fail
  refine (same_h (Lib.hid (decide_eq_true rfl)) F2 F3 (by omega) (by omega)).mono ?_
  rintro e w5 ⟨rfl, hb⟩
  replace HX := HX.ext hb
  replace hT := hT.ext hb
  replace Pa := Pa.ext hb
  replace F2 := F2.ext hb
  replace F3 := F3.ext hb
  replace F4 := F4.ext hb
  clear hb
  clear hc1 hc2
  rcases hcase with c1 | ⟨c1, c2⟩
  · have hc1 := HX.cell 1 0 rfl rfl
    have hc2 := HX.cell 2 0 rfl rfl
    try simp only [List.getElem_toArray, List.getElem_cons_zero] at hc1 hc2
    go_wp2_with fail
    refine (same_h (Lib.hid (decide_eq_true rfl)) F2 F3 (by omega) (by omega)).mono ?_
    rintro e w6 ⟨rfl, hb⟩
    replace HX := HX.ext hb
    replace hT := hT.ext hb
    replace Pa := Pa.ext hb
    replace F2 := F2.ext hb
    replace F3 := F3.ext hb
    replace F4 := F4.ext hb
    clear hb
    clear hc1 hc2
    go_wp2
    go_ret
    exact ⟨by first | rfl | simp, HX.below⟩
  · have hc1 := HX.cell 1 0 rfl rfl
    have hc2 := HX.cell 2 0 rfl rfl
    try simp only [List.getElem_toArray, List.getElem_cons_zero] at hc1 hc2
    go_wp2_with fail
    refine (same_h (Lib.hid (decide_eq_true rfl)) F2 F3 (by omega) (by omega)).mono ?_
    rintro e w6 ⟨rfl, hb⟩
    replace HX := HX.ext hb
    replace hT := hT.ext hb
    replace Pa := Pa.ext hb
    replace F2 := F2.ext hb
    replace F3 := F3.ext hb
    replace F4 := F4.ext hb
    clear hb
    clear hc1 hc2
    go_wp2
    go_ret
    exact ⟨by first | rfl | simp, HX.below⟩

set_option maxHeartbeats 4000000 in
set_option maxRecDepth 100000 in
theorem npowers_ls_bad {A1 : Option Addr} {na ca : Nat} {a : Nat} {x y : Int} (w : World) (hT : Tab w) (Pa : Nr w A1 na ca a 12) (b0 : -9223372036854775808 ≤ x) (b1 : x ≤ 9223372036854775807) (b2 : -9223372036854775808 ≤ y) (b3 : y ≤ 9223372036854775807) (h1 : na ≤ 3) (h2 : 256 < x) (h4 : y ≤ 40) (hE : Hid (¬ (powE a x = 0 ∧ powE a y = 0))) :
    Calls Tryd.prog 7 #[.agg #[.slice A1 na ca], .int .i64 x, .int .i64 y] w (RetB w true) := by
  have za := Pa.len
  have ya := Pa.le
  obtain ⟨u, hu⟩ : ∃ u, powV a x = u := ⟨_, rfl⟩
  have zu : (dig u).length ≤ 500 := by rw [← hu]; exact Nat.le_trans (pow_size a x) (by omega)
  have Hu := Lib.hid hu
  obtain ⟨v, hv⟩ : ∃ v, powV a y = v := ⟨_, rfl⟩
  have zv : (dig v).length ≤ 500 := by rw [← hv]; exact Nat.le_trans (pow_size a y) (by omega)
  have Hv := Lib.hid hv
  obtain ⟨e1, he1⟩ : ∃ e : Int, powE a x = e := ⟨_, rfl⟩
  obtain ⟨e2, he2⟩ : ∃ e : Int, powE a y = e := ⟨_, rfl⟩
  have Ee := Lib.hid he1
  have Eg := Lib.hid he2
  rw [he1, he2] at hE
  have hcase : ((e1 != 0) = true) ∨ ((e1 != 0) = false ∧ (e2 != 0) = true) := by
    by_cases q1 : e1 = 0
    · right; exact ⟨by simp [q1], by simp; exact fun q2 => hE.out ⟨q1, q2⟩⟩
    · left; simp [q1]
  clear hu hv he1 he2
  go_enter Tryd.func7, Tryd.ntmps7
  go_wp2_with fail
  have HX := BL.one w #[.slice A1 na ca] 24
  replace Pa := Pa.ext HX.below
  replace hT := hT.ext HX.below
  refine (awake_h hT).mono ?_
  rintro e w1 ⟨rfl, hb⟩
  replace HX := HX.ext hb
  replace hT := hT.ext hb
  replace Pa := Pa.ext hb
  clear hb
  have hc0 := HX.cell 0 0 rfl rfl
  try simp only [List.getElem_toArray, List.getElem_cons_zero] at hc0
  go_wp2_with fail
  refine (npow_h Hu Ee zu Pa (by omega) hT).mono ?_
  rintro e w2 ⟨A2, c2, rfl, F2, hb⟩
  clear hc0
  replace HX := HX.ext hb
  replace hT := hT.ext hb
  replace Pa := Pa.ext hb
  clear hb
  go_upto_region 4 with fail
  have hb := below_alloc w2 (.cells #[.slice A2 (dig u).length c2] 24)
  replace HX := HX.new #[.slice A2 (dig u).length c2] 24
  simp only [List.cons_append, List.nil_append] at HX
  replace Pa := Pa.ext hb
  replace F2 := F2.ext hb
  replace hT := hT.ext hb
  clear hb
  generalize w2.alloc (.cells #[.slice A2 (dig u).length c2] 24) = W4 at *
  generalize w2.heap.size = g4 at *
  have hc0 := HX.cell 0 0 rfl rfl
  try simp only [List.getElem_toArray, List.getElem_cons_zero] at hc0
  go_wp2_with fail
  refine (rpow_h Hu Ee zu Pa (by omega)).mono ?_
  rintro e w3 ⟨A3, c3, rfl, F3, hb⟩
  clear hc0
  replace HX := HX.ext hb
  replace hT := hT.ext hb
  replace Pa := Pa.ext hb
  replace F2 := F2.ext hb
  clear hb
  go_upto_region 5 with fail
  have hb := below_alloc w3 (.cells #[.slice A3 (dig u).length c3] 24)
  replace HX := HX.new #[.slice A3 (dig u).length c3] 24
  simp only [List.cons_append, List.nil_append] at HX
  replace Pa := Pa.ext hb
  replace F2 := F2.ext hb
  replace F3 := F3.ext hb
  replace hT := hT.ext hb
  clear hb
  generalize w3.alloc (.cells #[.slice A3 (dig u).length c3] 24) = W5 at *
  generalize w3.heap.size = g5 at *
  have hc0 := HX.cell 0 0 rfl rfl
  try simp only [List.getElem_toArray, List.getElem_cons_zero] at hc0
  go_wp2_with fail
  refine (npow_h Hv Eg zv Pa (by omega) hT).mono ?_
  rintro e w4 ⟨A4, c4, rfl, F4, hb⟩
  clear hc0
  replace HX := HX.ext hb
  replace hT := hT.ext hb
  replace Pa := Pa.ext hb
  replace F2 := F2.ext hb
  replace F3 := F3.ext hb
  clear hb
  go_upto_region 6 with fail
  have hb := below_alloc w4 (.cells #[.slice A4 (dig v).length c4] 24)
  replace HX := HX.new #[.slice A4 (dig v).length c4] 24
  simp only [List.cons_append, List.nil_append] at HX
  replace Pa := Pa.ext hb
  replace F2 := F2.ext hb
  replace F3 := F3.ext hb
  replace F4 := F4.ext hb
  replace hT := hT.ext hb
  clear hb
  generalize w4.alloc (.cells #[.slice A4 (dig v).length c4] 24) = W6 at *
  generalize w4.heap.size = g6 at *
  have hc1 := HX.cell 1 0 rfl rfl
  have hc2 := HX.cell 2 0 rfl rfl
  try simp only [List.getElem_toArray, List.getElem_cons_zero] at hc1 hc2
  go_wp2_with fail
  refine (same_h (Lib.hid (decide_eq_true rfl)) F2 F3 (by omega) (by omega)).mono ?_
  rintro e w5 ⟨rfl, hb⟩
  replace HX := HX.ext hb
  replace hT := hT.ext hb
  replace Pa := Pa.ext hb
  replace F2 := F2.ext hb
  replace F3 := F3.ext hb
  replace F4 := F4.ext hb
  clear hb
  clear hc1 hc2
  rcases hcase with c1 | ⟨c1, c2⟩
  · have hc1 := HX.cell 1 0 rfl rfl
    have hc2 := HX.cell 2 0 rfl rfl
    try simp only [List.getElem_toArray, List.getElem_cons_zero] at hc1 hc2
    go_wp2_with fail
    refine (same_h (Lib.hid (decide_eq_true rfl)) F2 F3 (by omega) (by omega)).mono ?_
    rintro e w6 ⟨rfl, hb⟩
    replace HX := HX.ext hb
    replace hT := hT.ext hb
    replace Pa := Pa.ext hb
    replace F2 := F2.ext hb
    replace F3 := F3.ext hb
    replace F4 := F4.ext hb
    clear hb
    clear hc1 hc2
    go_wp2
    go_ret
    exact ⟨by first | rfl | simp, HX.below⟩
  · have hc1 := HX.cell 1 0 rfl rfl
    have hc2 := HX.cell 2 0 rfl rfl
    try simp only [List.getElem_toArray, List.getElem_cons_zero] at hc1 hc2
    go_wp2_with fail
    refine (same_h (Lib.hid (decide_eq_true rfl)) F2 F3 (by omega) (by omega)).mono ?_
    rintro e w6 ⟨rfl, hb⟩
    replace HX := HX.ext hb
    replace hT := hT.ext hb
    replace Pa := Pa.ext hb
    replace F2 := F2.ext hb
    replace F3 := F3.ext hb
    replace F4 := F4.ext hb
    clear hb
    clear hc1 hc2
    go_wp2
    go_ret
    exact ⟨by first | rfl | simp, HX.below⟩

set_option maxHeartbeats 4000000 in
set_option maxRecDepth 100000 in
theorem npowers_ll_bad {A1 : Option Addr} {na ca : Nat} {a : Nat} {x y : Int} (w : World) (hT : Tab w) (Pa : Nr w A1 na ca a 12) (b0 : -9223372036854775808 ≤ x) (b1 : x ≤ 9223372036854775807) (b2 : -9223372036854775808 ≤ y) (b3 : y ≤ 9223372036854775807) (h1 : na ≤ 3) (h2 : 256 < x) (h4 : 256 < y) (hE : Hid (¬ (powE a x = 0 ∧ powE a y = 0))) :
    Calls Tryd.prog 7 #[.agg #[.slice A1 na ca], .int .i64 x, .int .i64 y] w (RetB w true) := by
  have za := Pa.len
  have ya := Pa.le
  obtain ⟨u, hu⟩ : ∃ u, powV a x = u := ⟨_, rfl⟩
  have zu : (dig u).length ≤ 500 := by rw [← hu]; exact Nat.le_trans (pow_size a x) (by omega)
  have Hu := Lib.hid hu
  obtain ⟨v, hv⟩ : ∃ v, powV a y = v := ⟨_, rfl⟩
  have zv : (dig v).length ≤ 500 := by rw [← hv]; exact Nat.le_trans (pow_size a y) (by omega)
  have Hv := Lib.hid hv
  obtain ⟨e1, he1⟩ : ∃ e : Int, powE a x = e := ⟨_, rfl⟩
  obtain ⟨e2, he2⟩ : ∃ e : Int, powE a y = e := ⟨_, rfl⟩
  have Ee := Lib.hid he1
  have Eg := Lib.hid he2
  rw [he1, he2] at hE
  have hcase : ((e1 != 0) = true) ∨ ((e1 != 0) = false ∧ (e2 != 0) = true) := by
    by_cases q1 : e1 = 0
    · right; exact ⟨by simp [q1], by simp; exact fun q2 => hE.out ⟨q1, q2⟩⟩
    · left; simp [q1]
  clear hu hv he1 he2
  go_enter Tryd.func7, Tryd.ntmps7
  go_wp2_with fail
  have HX := BL.one w #[.slice A1 na ca] 24
  replace Pa := Pa.ext HX.below
  replace hT := hT.ext HX.below
  refine (awake_h hT).mono ?_
  rintro e w1 ⟨rfl, hb⟩
  replace HX := HX.ext hb
  replace hT := hT.ext hb
  replace Pa := Pa.ext hb
  clear hb
  have hc0 := HX.cell 0 0 rfl rfl
  try simp only [List.getElem_toArray, List.getElem_cons_zero] at hc0
  go_wp2_with fail
  refine (npow_h Hu Ee zu Pa (by omega) hT).mono ?_
  rintro e w2 ⟨A2, c2, rfl, F2, hb⟩
  clear hc0
  replace HX := HX.ext hb
  replace hT := hT.ext hb
  replace Pa := Pa.ext hb
  clear hb
  go_upto_region 4 with fail
  have hb := below_alloc w2 (.cells #[.slice A2 (dig u).length c2] 24)
  replace HX := HX.new #[.slice A2 (dig u).length c2] 24
  simp only [List.cons_append, List.nil_append] at HX
  replace Pa := Pa.ext hb
  replace F2 := F2.ext hb
  replace hT := hT.ext hb
  clear hb
  generalize w2.alloc (.cells #[.slice A2 (dig u).length c2] 24) = W4 at *
  generalize w2.heap.size = g4 at *
  have hc0 := HX.cell 0 0 rfl rfl
  try simp only [List.getElem_toArray, List.getElem_cons_zero] at hc0
  go_wp2_with fail
  refine (rpow_h Hu Ee zu Pa (by omega)).mono ?_
  rintro e w3 ⟨A3, c3, rfl, F3, hb⟩
  clear hc0
  replace HX := HX.ext hb
  replace hT := hT.ext hb
  replace Pa := Pa.ext hb
  replace F2 := F2.ext hb
  clear hb
  go_upto_region 5 with fail
  have hb := below_alloc w3 (.cells #[.slice A3 (dig u).length c3] 24)
  replace HX := HX.new #[.slice A3 (dig u).length c3] 24
  simp only [List.cons_append, List.nil_append] at HX
  replace Pa := Pa.ext hb
  replace F2 := F2.ext hb
  replace F3 := F3.ext hb
  replace hT := hT.ext hb
  clear hb
  generalize w3.alloc (.cells #[.slice A3 (dig u).length c3] 24) = W5 at *
  generalize w3.heap.size = g5 at *
  have hc0 := HX.cell 0 0 rfl rfl
  try simp only [List.getElem_toArray, List.getElem_cons_zero] at hc0
  go_wp2_with fail
  refine (npow_h Hv Eg zv Pa (by omega) hT).mono ?_
  rintro e w4 ⟨A4, c4, rfl, F4, hb⟩
  clear hc0
  replace HX := HX.ext hb
  replace hT := hT.ext hb
  replace Pa := Pa.ext hb
  replace F2 := F2.ext hb
  replace F3 := F3.ext hb
  clear hb
  go_upto_region 6 with fail
  have hb := below_alloc w4 (.cells #[.slice A4 (dig v).length c4] 24)
  replace HX := HX.new #[.slice A4 (dig v).length c4] 24
  simp only [List.cons_append, List.nil_append] at HX
  replace Pa := Pa.ext hb
  replace F2 := F2.ext hb
  replace F3 := F3.ext hb
  replace F4 := F4.ext hb
  replace hT := hT.ext hb
  clear hb
  generalize w4.alloc (.cells #[.slice A4 (dig v).length c4] 24) = W6 at *
  generalize w4.heap.size = g6 at *
  have hc1 := HX.cell 1 0 rfl rfl
  have hc2 := HX.cell 2 0 rfl rfl
  try simp only [List.getElem_toArray, List.getElem_cons_zero] at hc1 hc2
  go_wp2_with fail
  refine (same_h (Lib.hid (decide_eq_true rfl)) F2 F3 (by omega) (by omega)).mono ?_
  rintro e w5 ⟨rfl, hb⟩
  replace HX := HX.ext hb
  replace hT := hT.ext hb
  replace Pa := Pa.ext hb
  replace F2 := F2.ext hb
  replace F3 := F3.ext hb
  replace F4 := F4.ext hb
  clear hb
  clear hc1 hc2
  rcases hcase with c1 | ⟨c1, c2⟩
  · have hc1 := HX.cell 1 0 rfl rfl
    have hc2 := HX.cell 2 0 rfl rfl
    try simp only [List.getElem_toArray, List.getElem_cons_zero] at hc1 hc2
    go_wp2_with fail
    refine (same_h (Lib.hid (decide_eq_true rfl)) F2 F3 (by omega) (by omega)).mono ?_
    rintro e w6 ⟨rfl, hb⟩
    replace HX := HX.ext hb
    replace hT := hT.ext hb
    replace Pa := Pa.ext hb
    replace F2 := F2.ext hb
    replace F3 := F3.ext hb
    replace F4 := F4.ext hb
    clear hb
    clear hc1 hc2
    go_wp2
    go_ret
    exact ⟨by first | rfl | simp, HX.below⟩
  · have hc1 := HX.cell 1 0 rfl rfl
    have hc2 := HX.cell 2 0 rfl rfl
    try simp only [List.getElem_toArray, List.getElem_cons_zero] at hc1 hc2
    go_wp2_with fail
    refine (same_h (Lib.hid (decide_eq_true rfl)) F2 F3 (by omega) (by omega)).mono ?_
    rintro e w6 ⟨rfl, hb⟩
    replace HX := HX.ext hb
    replace hT := hT.ext hb
    replace Pa := Pa.ext hb
    replace F2 := F2.ext hb
    replace F3 := F3.ext hb
    replace F4 := F4.ext hb
    clear hb
    clear hc1 hc2
    go_wp2
    go_ret
    exact ⟨by first | rfl | simp, HX.below⟩

theorem npowers_any {A1 : Option Addr} {na ca : Nat} {x y : Int} (w : World) (hT : Tab w) (b0 : -9223372036854775808 ≤ x) (b1 : x ≤ 9223372036854775807) (b2 : -9223372036854775808 ≤ y) (b3 : y ≤ 9223372036854775807) (Pa : NArg w A1 na ca) :
    Calls Tryd.prog 7 #[.agg #[.slice A1 na ca], .int .i64 x, .int .i64 y] w (RetB w true) := by
  by_cases h1 : na ≤ 3
  · obtain ⟨a, Qa⟩ := Pa.nr (k := 12) (by omega)
    by_cases hE : powE a x = 0 ∧ powE a y = 0
    all_goals (
      by_cases hx : x ≤ 40
      · by_cases hy : y ≤ 40
        · first
            | exact npowers_ss_ok w hT Qa b0 b1 b2 b3 h1 hx hy (Lib.hid hE)
            | exact npowers_ss_bad w hT Qa b0 b1 b2 b3 h1 hx hy (Lib.hid hE)
        · by_cases hy2 : y ≤ 256
          · exact npowers_my0 w hT Pa.hn b0 b1 b2 b3 h1 hx (by omega) hy2
          · exact npowers_sl_bad w hT Qa b0 b1 b2 b3 h1 hx (by omega) (Lib.hid (fun h => by have := pow_fine h.2; omega))
      · by_cases hx2 : x ≤ 256
        · exact npowers_mx w hT Pa.hn b0 b1 b2 b3 h1 (by omega) hx2
        · by_cases hy : y ≤ 40
          · exact npowers_ls_bad w hT Qa b0 b1 b2 b3 h1 (by omega) hy (Lib.hid (fun h => by have := pow_fine h.1; omega))
          · by_cases hy2 : y ≤ 256
            · exact npowers_my1 w hT Pa.hn b0 b1 b2 b3 h1 (by omega) (by omega) hy2
            · exact npowers_ll_bad w hT Qa b0 b1 b2 b3 h1 (by omega) (by omega) (Lib.hid (fun h => by have := pow_fine h.1; omega)))
  · exact npowers_big w hT Pa.hn b0 b1 b2 b3 (by omega)
end Go.Proofs.YtjacffmoccpogaaDoor
