/- The statement NaturalDivides: its walk. -/
import Derived.Test.YtjacffmoccpogaaDoorNCom
namespace Go.Proofs.YtjacffmoccpogaaDoor
open Go.RowKit Go.Proofs Go

set_option maxHeartbeats 400000 in
set_option maxRecDepth 100000 in
theorem ndiv_few0 {A1 : Option Addr} {na ca : Nat} {B1 : Option Addr} {nb cb : Nat} (w : World) (hT : Tab w) (hna : na ≤ 9223372036854775807) (hnb : nb ≤ 9223372036854775807) (hf0 : Hid (fewN na nb = false)) :
    Calls Tryd.prog 11 #[.agg #[.slice A1 na ca], .agg #[.slice B1 nb cb]] w (RetB w true) := by
  go_enter Tryd.func11, Tryd.ntmps11
  go_wp2_with fail
  have HX := BL.two w #[.slice A1 na ca] #[.slice B1 nb cb] 24 24
  replace hT := hT.ext HX.below
  refine (awake_h hT).mono ?_
  rintro e w1 ⟨rfl, hb⟩
  replace HX := HX.ext hb
  replace hT := hT.ext hb
  clear hb
  have hc0 := HX.cell 0 0 rfl rfl
  have hc1 := HX.cell 1 0 rfl rfl
  try simp only [List.getElem_toArray, List.getElem_cons_zero] at hc0 hc1
  go_wp2_with fail
  refine (rfew_h hf0 (by omega) (by omega)).mono ?_
  rintro e w2 ⟨rfl, hb⟩
  clear hc0 hc1
  replace HX := HX.ext hb
  replace hT := hT.ext hb
  clear hb
  go_wp2_with fail
  refine (awake_h hT).mono ?_
  rintro e w98 ⟨rfl, hb⟩
  replace HX := HX.ext hb
  go_wp2
  go_ret
  exact ⟨rfl, HX.below⟩

set_option maxHeartbeats 2000000 in
set_option maxRecDepth 100000 in
theorem ndiv_zero {A1 : Option Addr} {na ca : Nat} {B1 : Option Addr} {nb cb : Nat} {a b : Nat} (w : World) (hT : Tab w) (Pa : Nr w A1 na ca a 12) (Pb : Nr w B1 nb cb b 12) (hf0 : Hid (fewN na nb = true)) (hb0 : Hid (b = 0)) :
    Calls Tryd.prog 11 #[.agg #[.slice A1 na ca], .agg #[.slice B1 nb cb]] w (RetB w true) := by
  have za := Pa.len
  have ya := Pa.le
  have zb := Pb.len
  have yb := Pb.le
  obtain ⟨y0, hy0⟩ : ∃ y : Nat, 0 = y := ⟨_, rfl⟩
  have zy0 : (dig y0).length ≤ 60 := by rw [← hy0, dig_zero]; simp
  have Hy0 := Lib.hid hy0
  have Hc : Hid (cmpI b y0 = 0) := Lib.hid (by rw [← hy0, hb0.out]; rfl)
  clear hy0
  go_enter Tryd.func11, Tryd.ntmps11
  go_wp2_with fail
  have HX := BL.two w #[.slice A1 na ca] #[.slice B1 nb cb] 24 24
  replace Pa := Pa.ext HX.below
  replace Pb := Pb.ext HX.below
  replace hT := hT.ext HX.below
  refine (awake_h hT).mono ?_
  rintro e w1 ⟨rfl, hb⟩
  replace HX := HX.ext hb
  replace hT := hT.ext hb
  replace Pa := Pa.ext hb
  replace Pb := Pb.ext hb
  clear hb
  have hc0 := HX.cell 0 0 rfl rfl
  have hc1 := HX.cell 1 0 rfl rfl
  try simp only [List.getElem_toArray, List.getElem_cons_zero] at hc0 hc1
  go_wp2_with fail
  refine (rfew_h hf0 (by omega) (by omega)).mono ?_
  rintro e w2 ⟨rfl, hb⟩
  clear hc0 hc1
  replace HX := HX.ext hb
  replace hT := hT.ext hb
  replace Pa := Pa.ext hb
  replace Pb := Pb.ext hb
  clear hb
  clear hf0
  have hc0 := HX.cell 0 0 rfl rfl
  have hc1 := HX.cell 1 0 rfl rfl
  try simp only [List.getElem_toArray, List.getElem_cons_zero] at hc0 hc1
  go_wp2_with fail
  refine (ndivmodz_h hb0 Pa Pb (by omega) (by omega)).mono ?_
  rintro e w3 ⟨A3, c3, B3, d3, rfl, F3, E3, hb⟩
  clear hc0 hc1
  replace HX := HX.ext hb
  replace hT := hT.ext hb
  replace Pa := Pa.ext hb
  replace Pb := Pb.ext hb
  clear hb
  go_upto_region 4 with fail
  have hb := below_alloc w3 (.cells #[.slice A3 (dig 0).length c3] 24)
  replace HX := HX.new #[.slice A3 (dig 0).length c3] 24
  simp only [List.cons_append, List.nil_append] at HX
  replace Pa := Pa.ext hb
  replace Pb := Pb.ext hb
  replace F3 := F3.ext hb
  replace E3 := E3.ext hb
  replace hT := hT.ext hb
  clear hb
  have hb := below_alloc (w3.alloc (.cells #[.slice A3 (dig 0).length c3] 24)) (.cells #[.slice B3 (dig 0).length d3] 24)
  replace HX := HX.new #[.slice B3 (dig 0).length d3] 24
  simp only [List.cons_append, List.nil_append] at HX
  replace Pa := Pa.ext hb
  replace Pb := Pb.ext hb
  replace F3 := F3.ext hb
  replace E3 := E3.ext hb
  replace hT := hT.ext hb
  clear hb
  rw [show (w3.alloc (.cells #[.slice A3 (dig 0).length c3] 24)).heap.size = w3.heap.size + 1 from by simp] at HX
  generalize ((w3.alloc (.cells #[.slice A3 (dig 0).length c3] 24)).alloc (.cells #[.slice B3 (dig 0).length d3] 24)) = W4 at *
  generalize w3.heap.size = g4 at *
  clear F3
  clear E3
  have held : ∀ {W' : World}, BL w W' [(w.heap.size, #[.slice A1 na ca], 24), (w.heap.size + 1, #[.slice B1 nb cb], 24), (g4, #[.slice A3 (dig 0).length c3], 24), (g4 + 1, #[.slice B3 (dig 0).length d3], 24)] → W'.cell? ⟨w.heap.size, 0, none⟩ = some (.slice A1 na ca) ∧ W'.cell? ⟨w.heap.size + 1, 0, none⟩ = some (.slice B1 nb cb) ∧ W'.cell? ⟨g4, 0, none⟩ = some (.slice A3 (dig 0).length c3) ∧ W'.cell? ⟨g4 + 1, 0, none⟩ = some (.slice B3 (dig 0).length d3) := fun h => ⟨h.cell 0 0 rfl rfl, h.cell 1 0 rfl rfl, h.cell 2 0 rfl rfl, h.cell 3 0 rfl rfl⟩
  replace HX := HX.ext (drew_ext _)
  replace hT := hT.ext (drew_ext _)
  replace Pa := Pa.ext (drew_ext _)
  replace Pb := Pb.ext (drew_ext _)
  go_region_held3 (fun W' => W'.cell? ⟨w.heap.size, 0, none⟩ = some (.slice A1 na ca) ∧ W'.cell? ⟨w.heap.size + 1, 0, none⟩ = some (.slice B1 nb cb) ∧ W'.cell? ⟨g4, 0, none⟩ = some (.slice A3 (dig 0).length c3) ∧ W'.cell? ⟨g4 + 1, 0, none⟩ = some (.slice B3 (dig 0).length d3))
    (exact held HX)
    (first
      | (go_at_call 25; refine (nof_h Hy0 zy0 (by omega)).mono ?_; rintro e w4 ⟨A4, c4, rfl, F4, hb⟩; replace HX := HX.ext hb; replace hT := hT.ext hb; replace Pa := Pa.ext hb; replace Pb := Pb.ext hb; clear hb)
      | (go_at_call_of 24 (Value.agg #[.slice B1 nb cb]); go_at_call_of 24 (Value.agg #[.slice A4 (dig y0).length c4]); refine (ncmp_h Hc Pb F4.nr (by omega) (by omega)).mono ?_; rintro e w5 ⟨rfl, hb⟩; replace HX := HX.ext hb; replace hT := hT.ext hb; replace Pa := Pa.ext hb; replace Pb := Pb.ext hb; replace F4 := F4.ext hb; clear hb))
  have hl0 : (dig 0).length = 0 := by rw [dig_zero]; rfl
  have hc2 := HX.cell 2 0 rfl rfl
  have hc3 := HX.cell 3 0 rfl rfl
  try simp only [List.getElem_toArray, List.getElem_cons_zero] at hc2 hc3
  go_wp2
  go_ret
  exact ⟨by first | rfl | simp, HX.below⟩

set_option maxHeartbeats 4000000 in
set_option maxRecDepth 100000 in
theorem ndiv_pos {A1 : Option Addr} {na ca : Nat} {B1 : Option Addr} {nb cb : Nat} {a b : Nat} (w : World) (hT : Tab w) (Pa : Nr w A1 na ca a 12) (Pb : Nr w B1 nb cb b 12) (hf0 : Hid (fewN na nb = true)) (hb0 : Hid (0 < b)) :
    Calls Tryd.prog 11 #[.agg #[.slice A1 na ca], .agg #[.slice B1 nb cb]] w (RetB w true) := by
  have za := Pa.len
  have ya := Pa.le
  have zb := Pb.len
  have yb := Pb.le
  obtain ⟨y0, hy0⟩ : ∃ y : Nat, 0 = y := ⟨_, rfl⟩
  have zy0 : (dig y0).length ≤ 60 := by rw [← hy0, dig_zero]; simp
  have Hy0 := Lib.hid hy0
  have Hc : Hid (cmpI b y0 = 1) := Lib.hid (cmpI_gt (by have := hb0.out; omega))
  obtain ⟨q, hq⟩ : ∃ q, a / b = q := ⟨_, rfl⟩
  have zq : (dig q).length ≤ 60 := by rw [← hq]; exact Nat.le_trans (dig_mono (Nat.div_le_self a b)) (by omega)
  have Hq := Lib.hid hq
  obtain ⟨r, hr⟩ : ∃ r, a % b = r := ⟨_, rfl⟩
  have zr : (dig r).length ≤ 60 := by rw [← hr]; exact Nat.le_trans (dig_mono (Nat.mod_le a b)) (by omega)
  have Hr := Lib.hid hr
  obtain ⟨qb, hqb⟩ : ∃ qb, q * b = qb := ⟨_, rfl⟩
  have zqb : (dig qb).length ≤ 60 := by rw [← hqb]; exact Nat.le_trans (dig_mono (show q * b ≤ a by rw [← hq]; exact Nat.div_mul_le_self a b)) (by omega)
  have Hqb := Lib.hid hqb
  have zaa : (dig a).length ≤ 60 := Nat.le_trans za (by omega)
  have Hs : Hid (qb + r = a) := Lib.hid (by rw [← hqb, ← hq, ← hr]; exact Nat.div_add_mod' a b)
  have Hca : Hid (cmpI a a = 0) := Lib.hid (cmp_self a)
  have Hcr : Hid (cmpI r b = -1) := Lib.hid (cmpI_lt (by rw [← hr]; exact Nat.mod_lt _ hb0.out))
  obtain ⟨q2, hq2⟩ : ∃ q2, q = q2 := ⟨_, rfl⟩
  obtain ⟨r2, hr2⟩ : ∃ r2, r = r2 := ⟨_, rfl⟩
  have zq2 : (dig q2).length ≤ 60 := hq2 ▸ zq
  have zr2 : (dig r2).length ≤ 60 := hr2 ▸ zr
  have Hq2 := Lib.hid hq2
  have Hr2 := Lib.hid hr2
  have Hqs : Hid (decide (q = q2) = true) := Lib.hid (decide_eq_true hq2)
  have Hrs : Hid (decide (r = r2) = true) := Lib.hid (decide_eq_true hr2)
  clear hy0 hq hr hqb hq2 hr2
  go_enter Tryd.func11, Tryd.ntmps11
  go_wp2_with fail
  have HX := BL.two w #[.slice A1 na ca] #[.slice B1 nb cb] 24 24
  replace Pa := Pa.ext HX.below
  replace Pb := Pb.ext HX.below
  replace hT := hT.ext HX.below
  refine (awake_h hT).mono ?_
  rintro e w1 ⟨rfl, hb⟩
  replace HX := HX.ext hb
  replace hT := hT.ext hb
  replace Pa := Pa.ext hb
  replace Pb := Pb.ext hb
  clear hb
  have hc0 := HX.cell 0 0 rfl rfl
  have hc1 := HX.cell 1 0 rfl rfl
  try simp only [List.getElem_toArray, List.getElem_cons_zero] at hc0 hc1
  go_wp2_with fail
  refine (rfew_h hf0 (by omega) (by omega)).mono ?_
  rintro e w2 ⟨rfl, hb⟩
  clear hc0 hc1
  replace HX := HX.ext hb
  replace hT := hT.ext hb
  replace Pa := Pa.ext hb
  replace Pb := Pb.ext hb
  clear hb
  clear hf0
  have hc0 := HX.cell 0 0 rfl rfl
  have hc1 := HX.cell 1 0 rfl rfl
  try simp only [List.getElem_toArray, List.getElem_cons_zero] at hc0 hc1
  go_wp2_with fail
  refine (ndivmod_h Hq Hr hb0 zq zr Pa Pb (by omega) (by omega)).mono ?_
  rintro e w3 ⟨A3, c3, B3, d3, rfl, F3, E3, hb⟩
  clear hc0 hc1
  replace HX := HX.ext hb
  replace hT := hT.ext hb
  replace Pa := Pa.ext hb
  replace Pb := Pb.ext hb
  clear hb
  go_upto_region 4 with fail
  have hb := below_alloc w3 (.cells #[.slice A3 (dig q).length c3] 24)
  replace HX := HX.new #[.slice A3 (dig q).length c3] 24
  simp only [List.cons_append, List.nil_append] at HX
  replace Pa := Pa.ext hb
  replace Pb := Pb.ext hb
  replace F3 := F3.ext hb
  replace E3 := E3.ext hb
  replace hT := hT.ext hb
  clear hb
  have hb := below_alloc (w3.alloc (.cells #[.slice A3 (dig q).length c3] 24)) (.cells #[.slice B3 (dig r).length d3] 24)
  replace HX := HX.new #[.slice B3 (dig r).length d3] 24
  simp only [List.cons_append, List.nil_append] at HX
  replace Pa := Pa.ext hb
  replace Pb := Pb.ext hb
  replace F3 := F3.ext hb
  replace E3 := E3.ext hb
  replace hT := hT.ext hb
  clear hb
  rw [show (w3.alloc (.cells #[.slice A3 (dig q).length c3] 24)).heap.size = w3.heap.size + 1 from by simp] at HX
  generalize ((w3.alloc (.cells #[.slice A3 (dig q).length c3] 24)).alloc (.cells #[.slice B3 (dig r).length d3] 24)) = W4 at *
  generalize w3.heap.size = g4 at *
  have held : ∀ {W' : World}, BL w W' [(w.heap.size, #[.slice A1 na ca], 24), (w.heap.size + 1, #[.slice B1 nb cb], 24), (g4, #[.slice A3 (dig q).length c3], 24), (g4 + 1, #[.slice B3 (dig r).length d3], 24)] → W'.cell? ⟨w.heap.size, 0, none⟩ = some (.slice A1 na ca) ∧ W'.cell? ⟨w.heap.size + 1, 0, none⟩ = some (.slice B1 nb cb) ∧ W'.cell? ⟨g4, 0, none⟩ = some (.slice A3 (dig q).length c3) ∧ W'.cell? ⟨g4 + 1, 0, none⟩ = some (.slice B3 (dig r).length d3) := fun h => ⟨h.cell 0 0 rfl rfl, h.cell 1 0 rfl rfl, h.cell 2 0 rfl rfl, h.cell 3 0 rfl rfl⟩
  replace HX := HX.ext (drew_ext _)
  replace hT := hT.ext (drew_ext _)
  replace Pa := Pa.ext (drew_ext _)
  replace Pb := Pb.ext (drew_ext _)
  replace F3 := F3.ext (drew_ext _)
  replace E3 := E3.ext (drew_ext _)
  go_region_held3 (fun W' => W'.cell? ⟨w.heap.size, 0, none⟩ = some (.slice A1 na ca) ∧ W'.cell? ⟨w.heap.size + 1, 0, none⟩ = some (.slice B1 nb cb) ∧ W'.cell? ⟨g4, 0, none⟩ = some (.slice A3 (dig q).length c3) ∧ W'.cell? ⟨g4 + 1, 0, none⟩ = some (.slice B3 (dig r).length d3))
    (exact held HX)
    (first
      | (go_at_call 25; refine (nof_h Hy0 zy0 (by omega)).mono ?_; rintro e w4 ⟨A4, c4, rfl, F4, hb⟩; replace HX := HX.ext hb; replace hT := hT.ext hb; replace Pa := Pa.ext hb; replace Pb := Pb.ext hb; replace F3 := F3.ext hb; replace E3 := E3.ext hb; clear hb)
      | (go_at_call_of 24 (Value.agg #[.slice B1 nb cb]); go_at_call_of 24 (Value.agg #[.slice A4 (dig y0).length c4]); refine (ncmp_h Hc Pb F4.nr (by omega) (by omega)).mono ?_; rintro e w5 ⟨rfl, hb⟩; replace HX := HX.ext hb; replace hT := hT.ext hb; replace Pa := Pa.ext hb; replace Pb := Pb.ext hb; replace F3 := F3.ext hb; replace E3 := E3.ext hb; replace F4 := F4.ext hb; clear hb))
  clear held
  go_wp2_with fail
  have za0 := za
  replace za := zaa
  have held : ∀ {W' : World}, BL w W' [(w.heap.size, #[.slice A1 na ca], 24), (w.heap.size + 1, #[.slice B1 nb cb], 24), (g4, #[.slice A3 (dig q).length c3], 24), (g4 + 1, #[.slice B3 (dig r).length d3], 24)] → W'.cell? ⟨w.heap.size, 0, none⟩ = some (.slice A1 na ca) ∧ W'.cell? ⟨w.heap.size + 1, 0, none⟩ = some (.slice B1 nb cb) ∧ W'.cell? ⟨g4, 0, none⟩ = some (.slice A3 (dig q).length c3) ∧ W'.cell? ⟨g4 + 1, 0, none⟩ = some (.slice B3 (dig r).length d3) := fun h => ⟨h.cell 0 0 rfl rfl, h.cell 1 0 rfl rfl, h.cell 2 0 rfl rfl, h.cell 3 0 rfl rfl⟩
  replace HX := HX.ext (drew_ext _)
  replace hT := hT.ext (drew_ext _)
  replace Pa := Pa.ext (drew_ext _)
  replace Pb := Pb.ext (drew_ext _)
  replace F3 := F3.ext (drew_ext _)
  replace E3 := E3.ext (drew_ext _)
  replace F4 := F4.ext (drew_ext _)
  go_region_held3 (fun W' => W'.cell? ⟨w.heap.size, 0, none⟩ = some (.slice A1 na ca) ∧ W'.cell? ⟨w.heap.size + 1, 0, none⟩ = some (.slice B1 nb cb) ∧ W'.cell? ⟨g4, 0, none⟩ = some (.slice A3 (dig q).length c3) ∧ W'.cell? ⟨g4 + 1, 0, none⟩ = some (.slice B3 (dig r).length d3))
    (exact held HX)
    (first
      | (go_at_call_of 31 (Value.agg #[.slice A3 (dig q).length c3]); go_at_call_of 31 (Value.agg #[.slice B1 nb cb]); refine (nmul_h Hqb zqb F3.nr Pb (by omega) (by omega)).mono ?_; rintro e w6 ⟨A6, c6, rfl, F6, hb⟩; replace HX := HX.ext hb; replace hT := hT.ext hb; replace Pa := Pa.ext hb; replace Pb := Pb.ext hb; replace F3 := F3.ext hb; replace E3 := E3.ext hb; replace F4 := F4.ext hb; clear hb)
      | (go_at_call_of 34 (Value.agg #[.slice A6 (dig qb).length c6]); go_at_call_of 34 (Value.agg #[.slice B3 (dig r).length d3]); refine (nadd_h Hs za F6.nr E3.nr (by omega) (by omega)).mono ?_; rintro e w7 ⟨A7, c7, rfl, F7, hb⟩; replace HX := HX.ext hb; replace hT := hT.ext hb; replace Pa := Pa.ext hb; replace Pb := Pb.ext hb; replace F3 := F3.ext hb; replace E3 := E3.ext hb; replace F4 := F4.ext hb; replace F6 := F6.ext hb; clear hb)
      | (go_at_call_of 24 (Value.agg #[.slice A7 (dig a).length c7]); go_at_call_of 24 (Value.agg #[.slice A1 na ca]); refine (ncmp_h Hca F7.nr Pa (by omega) (by omega)).mono ?_; rintro e w8 ⟨rfl, hb⟩; replace HX := HX.ext hb; replace hT := hT.ext hb; replace Pa := Pa.ext hb; replace Pb := Pb.ext hb; replace F3 := F3.ext hb; replace E3 := E3.ext hb; replace F4 := F4.ext hb; replace F6 := F6.ext hb; replace F7 := F7.ext hb; clear hb)
      | (go_at_call_of 24 (Value.agg #[.slice B3 (dig r).length d3]); go_at_call_of 24 (Value.agg #[.slice B1 nb cb]); refine (ncmp_h Hcr E3.nr Pb (by omega) (by omega)).mono ?_; rintro e w9 ⟨rfl, hb⟩; replace HX := HX.ext hb; replace hT := hT.ext hb; replace Pa := Pa.ext hb; replace Pb := Pb.ext hb; replace F3 := F3.ext hb; replace E3 := E3.ext hb; replace F4 := F4.ext hb; replace F6 := F6.ext hb; replace F7 := F7.ext hb; clear hb)
      | (go_at_call_of 19 (Value.agg #[.slice A3 (dig q).length c3]); refine (rnorm_h Hq2 zq2 F3.nr (by omega)).mono ?_; rintro e w10 ⟨A10, c10, rfl, F10, hb⟩; replace HX := HX.ext hb; replace hT := hT.ext hb; replace Pa := Pa.ext hb; replace Pb := Pb.ext hb; replace F3 := F3.ext hb; replace E3 := E3.ext hb; replace F4 := F4.ext hb; replace F6 := F6.ext hb; replace F7 := F7.ext hb; clear hb)
      | (go_at_call_of 18 (Value.agg #[.slice A3 (dig q).length c3]); go_at_call_of 18 (Value.agg #[.slice A10 (dig q2).length c10]); refine (same_h Hqs F3 F10 (by omega) (by omega)).mono ?_; rintro e w11 ⟨rfl, hb⟩; replace HX := HX.ext hb; replace hT := hT.ext hb; replace Pa := Pa.ext hb; replace Pb := Pb.ext hb; replace F3 := F3.ext hb; replace E3 := E3.ext hb; replace F4 := F4.ext hb; replace F6 := F6.ext hb; replace F7 := F7.ext hb; replace F10 := F10.ext hb; clear hb)
      | (go_at_call_of 19 (Value.agg #[.slice B3 (dig r).length d3]); refine (rnorm_h Hr2 zr2 E3.nr (by omega)).mono ?_; rintro e w12 ⟨A12, c12, rfl, F12, hb⟩; replace HX := HX.ext hb; replace hT := hT.ext hb; replace Pa := Pa.ext hb; replace Pb := Pb.ext hb; replace F3 := F3.ext hb; replace E3 := E3.ext hb; replace F4 := F4.ext hb; replace F6 := F6.ext hb; replace F7 := F7.ext hb; replace F10 := F10.ext hb; clear hb)
      | (go_at_call_of 18 (Value.agg #[.slice B3 (dig r).length d3]); go_at_call_of 18 (Value.agg #[.slice A12 (dig r2).length c12]); refine (same_h Hrs E3 F12 (by omega) (by omega)).mono ?_; rintro e w13 ⟨rfl, hb⟩; replace HX := HX.ext hb; replace hT := hT.ext hb; replace Pa := Pa.ext hb; replace Pb := Pb.ext hb; replace F3 := F3.ext hb; replace E3 := E3.ext hb; replace F4 := F4.ext hb; replace F6 := F6.ext hb; replace F7 := F7.ext hb; replace F10 := F10.ext hb; replace F12 := F12.ext hb; clear hb))
  go_wp2
  go_ret
  exact ⟨by first | rfl | simp, HX.below⟩

theorem ndiv_any {A1 : Option Addr} {na ca : Nat} {B1 : Option Addr} {nb cb : Nat} (w : World) (hT : Tab w) (Pa : NArg w A1 na ca) (Pb : NArg w B1 nb cb) :
    Calls Tryd.prog 11 #[.agg #[.slice A1 na ca], .agg #[.slice B1 nb cb]] w (RetB w true) := by
  cases hf0 : fewN na nb
  · exact ndiv_few0 w hT Pa.hn Pb.hn (Lib.hid hf0)
  · have b0 := fewN_true hf0
    obtain ⟨a, Qa⟩ := Pa.nr (k := 12) (by omega)
    obtain ⟨b, Qb⟩ := Pb.nr (k := 12) (by omega)
    rcases Nat.eq_zero_or_pos b with hb0 | hb0
    · exact ndiv_zero w hT Qa Qb (Lib.hid hf0) (Lib.hid hb0)
    · exact ndiv_pos w hT Qa Qb (Lib.hid hf0) (Lib.hid hb0)
end Go.Proofs.YtjacffmoccpogaaDoor
