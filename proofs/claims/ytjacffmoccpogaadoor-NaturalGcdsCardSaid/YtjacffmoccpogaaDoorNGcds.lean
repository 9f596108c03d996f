/- The statement NaturalGcds: its walk. -/
import Derived.Test.YtjacffmoccpogaaDoorNCom
namespace Go.Proofs.YtjacffmoccpogaaDoor
open Go.RowKit Go.Proofs Go

set_option maxHeartbeats 400000 in
set_option maxRecDepth 100000 in
theorem ngcd_big0 {A1 : Option Addr} {na ca : Nat} {B1 : Option Addr} {nb cb : Nat} (w : World) (hT : Tab w) (hna : na ≤ 9223372036854775807) (_ : nb ≤ 9223372036854775807) (h1 : 4 < na) :
    Calls Tryd.prog 6 #[.agg #[.slice A1 na ca], .agg #[.slice B1 nb cb]] w (RetB w true) := by
  go_enter Tryd.func6, Tryd.ntmps6
  go_wp2_with fail
  have HX := BL.two w #[.slice A1 na ca] #[.slice B1 nb cb] 24 24
  replace hT := hT.ext HX.below
  refine (awake_h hT).mono ?_
  rintro e w1 ⟨rfl, hb⟩
  replace HX := HX.ext hb
  replace hT := hT.ext hb
  clear hb
  have hc0 := HX.cell 0 0 rfl rfl
  have hc1 := HX.cell 1 0 rfl rfl
  try simp only [List.getElem_toArray, List.getElem_cons_zero] at hc0 hc1
  go_wp2_with fail
  refine (awake_h hT).mono ?_
  rintro e w98 ⟨rfl, hb⟩
  replace HX := HX.ext hb
  go_wp2
  go_ret
  exact ⟨rfl, HX.below⟩

set_option maxHeartbeats 400000 in
set_option maxRecDepth 100000 in
theorem ngcd_big1 {A1 : Option Addr} {na ca : Nat} {B1 : Option Addr} {nb cb : Nat} (w : World) (hT : Tab w) (hna : na ≤ 9223372036854775807) (hnb : nb ≤ 9223372036854775807) (h1 : na ≤ 4) (h2 : 4 < nb) :
    Calls Tryd.prog 6 #[.agg #[.slice A1 na ca], .agg #[.slice B1 nb cb]] w (RetB w true) := by
  go_enter Tryd.func6, Tryd.ntmps6
  go_wp2_with fail
  have HX := BL.two w #[.slice A1 na ca] #[.slice B1 nb cb] 24 24
  replace hT := hT.ext HX.below
  refine (awake_h hT).mono ?_
  rintro e w1 ⟨rfl, hb⟩
  replace HX := HX.ext hb
  replace hT := hT.ext hb
  clear hb
  have hc0 := HX.cell 0 0 rfl rfl
  have hc1 := HX.cell 1 0 rfl rfl
  try simp only [List.getElem_toArray, List.getElem_cons_zero] at hc0 hc1
  go_wp2_with fail
  refine (awake_h hT).mono ?_
  rintro e w98 ⟨rfl, hb⟩
  replace HX := HX.ext hb
  go_wp2
  go_ret
  exact ⟨rfl, HX.below⟩

set_option maxHeartbeats 4000000 in
set_option maxRecDepth 100000 in
theorem ngcd_zero {A1 : Option Addr} {na ca : Nat} {B1 : Option Addr} {nb cb : Nat} {a b : Nat} (w : World) (hT : Tab w) (Pa : Nr w A1 na ca a 12) (Pb : Nr w B1 nb cb b 12) (h1 : na ≤ 4) (h2 : nb ≤ 4) (hg0 : Hid (a = 0 ∧ b = 0)) :
    Calls Tryd.prog 6 #[.agg #[.slice A1 na ca], .agg #[.slice B1 nb cb]] w (RetB w true) := by
  have za := Pa.len
  have ya := Pa.le
  have zb := Pb.len
  have yb := Pb.le
  obtain ⟨u, hu⟩ : ∃ u, Nat.gcd a b = u := ⟨_, rfl⟩
  have zu : (dig u).length ≤ 60 := by rw [← hu]; exact Nat.le_trans (gcd_len za zb) (by omega)
  have Hu := Lib.hid hu
  obtain ⟨y0, hy0⟩ : ∃ y : Nat, 0 = y := ⟨_, rfl⟩
  have zy0 : (dig y0).length ≤ 60 := by rw [← hy0, dig_zero]; simp
  have Hy0 := Lib.hid hy0
  have Hca : Hid (cmpI a y0 = 0) := Lib.hid (by rw [← hy0, hg0.out.1]; rfl)
  have Hcb : Hid (cmpI b y0 = 0) := Lib.hid (by rw [← hy0, hg0.out.2]; rfl)
  have hu0 : (dig u).length = 0 := by rw [← hu, hg0.out.1, hg0.out.2]; rfl
  have HU0 := Lib.hid hu0
  clear hy0 hu hu0
  go_enter Tryd.func6, Tryd.ntmps6
  go_wp2_with fail
  have HX := BL.two w #[.slice A1 na ca] #[.slice B1 nb cb] 24 24
  replace Pa := Pa.ext HX.below
  replace Pb := Pb.ext HX.below
  replace hT := hT.ext HX.below
  refine (awake_h hT).mono ?_
  rintro e w1 ⟨rfl, hb⟩
  replace HX := HX.ext hb
  replace hT := hT.ext hb
  replace Pa := Pa.ext hb
  replace Pb := Pb.ext hb
  clear hb
  have hc0 := HX.cell 0 0 rfl rfl
  have hc1 := HX.cell 1 0 rfl rfl
  try simp only [List.getElem_toArray, List.getElem_cons_zero] at hc0 hc1
  go_wp2_with fail
  refine (ngcd_h Hu zu Pa Pb (by omega) (by omega)).mono ?_
  rintro e w2 ⟨A2, c2, rfl, F2, hb⟩
  clear hc0 hc1
  replace HX := HX.ext hb
  replace hT := hT.ext hb
  replace Pa := Pa.ext hb
  replace Pb := Pb.ext hb
  clear hb
  go_upto_region 4 with fail
  have hb := below_alloc w2 (.cells #[.slice A2 (dig u).length c2] 24)
  replace HX := HX.new #[.slice A2 (dig u).length c2] 24
  simp only [List.cons_append, List.nil_append] at HX
  replace Pa := Pa.ext hb
  replace Pb := Pb.ext hb
  replace F2 := F2.ext hb
  replace hT := hT.ext hb
  clear hb
  generalize w2.alloc (.cells #[.slice A2 (dig u).length c2] 24) = W4 at *
  generalize w2.heap.size = g4 at *
  have held : ∀ {W' : World}, BL w W' [(w.heap.size, #[.slice A1 na ca], 24), (w.heap.size + 1, #[.slice B1 nb cb], 24), (g4, #[.slice A2 (dig u).length c2], 24)] → W'.cell? ⟨w.heap.size, 0, none⟩ = some (.slice A1 na ca) ∧ W'.cell? ⟨w.heap.size + 1, 0, none⟩ = some (.slice B1 nb cb) ∧ W'.cell? ⟨g4, 0, none⟩ = some (.slice A2 (dig u).length c2) := fun h => ⟨h.cell 0 0 rfl rfl, h.cell 1 0 rfl rfl, h.cell 2 0 rfl rfl⟩
  replace HX := HX.ext (drew_ext _)
  replace hT := hT.ext (drew_ext _)
  replace Pa := Pa.ext (drew_ext _)
  replace Pb := Pb.ext (drew_ext _)
  replace F2 := F2.ext (drew_ext _)
  go_region_held3 (fun W' => W'.cell? ⟨w.heap.size, 0, none⟩ = some (.slice A1 na ca) ∧ W'.cell? ⟨w.heap.size + 1, 0, none⟩ = some (.slice B1 nb cb) ∧ W'.cell? ⟨g4, 0, none⟩ = some (.slice A2 (dig u).length c2))
    (exact held HX)
    (first
      | (go_at_call_of 27 (Value.agg #[.slice A1 na ca]); go_at_call_of 27 (Value.agg #[.slice B1 nb cb]); refine (rgcd_h Hu zu Pa Pb (by omega) (by omega)).mono ?_; rintro e w3 ⟨A3, c3, rfl, F3, hb⟩; replace HX := HX.ext hb; replace hT := hT.ext hb; replace Pa := Pa.ext hb; replace Pb := Pb.ext hb; replace F2 := F2.ext hb; clear hb)
      | (go_at_call_of 18 (Value.agg #[.slice A2 (dig u).length c2]); go_at_call_of 18 (Value.agg #[.slice A3 (dig u).length c3]); refine (same_h (Lib.hid (decide_eq_true rfl)) F2 F3 (by omega) (by omega)).mono ?_; rintro e w4 ⟨rfl, hb⟩; replace HX := HX.ext hb; replace hT := hT.ext hb; replace Pa := Pa.ext hb; replace Pb := Pb.ext hb; replace F2 := F2.ext hb; replace F3 := F3.ext hb; clear hb))
  clear held
  have hu0 := HU0.out
  have hc2 := HX.cell 2 0 rfl rfl
  try simp only [List.getElem_toArray, List.getElem_cons_zero] at hc2
  go_upto_region 7 with fail
  clear hc2
  clear hu0
  have held : ∀ {W' : World}, BL w W' [(w.heap.size, #[.slice A1 na ca], 24), (w.heap.size + 1, #[.slice B1 nb cb], 24), (g4, #[.slice A2 (dig u).length c2], 24)] → W'.cell? ⟨w.heap.size, 0, none⟩ = some (.slice A1 na ca) ∧ W'.cell? ⟨w.heap.size + 1, 0, none⟩ = some (.slice B1 nb cb) ∧ W'.cell? ⟨g4, 0, none⟩ = some (.slice A2 (dig u).length c2) := fun h => ⟨h.cell 0 0 rfl rfl, h.cell 1 0 rfl rfl, h.cell 2 0 rfl rfl⟩
  replace HX := HX.ext (drew_ext _)
  replace hT := hT.ext (drew_ext _)
  replace Pa := Pa.ext (drew_ext _)
  replace Pb := Pb.ext (drew_ext _)
  replace F2 := F2.ext (drew_ext _)
  replace F3 := F3.ext (drew_ext _)
  go_region_held3 (fun W' => W'.cell? ⟨w.heap.size, 0, none⟩ = some (.slice A1 na ca) ∧ W'.cell? ⟨w.heap.size + 1, 0, none⟩ = some (.slice B1 nb cb) ∧ W'.cell? ⟨g4, 0, none⟩ = some (.slice A2 (dig u).length c2))
    (exact held HX)
    (first
      | (go_at_call 25; refine (nof_h Hy0 zy0 (by omega)).mono ?_; rintro e w5 ⟨A5, c5, rfl, F5, hb⟩; replace HX := HX.ext hb; replace hT := hT.ext hb; replace Pa := Pa.ext hb; replace Pb := Pb.ext hb; replace F2 := F2.ext hb; replace F3 := F3.ext hb; clear hb)
      | (go_at_call_of 24 (Value.agg #[.slice A1 na ca]); go_at_call_of 24 (Value.agg #[.slice A5 (dig y0).length c5]); refine (ncmp_h Hca Pa F5.nr (by omega) (by omega)).mono ?_; rintro e w6 ⟨rfl, hb⟩; replace HX := HX.ext hb; replace hT := hT.ext hb; replace Pa := Pa.ext hb; replace Pb := Pb.ext hb; replace F2 := F2.ext hb; replace F3 := F3.ext hb; replace F5 := F5.ext hb; clear hb)
      | (go_at_call_of 24 (Value.agg #[.slice B1 nb cb]); go_at_call_of 24 (Value.agg #[.slice A5 (dig y0).length c5]); refine (ncmp_h Hcb Pb F5.nr (by omega) (by omega)).mono ?_; rintro e w7 ⟨rfl, hb⟩; replace HX := HX.ext hb; replace hT := hT.ext hb; replace Pa := Pa.ext hb; replace Pb := Pb.ext hb; replace F2 := F2.ext hb; replace F3 := F3.ext hb; replace F5 := F5.ext hb; clear hb))
  go_wp2
  go_ret
  exact ⟨by first | rfl | simp, HX.below⟩

set_option maxHeartbeats 4000000 in
set_option maxRecDepth 100000 in
theorem ngcd_pos {A1 : Option Addr} {na ca : Nat} {B1 : Option Addr} {nb cb : Nat} {a b : Nat} (w : World) (hT : Tab w) (Pa : Nr w A1 na ca a 12) (Pb : Nr w B1 nb cb b 12) (h1 : na ≤ 4) (h2 : nb ≤ 4) (hg0 : Hid (0 < Nat.gcd a b)) :
    Calls Tryd.prog 6 #[.agg #[.slice A1 na ca], .agg #[.slice B1 nb cb]] w (RetB w true) := by
  have za := Pa.len
  have ya := Pa.le
  have zb := Pb.len
  have yb := Pb.le
  obtain ⟨u, hu⟩ : ∃ u, Nat.gcd a b = u := ⟨_, rfl⟩
  have zu : (dig u).length ≤ 60 := by rw [← hu]; exact Nat.le_trans (gcd_len za zb) (by omega)
  have Hu := Lib.hid hu
  have hup : 0 < u := hu ▸ hg0.out
  have Hup := Lib.hid hup
  have hul := dig_len_pos.2 hup
  obtain ⟨x, hx⟩ : ∃ x, a / u = x := ⟨_, rfl⟩
  have zx : (dig x).length ≤ 60 := by rw [← hx]; exact Nat.le_trans (dig_mono (Nat.div_le_self a u)) (by omega)
  have Hx := Lib.hid hx
  obtain ⟨y, hy⟩ : ∃ y, b / u = y := ⟨_, rfl⟩
  have zy : (dig y).length ≤ 60 := by rw [← hy]; exact Nat.le_trans (dig_mono (Nat.div_le_self b u)) (by omega)
  have Hy := Lib.hid hy
  have Hra : Hid (a % u = 0) := Lib.hid (by rw [← hu]; exact Nat.mod_eq_zero_of_dvd (Nat.gcd_dvd_left a b))
  have Hrb : Hid (b % u = 0) := Lib.hid (by rw [← hu]; exact Nat.mod_eq_zero_of_dvd (Nat.gcd_dvd_right a b))
  obtain ⟨y1, hy1⟩ : ∃ y : Nat, 1 = y := ⟨_, rfl⟩
  have zy1 : (dig y1).length ≤ 60 := by rw [← hy1]; exact Nat.le_trans (dig_len_le (k := 1) (by decide)) (by omega)
  have Hy1 := Lib.hid hy1
  have Hg1 : Hid (Nat.gcd x y = y1) := Lib.hid (by rw [← hx, ← hy, ← hy1, ← hu, Nat.gcd_div (Nat.gcd_dvd_left a b) (Nat.gcd_dvd_right a b), Nat.div_self hg0.out])
  have z0 : (dig 0).length ≤ 60 := by rw [dig_zero]; simp
  clear hx hy hy1 hu hup
  go_enter Tryd.func6, Tryd.ntmps6
  go_wp2_with fail
  have HX := BL.two w #[.slice A1 na ca] #[.slice B1 nb cb] 24 24
  replace Pa := Pa.ext HX.below
  replace Pb := Pb.ext HX.below
  replace hT := hT.ext HX.below
  refine (awake_h hT).mono ?_
  rintro e w1 ⟨rfl, hb⟩
  replace HX := HX.ext hb
  replace hT := hT.ext hb
  replace Pa := Pa.ext hb
  replace Pb := Pb.ext hb
  clear hb
  have hc0 := HX.cell 0 0 rfl rfl
  have hc1 := HX.cell 1 0 rfl rfl
  try simp only [List.getElem_toArray, List.getElem_cons_zero] at hc0 hc1
  go_wp2_with fail
  refine (ngcd_h Hu zu Pa Pb (by omega) (by omega)).mono ?_
  rintro e w2 ⟨A2, c2, rfl, F2, hb⟩
  clear hc0 hc1
  replace HX := HX.ext hb
  replace hT := hT.ext hb
  replace Pa := Pa.ext hb
  replace Pb := Pb.ext hb
  clear hb
  go_upto_region 4 with fail
  have hb := below_alloc w2 (.cells #[.slice A2 (dig u).length c2] 24)
  replace HX := HX.new #[.slice A2 (dig u).length c2] 24
  simp only [List.cons_append, List.nil_append] at HX
  replace Pa := Pa.ext hb
  replace Pb := Pb.ext hb
  replace F2 := F2.ext hb
  replace hT := hT.ext hb
  clear hb
  generalize w2.alloc (.cells #[.slice A2 (dig u).length c2] 24) = W4 at *
  generalize w2.heap.size = g4 at *
  have held : ∀ {W' : World}, BL w W' [(w.heap.size, #[.slice A1 na ca], 24), (w.heap.size + 1, #[.slice B1 nb cb], 24), (g4, #[.slice A2 (dig u).length c2], 24)] → W'.cell? ⟨w.heap.size, 0, none⟩ = some (.slice A1 na ca) ∧ W'.cell? ⟨w.heap.size + 1, 0, none⟩ = some (.slice B1 nb cb) ∧ W'.cell? ⟨g4, 0, none⟩ = some (.slice A2 (dig u).length c2) := fun h => ⟨h.cell 0 0 rfl rfl, h.cell 1 0 rfl rfl, h.cell 2 0 rfl rfl⟩
  replace HX := HX.ext (drew_ext _)
  replace hT := hT.ext (drew_ext _)
  replace Pa := Pa.ext (drew_ext _)
  replace Pb := Pb.ext (drew_ext _)
  replace F2 := F2.ext (drew_ext _)
  go_region_held3 (fun W' => W'.cell? ⟨w.heap.size, 0, none⟩ = some (.slice A1 na ca) ∧ W'.cell? ⟨w.heap.size + 1, 0, none⟩ = some (.slice B1 nb cb) ∧ W'.cell? ⟨g4, 0, none⟩ = some (.slice A2 (dig u).length c2))
    (exact held HX)
    (first
      | (go_at_call_of 27 (Value.agg #[.slice A1 na ca]); go_at_call_of 27 (Value.agg #[.slice B1 nb cb]); refine (rgcd_h Hu zu Pa Pb (by omega) (by omega)).mono ?_; rintro e w3 ⟨A3, c3, rfl, F3, hb⟩; replace HX := HX.ext hb; replace hT := hT.ext hb; replace Pa := Pa.ext hb; replace Pb := Pb.ext hb; replace F2 := F2.ext hb; clear hb)
      | (go_at_call_of 18 (Value.agg #[.slice A2 (dig u).length c2]); go_at_call_of 18 (Value.agg #[.slice A3 (dig u).length c3]); refine (same_h (Lib.hid (decide_eq_true rfl)) F2 F3 (by omega) (by omega)).mono ?_; rintro e w4 ⟨rfl, hb⟩; replace HX := HX.ext hb; replace hT := hT.ext hb; replace Pa := Pa.ext hb; replace Pb := Pb.ext hb; replace F2 := F2.ext hb; replace F3 := F3.ext hb; clear hb))
  clear held
  have hc0 := HX.cell 0 0 rfl rfl
  have hc1 := HX.cell 1 0 rfl rfl
  have hc2 := HX.cell 2 0 rfl rfl
  try simp only [List.getElem_toArray, List.getElem_cons_zero] at hc0 hc1 hc2
  go_wp2_with fail
  refine (ndivmod_h Hx Hra Hup zx z0 Pa F2.nr (by omega) (by omega)).mono ?_
  rintro e w5 ⟨A5, c5, B5, d5, rfl, F5, E5, hb⟩
  clear hc0 hc1 hc2
  replace HX := HX.ext hb
  replace hT := hT.ext hb
  replace Pa := Pa.ext hb
  replace Pb := Pb.ext hb
  replace F2 := F2.ext hb
  replace F3 := F3.ext hb
  clear hb
  go_upto_region 9 with fail
  have hb := below_alloc w5 (.cells #[.slice A5 (dig x).length c5] 24)
  replace HX := HX.new #[.slice A5 (dig x).length c5] 24
  simp only [List.cons_append, List.nil_append] at HX
  replace Pa := Pa.ext hb
  replace Pb := Pb.ext hb
  replace F2 := F2.ext hb
  replace F3 := F3.ext hb
  replace F5 := F5.ext hb
  replace E5 := E5.ext hb
  replace hT := hT.ext hb
  clear hb
  have hb := below_alloc (w5.alloc (.cells #[.slice A5 (dig x).length c5] 24)) (.cells #[.slice B5 (dig 0).length d5] 24)
  replace HX := HX.new #[.slice B5 (dig 0).length d5] 24
  simp only [List.cons_append, List.nil_append] at HX
  replace Pa := Pa.ext hb
  replace Pb := Pb.ext hb
  replace F2 := F2.ext hb
  replace F3 := F3.ext hb
  replace F5 := F5.ext hb
  replace E5 := E5.ext hb
  replace hT := hT.ext hb
  clear hb
  rw [show (w5.alloc (.cells #[.slice A5 (dig x).length c5] 24)).heap.size = w5.heap.size + 1 from by simp] at HX
  generalize ((w5.alloc (.cells #[.slice A5 (dig x).length c5] 24)).alloc (.cells #[.slice B5 (dig 0).length d5] 24)) = W5 at *
  generalize w5.heap.size = g5 at *
  have hc1 := HX.cell 1 0 rfl rfl
  have hc2 := HX.cell 2 0 rfl rfl
  try simp only [List.getElem_toArray, List.getElem_cons_zero] at hc1 hc2
  go_wp2_with fail
  refine (ndivmod_h Hy Hrb Hup zy z0 Pb F2.nr (by omega) (by omega)).mono ?_
  rintro e w6 ⟨A6, c6, B6, d6, rfl, F6, E6, hb⟩
  clear hc1 hc2
  replace HX := HX.ext hb
  replace hT := hT.ext hb
  replace Pa := Pa.ext hb
  replace Pb := Pb.ext hb
  replace F2 := F2.ext hb
  replace F3 := F3.ext hb
  replace F5 := F5.ext hb
  replace E5 := E5.ext hb
  clear hb
  go_upto_region 10 with fail
  have hb := below_alloc w6 (.cells #[.slice A6 (dig y).length c6] 24)
  replace HX := HX.new #[.slice A6 (dig y).length c6] 24
  simp only [List.cons_append, List.nil_append] at HX
  replace Pa := Pa.ext hb
  replace Pb := Pb.ext hb
  replace F2 := F2.ext hb
  replace F3 := F3.ext hb
  replace F5 := F5.ext hb
  replace E5 := E5.ext hb
  replace F6 := F6.ext hb
  replace E6 := E6.ext hb
  replace hT := hT.ext hb
  clear hb
  have hb := below_alloc (w6.alloc (.cells #[.slice A6 (dig y).length c6] 24)) (.cells #[.slice B6 (dig 0).length d6] 24)
  replace HX := HX.new #[.slice B6 (dig 0).length d6] 24
  simp only [List.cons_append, List.nil_append] at HX
  replace Pa := Pa.ext hb
  replace Pb := Pb.ext hb
  replace F2 := F2.ext hb
  replace F3 := F3.ext hb
  replace F5 := F5.ext hb
  replace E5 := E5.ext hb
  replace F6 := F6.ext hb
  replace E6 := E6.ext hb
  replace hT := hT.ext hb
  clear hb
  rw [show (w6.alloc (.cells #[.slice A6 (dig y).length c6] 24)).heap.size = w6.heap.size + 1 from by simp] at HX
  generalize ((w6.alloc (.cells #[.slice A6 (dig y).length c6] 24)).alloc (.cells #[.slice B6 (dig 0).length d6] 24)) = W6 at *
  generalize w6.heap.size = g6 at *
  have hl0 : (dig 0).length = 0 := by rw [dig_zero]; rfl
  have hc3 := HX.cell 3 0 rfl rfl
  have hc4 := HX.cell 4 0 rfl rfl
  have hc5 := HX.cell 5 0 rfl rfl
  have hc6 := HX.cell 6 0 rfl rfl
  try simp only [List.getElem_toArray, List.getElem_cons_zero] at hc3 hc4 hc5 hc6
  go_wp2_with fail
  refine (ngcd_h Hg1 zy1 F5.nr F6.nr (by omega) (by omega)).mono ?_
  rintro e w7 ⟨A7, c7, rfl, F7, hb⟩
  clear hc3 hc4 hc5 hc6
  replace HX := HX.ext hb
  replace hT := hT.ext hb
  replace Pa := Pa.ext hb
  replace Pb := Pb.ext hb
  replace F2 := F2.ext hb
  replace F3 := F3.ext hb
  replace F5 := F5.ext hb
  replace E5 := E5.ext hb
  replace F6 := F6.ext hb
  replace E6 := E6.ext hb
  clear hb
  go_wp2_with fail
  refine (nof_h Hy1 zy1 (by omega)).mono ?_
  rintro e w8 ⟨A8, c8, rfl, F8, hb⟩
  replace HX := HX.ext hb
  replace hT := hT.ext hb
  replace Pa := Pa.ext hb
  replace Pb := Pb.ext hb
  replace F2 := F2.ext hb
  replace F3 := F3.ext hb
  replace F5 := F5.ext hb
  replace E5 := E5.ext hb
  replace F6 := F6.ext hb
  replace E6 := E6.ext hb
  replace F7 := F7.ext hb
  clear hb
  go_wp2_with fail
  refine (same_h (Lib.hid (decide_eq_true rfl)) F7 F8 (by omega) (by omega)).mono ?_
  rintro e w9 ⟨rfl, hb⟩
  replace HX := HX.ext hb
  replace hT := hT.ext hb
  replace Pa := Pa.ext hb
  replace Pb := Pb.ext hb
  replace F2 := F2.ext hb
  replace F3 := F3.ext hb
  replace F5 := F5.ext hb
  replace E5 := E5.ext hb
  replace F6 := F6.ext hb
  replace E6 := E6.ext hb
  replace F7 := F7.ext hb
  replace F8 := F8.ext hb
  clear hb
  go_wp2
  go_ret
  exact ⟨by first | rfl | simp, HX.below⟩

theorem ngcds_any {A1 : Option Addr} {na ca : Nat} {B1 : Option Addr} {nb cb : Nat} (w : World) (hT : Tab w) (Pa : NArg w A1 na ca) (Pb : NArg w B1 nb cb) :
    Calls Tryd.prog 6 #[.agg #[.slice A1 na ca], .agg #[.slice B1 nb cb]] w (RetB w true) := by
  by_cases h1 : na ≤ 4
  · by_cases h2 : nb ≤ 4
    · obtain ⟨a, Qa⟩ := Pa.nr (k := 12) (by omega)
      obtain ⟨b, Qb⟩ := Pb.nr (k := 12) (by omega)
      rcases Nat.eq_zero_or_pos (Nat.gcd a b) with h0 | h0
      · exact ngcd_zero w hT Qa Qb h1 h2 (Lib.hid (Nat.gcd_eq_zero_iff.1 h0))
      · exact ngcd_pos w hT Qa Qb h1 h2 (Lib.hid h0)
    · exact ngcd_big1 w hT Pa.hn Pb.hn h1 (by omega)
  · exact ngcd_big0 w hT Pa.hn Pb.hn (by omega)
end Go.Proofs.YtjacffmoccpogaaDoor
