/- The statement NaturalRing: its walk. -/
import Derived.Test.YtjacffmoccpogaaDoorNCom
namespace Go.Proofs.YtjacffmoccpogaaDoor
open Go.RowKit Go.Proofs Go

set_option maxHeartbeats 400000 in
set_option maxRecDepth 100000 in
theorem nring_few0 {A1 : Option Addr} {na ca : Nat} {B1 : Option Addr} {nb cb : Nat} {C1 : Option Addr} {nc cc : Nat} (w : World) (hT : Tab w) (hna : na ≤ 9223372036854775807) (hnb : nb ≤ 9223372036854775807) (_ : nc ≤ 9223372036854775807) (hf0 : Hid (fewN na nb = false)) :
    Calls Tryd.prog 9 #[.agg #[.slice A1 na ca], .agg #[.slice B1 nb cb], .agg #[.slice C1 nc cc]] w (RetB w true) := by
  go_enter Tryd.func9, Tryd.ntmps9
  go_wp2_with fail
  have HX := BL.three w #[.slice A1 na ca] #[.slice B1 nb cb] #[.slice C1 nc cc] 24 24 24
  replace hT := hT.ext HX.below
  refine (awake_h hT).mono ?_
  rintro e w1 ⟨rfl, hb⟩
  replace HX := HX.ext hb
  replace hT := hT.ext hb
  clear hb
  have hc0 := HX.cell 0 0 rfl rfl
  have hc1 := HX.cell 1 0 rfl rfl
  try simp only [List.getElem_toArray, List.getElem_cons_zero] at hc0 hc1
  go_wp2_with fail
  refine (rfew_h hf0 (by omega) (by omega)).mono ?_
  rintro e w2 ⟨rfl, hb⟩
  clear hc0 hc1
  replace HX := HX.ext hb
  replace hT := hT.ext hb
  clear hb
  go_wp2_with fail
  refine (awake_h hT).mono ?_
  rintro e w98 ⟨rfl, hb⟩
  replace HX := HX.ext hb
  go_wp2
  go_ret
  exact ⟨rfl, HX.below⟩

set_option maxHeartbeats 400000 in
set_option maxRecDepth 100000 in
theorem nring_few1 {A1 : Option Addr} {na ca : Nat} {B1 : Option Addr} {nb cb : Nat} {C1 : Option Addr} {nc cc : Nat} (w : World) (hT : Tab w) (hna : na ≤ 9223372036854775807) (hnb : nb ≤ 9223372036854775807) (hnc : nc ≤ 9223372036854775807) (hf0 : Hid (fewN na nb = true)) (hf1 : Hid (fewN nc nc = false)) :
    Calls Tryd.prog 9 #[.agg #[.slice A1 na ca], .agg #[.slice B1 nb cb], .agg #[.slice C1 nc cc]] w (RetB w true) := by
  go_enter Tryd.func9, Tryd.ntmps9
  go_wp2_with fail
  have HX := BL.three w #[.slice A1 na ca] #[.slice B1 nb cb] #[.slice C1 nc cc] 24 24 24
  replace hT := hT.ext HX.below
  refine (awake_h hT).mono ?_
  rintro e w1 ⟨rfl, hb⟩
  replace HX := HX.ext hb
  replace hT := hT.ext hb
  clear hb
  have hc0 := HX.cell 0 0 rfl rfl
  have hc1 := HX.cell 1 0 rfl rfl
  try simp only [List.getElem_toArray, List.getElem_cons_zero] at hc0 hc1
  go_wp2_with fail
  refine (rfew_h hf0 (by omega) (by omega)).mono ?_
  rintro e w2 ⟨rfl, hb⟩
  clear hc0 hc1
  replace HX := HX.ext hb
  replace hT := hT.ext hb
  clear hb
  have hc2 := HX.cell 2 0 rfl rfl
  try simp only [List.getElem_toArray, List.getElem_cons_zero] at hc2
  go_wp2_with fail
  refine (rfew_h hf1 (by omega) (by omega)).mono ?_
  rintro e w3 ⟨rfl, hb⟩
  clear hc2
  replace HX := HX.ext hb
  replace hT := hT.ext hb
  clear hb
  go_wp2_with fail
  refine (awake_h hT).mono ?_
  rintro e w98 ⟨rfl, hb⟩
  replace HX := HX.ext hb
  go_wp2
  go_ret
  exact ⟨rfl, HX.below⟩

set_option maxHeartbeats 4000000 in
set_option maxRecDepth 100000 in
theorem nring_yes {A1 : Option Addr} {na ca : Nat} {B1 : Option Addr} {nb cb : Nat} {C1 : Option Addr} {nc cc : Nat} {a b c : Nat} (w : World) (hT : Tab w) (Pa : Nr w A1 na ca a 12) (Pb : Nr w B1 nb cb b 12) (Pc : Nr w C1 nc cc c 12) (hf0 : Hid (fewN na nb = true)) (hf1 : Hid (fewN nc nc = true)) :
    Calls Tryd.prog 9 #[.agg #[.slice A1 na ca], .agg #[.slice B1 nb cb], .agg #[.slice C1 nc cc]] w (RetB w true) := by
  have za := Pa.len
  have ya := Pa.le
  have zb := Pb.len
  have yb := Pb.le
  have zc := Pc.len
  have yc := Pc.le
  obtain ⟨ab, hab⟩ : ∃ ab, a * b = ab := ⟨_, rfl⟩
  have zab : (dig ab).length ≤ 60 := by rw [← hab]; exact Nat.le_trans (mul_len za zb) (by omega)
  have Hab := Lib.hid hab
  obtain ⟨bc, hbc⟩ : ∃ bc, b * c = bc := ⟨_, rfl⟩
  have zbc : (dig bc).length ≤ 60 := by rw [← hbc]; exact Nat.le_trans (mul_len zb zc) (by omega)
  have Hbc := Lib.hid hbc
  obtain ⟨ac, hac⟩ : ∃ ac, a * c = ac := ⟨_, rfl⟩
  have zac : (dig ac).length ≤ 60 := by rw [← hac]; exact Nat.le_trans (mul_len za zc) (by omega)
  have Hac := Lib.hid hac
  obtain ⟨ba, hba⟩ : ∃ ba, b * a = ba := ⟨_, rfl⟩
  have zba : (dig ba).length ≤ 60 := by rw [← hba]; exact Nat.le_trans (mul_len zb za) (by omega)
  have Hba := Lib.hid hba
  obtain ⟨sab, hsab⟩ : ∃ sab, a + b = sab := ⟨_, rfl⟩
  have zsab : (dig sab).length ≤ 60 := by rw [← hsab]; exact Nat.le_trans (add_len za zb) (by omega)
  have Hsab := Lib.hid hsab
  obtain ⟨scb, hscb⟩ : ∃ scb, c + b = scb := ⟨_, rfl⟩
  have zscb : (dig scb).length ≤ 60 := by rw [← hscb]; exact Nat.le_trans (add_len zc zb) (by omega)
  have Hscb := Lib.hid hscb
  obtain ⟨sbc, hsbc⟩ : ∃ sbc, b + c = sbc := ⟨_, rfl⟩
  have zsbc : (dig sbc).length ≤ 60 := by rw [← hsbc]; exact Nat.le_trans (add_len zb zc) (by omega)
  have Hsbc := Lib.hid hsbc
  have eba : ba = ab := by rw [← hba, ← hab, Nat.mul_comm]
  have Hba2 : Hid (a * b = ba) := Lib.hid (hab.trans eba.symm)
  subst eba
  have zabc : (dig (ba * c)).length ≤ 200 := Nat.le_trans (mul_len zba zc) (by omega)
  obtain ⟨abc, habc⟩ : ∃ abc, ba * c = abc := ⟨_, rfl⟩
  rw [habc] at zabc
  have Habc := Lib.hid habc
  have Habc2 : Hid (a * bc = abc) := Lib.hid (by rw [← habc, ← hbc, ← hab, Nat.mul_assoc])
  have zs3 : (dig (sab + c)).length ≤ 200 := Nat.le_trans (add_len zsab zc) (by omega)
  obtain ⟨s3, hs3⟩ : ∃ s3, sab + c = s3 := ⟨_, rfl⟩
  rw [hs3] at zs3
  have Hs3 := Lib.hid hs3
  have Hs32 : Hid (a + scb = s3) := Lib.hid (by rw [← hs3, ← hscb, ← hsab]; omega)
  have zd : (dig (a * sbc)).length ≤ 200 := Nat.le_trans (mul_len za zsbc) (by omega)
  obtain ⟨d, hd⟩ : ∃ d, a * sbc = d := ⟨_, rfl⟩
  rw [hd] at zd
  have Hd := Lib.hid hd
  have Hd2 : Hid (ba + ac = d) := Lib.hid (by rw [← hd, ← hab, ← hac, ← hsbc, Nat.mul_add])
  clear hba hab hbc hac hsab hscb hsbc habc hs3 hd
  go_enter Tryd.func9, Tryd.ntmps9
  go_wp2_with fail
  have HX := BL.three w #[.slice A1 na ca] #[.slice B1 nb cb] #[.slice C1 nc cc] 24 24 24
  replace Pa := Pa.ext HX.below
  replace Pb := Pb.ext HX.below
  replace Pc := Pc.ext HX.below
  replace hT := hT.ext HX.below
  refine (awake_h hT).mono ?_
  rintro e w1 ⟨rfl, hb⟩
  replace HX := HX.ext hb
  replace hT := hT.ext hb
  replace Pa := Pa.ext hb
  replace Pb := Pb.ext hb
  replace Pc := Pc.ext hb
  clear hb
  have hc0 := HX.cell 0 0 rfl rfl
  have hc1 := HX.cell 1 0 rfl rfl
  try simp only [List.getElem_toArray, List.getElem_cons_zero] at hc0 hc1
  go_wp2_with fail
  refine (rfew_h hf0 (by omega) (by omega)).mono ?_
  rintro e w2 ⟨rfl, hb⟩
  clear hc0 hc1
  replace HX := HX.ext hb
  replace hT := hT.ext hb
  replace Pa := Pa.ext hb
  replace Pb := Pb.ext hb
  replace Pc := Pc.ext hb
  clear hb
  have hc2 := HX.cell 2 0 rfl rfl
  try simp only [List.getElem_toArray, List.getElem_cons_zero] at hc2
  go_wp2_with fail
  refine (rfew_h hf1 (by omega) (by omega)).mono ?_
  rintro e w3 ⟨rfl, hb⟩
  clear hc2
  replace HX := HX.ext hb
  replace hT := hT.ext hb
  replace Pa := Pa.ext hb
  replace Pb := Pb.ext hb
  replace Pc := Pc.ext hb
  clear hb
  clear hf0 hf1
  have hc0 := HX.cell 0 0 rfl rfl
  have hc1 := HX.cell 1 0 rfl rfl
  try simp only [List.getElem_toArray, List.getElem_cons_zero] at hc0 hc1
  go_wp2_with fail
  refine (nmul_h Hba2 zba Pa Pb (by omega) (by omega)).mono ?_
  rintro e w4 ⟨A4, c4, rfl, F4, hb⟩
  clear hc0 hc1
  replace HX := HX.ext hb
  replace hT := hT.ext hb
  replace Pa := Pa.ext hb
  replace Pb := Pb.ext hb
  replace Pc := Pc.ext hb
  clear hb
  go_upto_region 4 with fail
  have hb := below_alloc w4 (.cells #[.slice A4 (dig ba).length c4] 24)
  replace HX := HX.new #[.slice A4 (dig ba).length c4] 24
  simp only [List.cons_append, List.nil_append] at HX
  replace Pa := Pa.ext hb
  replace Pb := Pb.ext hb
  replace Pc := Pc.ext hb
  replace F4 := F4.ext hb
  replace hT := hT.ext hb
  clear hb
  generalize w4.alloc (.cells #[.slice A4 (dig ba).length c4] 24) = W4 at *
  generalize w4.heap.size = g4 at *
  have held : ∀ {W' : World}, BL w W' [(w.heap.size, #[.slice A1 na ca], 24), (w.heap.size + 1, #[.slice B1 nb cb], 24), (w.heap.size + 2, #[.slice C1 nc cc], 24), (g4, #[.slice A4 (dig ba).length c4], 24)] → W'.cell? ⟨w.heap.size, 0, none⟩ = some (.slice A1 na ca) ∧ W'.cell? ⟨w.heap.size + 1, 0, none⟩ = some (.slice B1 nb cb) ∧ W'.cell? ⟨w.heap.size + 2, 0, none⟩ = some (.slice C1 nc cc) ∧ W'.cell? ⟨g4, 0, none⟩ = some (.slice A4 (dig ba).length c4) := fun h => ⟨h.cell 0 0 rfl rfl, h.cell 1 0 rfl rfl, h.cell 2 0 rfl rfl, h.cell 3 0 rfl rfl⟩
  replace HX := HX.ext (drew_ext _)
  replace hT := hT.ext (drew_ext _)
  replace Pa := Pa.ext (drew_ext _)
  replace Pb := Pb.ext (drew_ext _)
  replace Pc := Pc.ext (drew_ext _)
  replace F4 := F4.ext (drew_ext _)
  go_region_held3 (fun W' => W'.cell? ⟨w.heap.size, 0, none⟩ = some (.slice A1 na ca) ∧ W'.cell? ⟨w.heap.size + 1, 0, none⟩ = some (.slice B1 nb cb) ∧ W'.cell? ⟨w.heap.size + 2, 0, none⟩ = some (.slice C1 nc cc) ∧ W'.cell? ⟨g4, 0, none⟩ = some (.slice A4 (dig ba).length c4))
    (exact held HX)
    (first
      | (go_at_call_of 31 (Value.agg #[.slice B1 nb cb]); go_at_call_of 31 (Value.agg #[.slice A1 na ca]); refine (nmul_h Hba zba Pb Pa (by omega) (by omega)).mono ?_; rintro e w5 ⟨A5, c5, rfl, F5, hb⟩; replace HX := HX.ext hb; replace hT := hT.ext hb; replace Pa := Pa.ext hb; replace Pb := Pb.ext hb; replace Pc := Pc.ext hb; replace F4 := F4.ext hb; clear hb)
      | (go_at_call_of 18 (Value.agg #[.slice A4 (dig ba).length c4]); go_at_call_of 18 (Value.agg #[.slice A5 (dig ba).length c5]); refine (same_h (Lib.hid (decide_eq_true rfl)) F4 F5 (by omega) (by omega)).mono ?_; rintro e w6 ⟨rfl, hb⟩; replace HX := HX.ext hb; replace hT := hT.ext hb; replace Pa := Pa.ext hb; replace Pb := Pb.ext hb; replace Pc := Pc.ext hb; replace F4 := F4.ext hb; replace F5 := F5.ext hb; clear hb)
      | (go_at_call_of 31 (Value.agg #[.slice A4 (dig ba).length c4]); go_at_call_of 31 (Value.agg #[.slice C1 nc cc]); refine (nmul_h Habc zabc F4.nr Pc (by omega) (by omega)).mono ?_; rintro e w7 ⟨A7, c7, rfl, F7, hb⟩; replace HX := HX.ext hb; replace hT := hT.ext hb; replace Pa := Pa.ext hb; replace Pb := Pb.ext hb; replace Pc := Pc.ext hb; replace F4 := F4.ext hb; replace F5 := F5.ext hb; clear hb)
      | (go_at_call_of 31 (Value.agg #[.slice B1 nb cb]); go_at_call_of 31 (Value.agg #[.slice C1 nc cc]); refine (nmul_h Hbc zbc Pb Pc (by omega) (by omega)).mono ?_; rintro e w8 ⟨A8, c8, rfl, F8, hb⟩; replace HX := HX.ext hb; replace hT := hT.ext hb; replace Pa := Pa.ext hb; replace Pb := Pb.ext hb; replace Pc := Pc.ext hb; replace F4 := F4.ext hb; replace F5 := F5.ext hb; replace F7 := F7.ext hb; clear hb)
      | (go_at_call_of 31 (Value.agg #[.slice A1 na ca]); go_at_call_of 31 (Value.agg #[.slice A8 (dig bc).length c8]); refine (nmul_h Habc2 zabc Pa F8.nr (by omega) (by omega)).mono ?_; rintro e w9 ⟨A9, c9, rfl, F9, hb⟩; replace HX := HX.ext hb; replace hT := hT.ext hb; replace Pa := Pa.ext hb; replace Pb := Pb.ext hb; replace Pc := Pc.ext hb; replace F4 := F4.ext hb; replace F5 := F5.ext hb; replace F7 := F7.ext hb; replace F8 := F8.ext hb; clear hb)
      | (go_at_call_of 18 (Value.agg #[.slice A7 (dig abc).length c7]); go_at_call_of 18 (Value.agg #[.slice A9 (dig abc).length c9]); refine (same_h (Lib.hid (decide_eq_true rfl)) F7 F9 (by omega) (by omega)).mono ?_; rintro e w10 ⟨rfl, hb⟩; replace HX := HX.ext hb; replace hT := hT.ext hb; replace Pa := Pa.ext hb; replace Pb := Pb.ext hb; replace Pc := Pc.ext hb; replace F4 := F4.ext hb; replace F5 := F5.ext hb; replace F7 := F7.ext hb; replace F8 := F8.ext hb; replace F9 := F9.ext hb; clear hb)
      | (go_at_call_of 34 (Value.agg #[.slice A1 na ca]); go_at_call_of 34 (Value.agg #[.slice B1 nb cb]); refine (nadd_h Hsab zsab Pa Pb (by omega) (by omega)).mono ?_; rintro e w11 ⟨A11, c11, rfl, F11, hb⟩; replace HX := HX.ext hb; replace hT := hT.ext hb; replace Pa := Pa.ext hb; replace Pb := Pb.ext hb; replace Pc := Pc.ext hb; replace F4 := F4.ext hb; replace F5 := F5.ext hb; replace F7 := F7.ext hb; replace F8 := F8.ext hb; replace F9 := F9.ext hb; clear hb)
      | (go_at_call_of 34 (Value.agg #[.slice A11 (dig sab).length c11]); go_at_call_of 34 (Value.agg #[.slice C1 nc cc]); refine (nadd_h Hs3 zs3 F11.nr Pc (by omega) (by omega)).mono ?_; rintro e w12 ⟨A12, c12, rfl, F12, hb⟩; replace HX := HX.ext hb; replace hT := hT.ext hb; replace Pa := Pa.ext hb; replace Pb := Pb.ext hb; replace Pc := Pc.ext hb; replace F4 := F4.ext hb; replace F5 := F5.ext hb; replace F7 := F7.ext hb; replace F8 := F8.ext hb; replace F9 := F9.ext hb; replace F11 := F11.ext hb; clear hb)
      | (go_at_call_of 34 (Value.agg #[.slice C1 nc cc]); go_at_call_of 34 (Value.agg #[.slice B1 nb cb]); refine (nadd_h Hscb zscb Pc Pb (by omega) (by omega)).mono ?_; rintro e w13 ⟨A13, c13, rfl, F13, hb⟩; replace HX := HX.ext hb; replace hT := hT.ext hb; replace Pa := Pa.ext hb; replace Pb := Pb.ext hb; replace Pc := Pc.ext hb; replace F4 := F4.ext hb; replace F5 := F5.ext hb; replace F7 := F7.ext hb; replace F8 := F8.ext hb; replace F9 := F9.ext hb; replace F11 := F11.ext hb; replace F12 := F12.ext hb; clear hb)
      | (go_at_call_of 34 (Value.agg #[.slice A1 na ca]); go_at_call_of 34 (Value.agg #[.slice A13 (dig scb).length c13]); refine (nadd_h Hs32 zs3 Pa F13.nr (by omega) (by omega)).mono ?_; rintro e w14 ⟨A14, c14, rfl, F14, hb⟩; replace HX := HX.ext hb; replace hT := hT.ext hb; replace Pa := Pa.ext hb; replace Pb := Pb.ext hb; replace Pc := Pc.ext hb; replace F4 := F4.ext hb; replace F5 := F5.ext hb; replace F7 := F7.ext hb; replace F8 := F8.ext hb; replace F9 := F9.ext hb; replace F11 := F11.ext hb; replace F12 := F12.ext hb; replace F13 := F13.ext hb; clear hb)
      | (go_at_call_of 18 (Value.agg #[.slice A12 (dig s3).length c12]); go_at_call_of 18 (Value.agg #[.slice A14 (dig s3).length c14]); refine (same_h (Lib.hid (decide_eq_true rfl)) F12 F14 (by omega) (by omega)).mono ?_; rintro e w15 ⟨rfl, hb⟩; replace HX := HX.ext hb; replace hT := hT.ext hb; replace Pa := Pa.ext hb; replace Pb := Pb.ext hb; replace Pc := Pc.ext hb; replace F4 := F4.ext hb; replace F5 := F5.ext hb; replace F7 := F7.ext hb; replace F8 := F8.ext hb; replace F9 := F9.ext hb; replace F11 := F11.ext hb; replace F12 := F12.ext hb; replace F13 := F13.ext hb; replace F14 := F14.ext hb; clear hb))
  try clear F5
  try clear F7
  try clear F8
  try clear F9
  try clear F11
  try clear F12
  try clear F13
  try clear F14
  clear held
  go_wp2_with fail
  have held : ∀ {W' : World}, BL w W' [(w.heap.size, #[.slice A1 na ca], 24), (w.heap.size + 1, #[.slice B1 nb cb], 24), (w.heap.size + 2, #[.slice C1 nc cc], 24), (g4, #[.slice A4 (dig ba).length c4], 24)] → W'.cell? ⟨w.heap.size, 0, none⟩ = some (.slice A1 na ca) ∧ W'.cell? ⟨w.heap.size + 1, 0, none⟩ = some (.slice B1 nb cb) ∧ W'.cell? ⟨w.heap.size + 2, 0, none⟩ = some (.slice C1 nc cc) ∧ W'.cell? ⟨g4, 0, none⟩ = some (.slice A4 (dig ba).length c4) := fun h => ⟨h.cell 0 0 rfl rfl, h.cell 1 0 rfl rfl, h.cell 2 0 rfl rfl, h.cell 3 0 rfl rfl⟩
  replace HX := HX.ext (drew_ext _)
  replace hT := hT.ext (drew_ext _)
  replace Pa := Pa.ext (drew_ext _)
  replace Pb := Pb.ext (drew_ext _)
  replace Pc := Pc.ext (drew_ext _)
  replace F4 := F4.ext (drew_ext _)
  go_region_held3 (fun W' => W'.cell? ⟨w.heap.size, 0, none⟩ = some (.slice A1 na ca) ∧ W'.cell? ⟨w.heap.size + 1, 0, none⟩ = some (.slice B1 nb cb) ∧ W'.cell? ⟨w.heap.size + 2, 0, none⟩ = some (.slice C1 nc cc) ∧ W'.cell? ⟨g4, 0, none⟩ = some (.slice A4 (dig ba).length c4))
    (exact held HX)
    (first
      | (go_at_call_of 34 (Value.agg #[.slice B1 nb cb]); go_at_call_of 34 (Value.agg #[.slice C1 nc cc]); refine (nadd_h Hsbc zsbc Pb Pc (by omega) (by omega)).mono ?_; rintro e w16 ⟨A16, c16, rfl, F16, hb⟩; replace HX := HX.ext hb; replace hT := hT.ext hb; replace Pa := Pa.ext hb; replace Pb := Pb.ext hb; replace Pc := Pc.ext hb; replace F4 := F4.ext hb; clear hb)
      | (go_at_call_of 31 (Value.agg #[.slice A1 na ca]); go_at_call_of 31 (Value.agg #[.slice A16 (dig sbc).length c16]); refine (nmul_h Hd zd Pa F16.nr (by omega) (by omega)).mono ?_; rintro e w17 ⟨A17, c17, rfl, F17, hb⟩; replace HX := HX.ext hb; replace hT := hT.ext hb; replace Pa := Pa.ext hb; replace Pb := Pb.ext hb; replace Pc := Pc.ext hb; replace F4 := F4.ext hb; replace F16 := F16.ext hb; clear hb)
      | (go_at_call_of 31 (Value.agg #[.slice A1 na ca]); go_at_call_of 31 (Value.agg #[.slice C1 nc cc]); refine (nmul_h Hac zac Pa Pc (by omega) (by omega)).mono ?_; rintro e w18 ⟨A18, c18, rfl, F18, hb⟩; replace HX := HX.ext hb; replace hT := hT.ext hb; replace Pa := Pa.ext hb; replace Pb := Pb.ext hb; replace Pc := Pc.ext hb; replace F4 := F4.ext hb; replace F16 := F16.ext hb; replace F17 := F17.ext hb; clear hb)
      | (go_at_call_of 34 (Value.agg #[.slice A4 (dig ba).length c4]); go_at_call_of 34 (Value.agg #[.slice A18 (dig ac).length c18]); refine (nadd_h Hd2 zd F4.nr F18.nr (by omega) (by omega)).mono ?_; rintro e w19 ⟨A19, c19, rfl, F19, hb⟩; replace HX := HX.ext hb; replace hT := hT.ext hb; replace Pa := Pa.ext hb; replace Pb := Pb.ext hb; replace Pc := Pc.ext hb; replace F4 := F4.ext hb; replace F16 := F16.ext hb; replace F17 := F17.ext hb; replace F18 := F18.ext hb; clear hb)
      | (go_at_call_of 18 (Value.agg #[.slice A17 (dig d).length c17]); go_at_call_of 18 (Value.agg #[.slice A19 (dig d).length c19]); refine (same_h (Lib.hid (decide_eq_true rfl)) F17 F19 (by omega) (by omega)).mono ?_; rintro e w20 ⟨rfl, hb⟩; replace HX := HX.ext hb; replace hT := hT.ext hb; replace Pa := Pa.ext hb; replace Pb := Pb.ext hb; replace Pc := Pc.ext hb; replace F4 := F4.ext hb; replace F16 := F16.ext hb; replace F17 := F17.ext hb; replace F18 := F18.ext hb; replace F19 := F19.ext hb; clear hb))
  go_wp2
  go_ret
  exact ⟨by first | rfl | simp, HX.below⟩

theorem nring_any {A1 : Option Addr} {na ca : Nat} {B1 : Option Addr} {nb cb : Nat} {C1 : Option Addr} {nc cc : Nat} (w : World) (hT : Tab w) (Pa : NArg w A1 na ca) (Pb : NArg w B1 nb cb) (Pc : NArg w C1 nc cc) :
    Calls Tryd.prog 9 #[.agg #[.slice A1 na ca], .agg #[.slice B1 nb cb], .agg #[.slice C1 nc cc]] w (RetB w true) := by
  cases hf0 : fewN na nb
  · exact nring_few0 w hT Pa.hn Pb.hn Pc.hn (Lib.hid hf0)
  · have b0 := fewN_true hf0
    cases hf1 : fewN nc nc
    · exact nring_few1 w hT Pa.hn Pb.hn Pc.hn (Lib.hid hf0) (Lib.hid hf1)
    · have b1 := fewN_true hf1
      obtain ⟨a, Qa⟩ := Pa.nr (k := 12) (by omega)
      obtain ⟨b, Qb⟩ := Pb.nr (k := 12) (by omega)
      obtain ⟨c, Qc⟩ := Pc.nr (k := 12) (by omega)
      exact nring_yes w hT Qa Qb Qc (Lib.hid hf0) (Lib.hid hf1)
end Go.Proofs.YtjacffmoccpogaaDoor
