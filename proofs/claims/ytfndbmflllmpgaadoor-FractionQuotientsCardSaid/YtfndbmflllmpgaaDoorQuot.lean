/- The statement FractionQuotients: its walk. -/
import Derived.Test.YtfndbmflllmpgaaDoorROps
namespace Go.Proofs.YtfndbmflllmpgaaDoor
open Go.RowKit Go.Proofs Go

set_option maxHeartbeats 800000 in
set_option maxRecDepth 100000 in
theorem fquot_few {s1 : Bool} {A1' B1' : Option Addr} {n1 c1' m1 d1' : Nat} {s2 : Bool} {A2' B2' : Option Addr} {n2 c2' m2 d2' : Nat} (w : World) (hT : Tab w) (hlens : Hid (∀ x ∈ [(FE.mk s1 A1' n1 c1' B1' m1 d1'), (FE.mk s2 A2' n2 c2' B2' m2 d2')], x.n ≤ 9223372036854775807 ∧ x.m ≤ 9223372036854775807)) (hfew : Hid (fewB [(FE.mk s1 A1' n1 c1' B1' m1 d1'), (FE.mk s2 A2' n2 c2' B2' m2 d2')] = false)) :
    Calls Tryd.prog 6 #[.agg #[.bool s1, .slice A1' n1 c1', .slice B1' m1 d1'], .agg #[.bool s2, .slice A2' n2 c2', .slice B2' m2 d2']] w (RetB w true) := by
  go_enter Tryd.func6, Tryd.ntmps6
  go_wp2_with fail
  have HX := BL.two w #[.bool s1, .slice A1' n1 c1', .slice B1' m1 d1'] #[.bool s2, .slice A2' n2 c2', .slice B2' m2 d2'] 26 26
  refine (awake_h (hT.ext HX.below)).mono ?_
  rintro e w1 ⟨rfl, hb⟩
  replace HX := HX.ext hb
  clear hb
  have hc00 := HX.cell 0 0 rfl rfl
  have hc01 := HX.cell 0 1 rfl rfl
  have hc02 := HX.cell 0 2 rfl rfl
  have hc10 := HX.cell 1 0 rfl rfl
  have hc11 := HX.cell 1 1 rfl rfl
  have hc12 := HX.cell 1 2 rfl rfl
  simp only [] at hc00 hc01 hc02 hc10 hc11 hc12
  go_wp2_with fail
  have hfs := FS.lit w1 26 [(FE.mk s1 A1' n1 c1' B1' m1 d1'), (FE.mk s2 A2' n2 c2' B2' m2 d2')] #[.bool s1, .slice A1' n1 c1', .slice B1' m1 d1', .bool s2, .slice A2' n2 c2', .slice B2' m2 d2'] rfl
  refine (few_any _ 2 2 _ _ hfs rfl (by omega) hlens.out).mono ?_
  rintro e w2 ⟨rfl, rfl⟩
  rw [hfew.out]
  have hb := below_alloc w1 (.cells #[.bool s1, .slice A1' n1 c1', .slice B1' m1 d1', .bool s2, .slice A2' n2 c2', .slice B2' m2 d2'] 26)
  clear hfs hc00 hc01 hc02 hc10 hc11 hc12
  replace HX := HX.ext hb
  clear hb
  generalize w1.alloc (.cells #[.bool s1, .slice A1' n1 c1', .slice B1' m1 d1', .bool s2, .slice A2' n2 c2', .slice B2' m2 d2'] 26) = w2 at *
  go_wp2_with fail
  refine (awake_h (hT.ext HX.below)).mono ?_
  rintro e w3 ⟨rfl, hb⟩
  replace HX := HX.ext hb
  go_wp2
  go_ret
  exact ⟨rfl, HX.below⟩

set_option maxHeartbeats 4000000 in
set_option maxRecDepth 100000 in
theorem fquot_pos {s1 : Bool} {A1' B1' : Option Addr} {n1 c1' m1 d1' : Nat} {s2 : Bool} {A2' B2' : Option Addr} {n2 c2' m2 d2' : Nat} {a b : Rat} (w : World) (hT : Tab w) (Pa : Fr w s1 A1' n1 c1' B1' m1 d1' a 6) (Pb : Fr w s2 A2' n2 c2' B2' m2 d2' b 6) (hlens : Hid (∀ x ∈ [(FE.mk s1 A1' n1 c1' B1' m1 d1'), (FE.mk s2 A2' n2 c2' B2' m2 d2')], x.n ≤ 9223372036854775807 ∧ x.m ≤ 9223372036854775807)) (hfew : Hid (fewB [(FE.mk s1 A1' n1 c1' B1' m1 d1'), (FE.mk s2 A2' n2 c2' B2' m2 d2')] = true)) (hb0 : Hid (b ≠ 0)) :
    Calls Tryd.prog 6 #[.agg #[.bool s1, .slice A1' n1 c1', .slice B1' m1 d1'], .agg #[.bool s2, .slice A2' n2 c2', .slice B2' m2 d2']] w (RetB w true) := by
  have za := Pa.sz
  have zb := Pb.sz
  obtain ⟨u, hu⟩ : ∃ u, a * b⁻¹ = u := ⟨_, rfl⟩
  obtain ⟨f, hf⟩ : ∃ f, flo a = f := ⟨_, rfl⟩
  have zu : Sz u 14 := hu ▸ za.div zb
  have zf : Sz f 8 := hf ▸ za.flo
  have Hu := Lib.hid hu
  have Hf := Lib.hid hf
  clear hu hf
  go_enter Tryd.func6, Tryd.ntmps6
  go_wp2_with fail
  have HX := BL.two w #[.bool s1, .slice A1' n1 c1', .slice B1' m1 d1'] #[.bool s2, .slice A2' n2 c2', .slice B2' m2 d2'] 26 26
  replace Pa := Pa.ext HX.below
  replace Pb := Pb.ext HX.below
  refine (awake_h (hT.ext HX.below)).mono ?_
  rintro e w1 ⟨rfl, hb⟩
  replace HX := HX.ext hb
  replace Pa := Pa.ext hb
  replace Pb := Pb.ext hb
  clear hb
  have hc00 := HX.cell 0 0 rfl rfl
  have hc01 := HX.cell 0 1 rfl rfl
  have hc02 := HX.cell 0 2 rfl rfl
  have hc10 := HX.cell 1 0 rfl rfl
  have hc11 := HX.cell 1 1 rfl rfl
  have hc12 := HX.cell 1 2 rfl rfl
  simp only [] at hc00 hc01 hc02 hc10 hc11 hc12
  go_wp2_with fail
  have hfs := FS.lit w1 26 [(FE.mk s1 A1' n1 c1' B1' m1 d1'), (FE.mk s2 A2' n2 c2' B2' m2 d2')] #[.bool s1, .slice A1' n1 c1', .slice B1' m1 d1', .bool s2, .slice A2' n2 c2', .slice B2' m2 d2'] rfl
  refine (few_any _ 2 2 _ _ hfs rfl (by omega) hlens.out).mono ?_
  rintro e w2 ⟨rfl, rfl⟩
  rw [hfew.out]
  have hb := below_alloc w1 (.cells #[.bool s1, .slice A1' n1 c1', .slice B1' m1 d1', .bool s2, .slice A2' n2 c2', .slice B2' m2 d2'] 26)
  clear hfs hc00 hc01 hc02 hc10 hc11 hc12
  replace HX := HX.ext hb
  replace Pa := Pa.ext hb
  replace Pb := Pb.ext hb
  clear hb
  generalize w1.alloc (.cells #[.bool s1, .slice A1' n1 c1', .slice B1' m1 d1', .bool s2, .slice A2' n2 c2', .slice B2' m2 d2'] 26) = w2 at *
  clear hlens hfew
  have hc00 := HX.cell 0 0 rfl rfl
  have hc01 := HX.cell 0 1 rfl rfl
  have hc02 := HX.cell 0 2 rfl rfl
  have hc10 := HX.cell 1 0 rfl rfl
  have hc11 := HX.cell 1 1 rfl rfl
  have hc12 := HX.cell 1 2 rfl rfl
  try simp only [List.getElem_toArray, List.getElem_cons_zero, List.getElem_cons_succ] at hc00 hc01 hc02 hc10 hc11 hc12
  go_wp2_with fail
  refine (fdiv_h Hu hb0 zu Pa Pb (by omega) (by omega)).mono ?_
  rintro e w3 ⟨A3, c3, B3, d3, rfl, F3, hb⟩
  clear hc00 hc01 hc02 hc10 hc11 hc12
  replace HX := HX.ext hb
  replace Pa := Pa.ext hb
  replace Pb := Pb.ext hb
  clear hb
  go_upto_region 4 with fail
  have hb := below_alloc w3 (.cells #[.bool (sg u), .slice A3 (dig (nu u)).length c3, .slice B3 (dig u.den).length d3] 26)
  replace HX := HX.new #[.bool (sg u), .slice A3 (dig (nu u)).length c3, .slice B3 (dig u.den).length d3] 26
  simp only [List.cons_append, List.nil_append] at HX
  replace Pa := Pa.ext hb
  replace Pb := Pb.ext hb
  replace F3 := F3.ext hb
  clear hb
  generalize w3.alloc (.cells #[.bool (sg u), .slice A3 (dig (nu u)).length c3, .slice B3 (dig u.den).length d3] 26) = W4 at *
  generalize w3.heap.size = g4 at *
  have hc00 := HX.cell 0 0 rfl rfl
  have hc01 := HX.cell 0 1 rfl rfl
  have hc02 := HX.cell 0 2 rfl rfl
  have hc10 := HX.cell 1 0 rfl rfl
  have hc11 := HX.cell 1 1 rfl rfl
  have hc12 := HX.cell 1 2 rfl rfl
  try simp only [List.getElem_toArray, List.getElem_cons_zero, List.getElem_cons_succ] at hc00 hc01 hc02 hc10 hc11 hc12
  go_wp2_with fail
  refine (qdiv_h Hu hb0 zu Pa Pb (by omega) (by omega)).mono ?_
  rintro e w4 ⟨A4, c4, B4, d4, rfl, F4, hb⟩
  clear hc00 hc01 hc02 hc10 hc11 hc12
  replace HX := HX.ext hb
  replace Pa := Pa.ext hb
  replace Pb := Pb.ext hb
  replace F3 := F3.ext hb
  clear hb
  go_upto_region 5 with fail
  have hb := below_alloc w4 (.cells #[.bool (sg u), .slice A4 (dig (nu u)).length c4, .slice B4 (dig u.den).length d4] 26)
  replace HX := HX.new #[.bool (sg u), .slice A4 (dig (nu u)).length c4, .slice B4 (dig u.den).length d4] 26
  simp only [List.cons_append, List.nil_append] at HX
  replace Pa := Pa.ext hb
  replace Pb := Pb.ext hb
  replace F3 := F3.ext hb
  replace F4 := F4.ext hb
  clear hb
  generalize w4.alloc (.cells #[.bool (sg u), .slice A4 (dig (nu u)).length c4, .slice B4 (dig u.den).length d4] 26) = W5 at *
  generalize w4.heap.size = g5 at *
  have held : ∀ {W' : World}, BL w W' [(w.heap.size, #[.bool s1, .slice A1' n1 c1', .slice B1' m1 d1'], 26), (w.heap.size + 1, #[.bool s2, .slice A2' n2 c2', .slice B2' m2 d2'], 26), (g4, #[.bool (sg u), .slice A3 (dig (nu u)).length c3, .slice B3 (dig u.den).length d3], 26), (g5, #[.bool (sg u), .slice A4 (dig (nu u)).length c4, .slice B4 (dig u.den).length d4], 26)] → W'.cell? ⟨w.heap.size, 0, none⟩ = some (.bool s1) ∧ W'.cell? ⟨w.heap.size, 1, none⟩ = some (.slice A1' n1 c1') ∧ W'.cell? ⟨w.heap.size, 2, none⟩ = some (.slice B1' m1 d1') ∧ W'.cell? ⟨w.heap.size + 1, 0, none⟩ = some (.bool s2) ∧ W'.cell? ⟨w.heap.size + 1, 1, none⟩ = some (.slice A2' n2 c2') ∧ W'.cell? ⟨w.heap.size + 1, 2, none⟩ = some (.slice B2' m2 d2') ∧ W'.cell? ⟨g4, 0, none⟩ = some (.bool (sg u)) ∧ W'.cell? ⟨g4, 1, none⟩ = some (.slice A3 (dig (nu u)).length c3) ∧ W'.cell? ⟨g4, 2, none⟩ = some (.slice B3 (dig u.den).length d3) ∧ W'.cell? ⟨g5, 0, none⟩ = some (.bool (sg u)) ∧ W'.cell? ⟨g5, 1, none⟩ = some (.slice A4 (dig (nu u)).length c4) ∧ W'.cell? ⟨g5, 2, none⟩ = some (.slice B4 (dig u.den).length d4) := fun h => ⟨h.cell 0 0 rfl rfl, h.cell 0 1 rfl rfl, h.cell 0 2 rfl rfl, h.cell 1 0 rfl rfl, h.cell 1 1 rfl rfl, h.cell 1 2 rfl rfl, h.cell 2 0 rfl rfl, h.cell 2 1 rfl rfl, h.cell 2 2 rfl rfl, h.cell 3 0 rfl rfl, h.cell 3 1 rfl rfl, h.cell 3 2 rfl rfl⟩
  replace HX := HX.ext (drew_ext _)
  replace Pa := Pa.ext (drew_ext _)
  replace Pb := Pb.ext (drew_ext _)
  replace F3 := F3.ext (drew_ext _)
  replace F4 := F4.ext (drew_ext _)
  skip
  go_region_held3 (fun W' => W'.cell? ⟨w.heap.size, 0, none⟩ = some (.bool s1) ∧ W'.cell? ⟨w.heap.size, 1, none⟩ = some (.slice A1' n1 c1') ∧ W'.cell? ⟨w.heap.size, 2, none⟩ = some (.slice B1' m1 d1') ∧ W'.cell? ⟨w.heap.size + 1, 0, none⟩ = some (.bool s2) ∧ W'.cell? ⟨w.heap.size + 1, 1, none⟩ = some (.slice A2' n2 c2') ∧ W'.cell? ⟨w.heap.size + 1, 2, none⟩ = some (.slice B2' m2 d2') ∧ W'.cell? ⟨g4, 0, none⟩ = some (.bool (sg u)) ∧ W'.cell? ⟨g4, 1, none⟩ = some (.slice A3 (dig (nu u)).length c3) ∧ W'.cell? ⟨g4, 2, none⟩ = some (.slice B3 (dig u.den).length d3) ∧ W'.cell? ⟨g5, 0, none⟩ = some (.bool (sg u)) ∧ W'.cell? ⟨g5, 1, none⟩ = some (.slice A4 (dig (nu u)).length c4) ∧ W'.cell? ⟨g5, 2, none⟩ = some (.slice B4 (dig u.den).length d4))
    (exact held HX)
    (first
      | (go_at_call_of 14 (Value.slice A3 (dig (nu u)).length c3); go_at_call_of 14 (Value.slice A4 (dig (nu u)).length c4); refine (bfrac_s F3 F4 (by omega) (by omega)).mono ?_; rintro e w5 ⟨rfl, hb⟩; replace HX := HX.ext hb; replace Pa := Pa.ext hb; replace Pb := Pb.ext hb; replace F3 := F3.ext hb; replace F4 := F4.ext hb; clear hb)
      | (go_at_call_of 28 (Value.slice A1' n1 c1'); refine (ffloor_h Hf zf Pa (by omega)).mono ?_; rintro e w6 ⟨A6, c6, B6, d6, rfl, F6, hb⟩; replace HX := HX.ext hb; replace Pa := Pa.ext hb; replace Pb := Pb.ext hb; replace F3 := F3.ext hb; replace F4 := F4.ext hb; clear hb)
      | (go_at_call_of 29 (Value.slice A1' n1 c1'); refine (qfloor_h Hf zf Pa (by omega)).mono ?_; rintro e w7 ⟨A7, c7, B7, d7, rfl, F7, hb⟩; replace HX := HX.ext hb; replace Pa := Pa.ext hb; replace Pb := Pb.ext hb; replace F3 := F3.ext hb; replace F4 := F4.ext hb; replace F6 := F6.ext hb; clear hb)
      | (go_at_call_of 14 (Value.slice A6 (dig (nu f)).length c6); go_at_call_of 14 (Value.slice A7 (dig (nu f)).length c7); refine (bfrac_s F6 F7 (by omega) (by omega)).mono ?_; rintro e w8 ⟨rfl, hb⟩; replace HX := HX.ext hb; replace Pa := Pa.ext hb; replace Pb := Pb.ext hb; replace F3 := F3.ext hb; replace F4 := F4.ext hb; replace F6 := F6.ext hb; replace F7 := F7.ext hb; clear hb))
  go_wp2
  go_ret
  exact ⟨by first | rfl | simp, HX.below⟩

set_option maxHeartbeats 4000000 in
set_option maxRecDepth 100000 in
theorem fquot_zero {s1 : Bool} {A1' B1' : Option Addr} {n1 c1' m1 d1' : Nat} {s2 : Bool} {A2' B2' : Option Addr} {n2 c2' m2 d2' : Nat} {a b : Rat} (w : World) (hT : Tab w) (Pa : Fr w s1 A1' n1 c1' B1' m1 d1' a 6) (Pb : Fr w s2 A2' n2 c2' B2' m2 d2' b 6) (hlens : Hid (∀ x ∈ [(FE.mk s1 A1' n1 c1' B1' m1 d1'), (FE.mk s2 A2' n2 c2' B2' m2 d2')], x.n ≤ 9223372036854775807 ∧ x.m ≤ 9223372036854775807)) (hfew : Hid (fewB [(FE.mk s1 A1' n1 c1' B1' m1 d1'), (FE.mk s2 A2' n2 c2' B2' m2 d2')] = true)) (hb0 : Hid (b = 0)) :
    Calls Tryd.prog 6 #[.agg #[.bool s1, .slice A1' n1 c1', .slice B1' m1 d1'], .agg #[.bool s2, .slice A2' n2 c2', .slice B2' m2 d2']] w (RetB w true) := by
  have za := Pa.sz
  have zb := Pb.sz
  obtain ⟨u, hu⟩ : ∃ u, a * b⁻¹ = u := ⟨_, rfl⟩
  obtain ⟨f, hf⟩ : ∃ f, flo a = f := ⟨_, rfl⟩
  have zu : Sz u 14 := hu ▸ za.div zb
  have zf : Sz f 8 := hf ▸ za.flo
  have Hu := Lib.hid hu
  have Hf := Lib.hid hf
  clear hu hf
  go_enter Tryd.func6, Tryd.ntmps6
  go_wp2_with fail
  have HX := BL.two w #[.bool s1, .slice A1' n1 c1', .slice B1' m1 d1'] #[.bool s2, .slice A2' n2 c2', .slice B2' m2 d2'] 26 26
  replace Pa := Pa.ext HX.below
  replace Pb := Pb.ext HX.below
  refine (awake_h (hT.ext HX.below)).mono ?_
  rintro e w1 ⟨rfl, hb⟩
  replace HX := HX.ext hb
  replace Pa := Pa.ext hb
  replace Pb := Pb.ext hb
  clear hb
  have hc00 := HX.cell 0 0 rfl rfl
  have hc01 := HX.cell 0 1 rfl rfl
  have hc02 := HX.cell 0 2 rfl rfl
  have hc10 := HX.cell 1 0 rfl rfl
  have hc11 := HX.cell 1 1 rfl rfl
  have hc12 := HX.cell 1 2 rfl rfl
  simp only [] at hc00 hc01 hc02 hc10 hc11 hc12
  go_wp2_with fail
  have hfs := FS.lit w1 26 [(FE.mk s1 A1' n1 c1' B1' m1 d1'), (FE.mk s2 A2' n2 c2' B2' m2 d2')] #[.bool s1, .slice A1' n1 c1', .slice B1' m1 d1', .bool s2, .slice A2' n2 c2', .slice B2' m2 d2'] rfl
  refine (few_any _ 2 2 _ _ hfs rfl (by omega) hlens.out).mono ?_
  rintro e w2 ⟨rfl, rfl⟩
  rw [hfew.out]
  have hb := below_alloc w1 (.cells #[.bool s1, .slice A1' n1 c1', .slice B1' m1 d1', .bool s2, .slice A2' n2 c2', .slice B2' m2 d2'] 26)
  clear hfs hc00 hc01 hc02 hc10 hc11 hc12
  replace HX := HX.ext hb
  replace Pa := Pa.ext hb
  replace Pb := Pb.ext hb
  clear hb
  generalize w1.alloc (.cells #[.bool s1, .slice A1' n1 c1', .slice B1' m1 d1', .bool s2, .slice A2' n2 c2', .slice B2' m2 d2'] 26) = w2 at *
  clear hlens hfew
  have hc00 := HX.cell 0 0 rfl rfl
  have hc01 := HX.cell 0 1 rfl rfl
  have hc02 := HX.cell 0 2 rfl rfl
  have hc10 := HX.cell 1 0 rfl rfl
  have hc11 := HX.cell 1 1 rfl rfl
  have hc12 := HX.cell 1 2 rfl rfl
  try simp only [List.getElem_toArray, List.getElem_cons_zero, List.getElem_cons_succ] at hc00 hc01 hc02 hc10 hc11 hc12
  go_wp2_with fail
  refine (fdivz_h hb0 Pb (by omega)).mono ?_
  rintro e w3 ⟨rfl, hb⟩
  clear hc00 hc01 hc02 hc10 hc11 hc12
  replace HX := HX.ext hb
  replace Pa := Pa.ext hb
  replace Pb := Pb.ext hb
  clear hb
  go_upto_region 4 with fail
  have hb := below_alloc w3 (.cells #[.bool false, .slice none 0 0, .slice none 0 0] 26)
  replace HX := HX.new #[.bool false, .slice none 0 0, .slice none 0 0] 26
  simp only [List.cons_append, List.nil_append] at HX
  replace Pa := Pa.ext hb
  replace Pb := Pb.ext hb
  clear hb
  generalize w3.alloc (.cells #[.bool false, .slice none 0 0, .slice none 0 0] 26) = W4 at *
  generalize w3.heap.size = g4 at *
  have hc00 := HX.cell 0 0 rfl rfl
  have hc01 := HX.cell 0 1 rfl rfl
  have hc02 := HX.cell 0 2 rfl rfl
  have hc10 := HX.cell 1 0 rfl rfl
  have hc11 := HX.cell 1 1 rfl rfl
  have hc12 := HX.cell 1 2 rfl rfl
  try simp only [List.getElem_toArray, List.getElem_cons_zero, List.getElem_cons_succ] at hc00 hc01 hc02 hc10 hc11 hc12
  go_wp2_with fail
  refine (qdivz_h hb0 Pb (by omega)).mono ?_
  rintro e w4 ⟨rfl, hb⟩
  clear hc00 hc01 hc02 hc10 hc11 hc12
  replace HX := HX.ext hb
  replace Pa := Pa.ext hb
  replace Pb := Pb.ext hb
  clear hb
  go_upto_region 5 with fail
  have hb := below_alloc w4 (.cells #[.bool false, .slice none 0 0, .slice none 0 0] 26)
  replace HX := HX.new #[.bool false, .slice none 0 0, .slice none 0 0] 26
  simp only [List.cons_append, List.nil_append] at HX
  replace Pa := Pa.ext hb
  replace Pb := Pb.ext hb
  clear hb
  generalize w4.alloc (.cells #[.bool false, .slice none 0 0, .slice none 0 0] 26) = W5 at *
  generalize w4.heap.size = g5 at *
  have held : ∀ {W' : World}, BL w W' [(w.heap.size, #[.bool s1, .slice A1' n1 c1', .slice B1' m1 d1'], 26), (w.heap.size + 1, #[.bool s2, .slice A2' n2 c2', .slice B2' m2 d2'], 26), (g4, #[.bool false, .slice none 0 0, .slice none 0 0], 26), (g5, #[.bool false, .slice none 0 0, .slice none 0 0], 26)] → W'.cell? ⟨w.heap.size, 0, none⟩ = some (.bool s1) ∧ W'.cell? ⟨w.heap.size, 1, none⟩ = some (.slice A1' n1 c1') ∧ W'.cell? ⟨w.heap.size, 2, none⟩ = some (.slice B1' m1 d1') ∧ W'.cell? ⟨w.heap.size + 1, 0, none⟩ = some (.bool s2) ∧ W'.cell? ⟨w.heap.size + 1, 1, none⟩ = some (.slice A2' n2 c2') ∧ W'.cell? ⟨w.heap.size + 1, 2, none⟩ = some (.slice B2' m2 d2') ∧ W'.cell? ⟨g4, 0, none⟩ = some (.bool false) ∧ W'.cell? ⟨g4, 1, none⟩ = some (.slice none 0 0) ∧ W'.cell? ⟨g4, 2, none⟩ = some (.slice none 0 0) ∧ W'.cell? ⟨g5, 0, none⟩ = some (.bool false) ∧ W'.cell? ⟨g5, 1, none⟩ = some (.slice none 0 0) ∧ W'.cell? ⟨g5, 2, none⟩ = some (.slice none 0 0) := fun h => ⟨h.cell 0 0 rfl rfl, h.cell 0 1 rfl rfl, h.cell 0 2 rfl rfl, h.cell 1 0 rfl rfl, h.cell 1 1 rfl rfl, h.cell 1 2 rfl rfl, h.cell 2 0 rfl rfl, h.cell 2 1 rfl rfl, h.cell 2 2 rfl rfl, h.cell 3 0 rfl rfl, h.cell 3 1 rfl rfl, h.cell 3 2 rfl rfl⟩
  replace HX := HX.ext (drew_ext _)
  replace Pa := Pa.ext (drew_ext _)
  replace Pb := Pb.ext (drew_ext _)
  skip
  go_region_held3 (fun W' => W'.cell? ⟨w.heap.size, 0, none⟩ = some (.bool s1) ∧ W'.cell? ⟨w.heap.size, 1, none⟩ = some (.slice A1' n1 c1') ∧ W'.cell? ⟨w.heap.size, 2, none⟩ = some (.slice B1' m1 d1') ∧ W'.cell? ⟨w.heap.size + 1, 0, none⟩ = some (.bool s2) ∧ W'.cell? ⟨w.heap.size + 1, 1, none⟩ = some (.slice A2' n2 c2') ∧ W'.cell? ⟨w.heap.size + 1, 2, none⟩ = some (.slice B2' m2 d2') ∧ W'.cell? ⟨g4, 0, none⟩ = some (.bool false) ∧ W'.cell? ⟨g4, 1, none⟩ = some (.slice none 0 0) ∧ W'.cell? ⟨g4, 2, none⟩ = some (.slice none 0 0) ∧ W'.cell? ⟨g5, 0, none⟩ = some (.bool false) ∧ W'.cell? ⟨g5, 1, none⟩ = some (.slice none 0 0) ∧ W'.cell? ⟨g5, 2, none⟩ = some (.slice none 0 0))
    (exact held HX)
    (first
      | (go_at_call_of 14 (Value.slice none 0 0); refine (bfrac_0).mono ?_; rintro e w5 ⟨rfl, hb⟩; replace HX := HX.ext hb; replace Pa := Pa.ext hb; replace Pb := Pb.ext hb; clear hb)
      | (go_at_call_of 28 (Value.slice A1' n1 c1'); refine (ffloor_h Hf zf Pa (by omega)).mono ?_; rintro e w6 ⟨A6, c6, B6, d6, rfl, F6, hb⟩; replace HX := HX.ext hb; replace Pa := Pa.ext hb; replace Pb := Pb.ext hb; clear hb)
      | (go_at_call_of 29 (Value.slice A1' n1 c1'); refine (qfloor_h Hf zf Pa (by omega)).mono ?_; rintro e w7 ⟨A7, c7, B7, d7, rfl, F7, hb⟩; replace HX := HX.ext hb; replace Pa := Pa.ext hb; replace Pb := Pb.ext hb; replace F6 := F6.ext hb; clear hb)
      | (go_at_call_of 14 (Value.slice A6 (dig (nu f)).length c6); go_at_call_of 14 (Value.slice A7 (dig (nu f)).length c7); refine (bfrac_s F6 F7 (by omega) (by omega)).mono ?_; rintro e w8 ⟨rfl, hb⟩; replace HX := HX.ext hb; replace Pa := Pa.ext hb; replace Pb := Pb.ext hb; replace F6 := F6.ext hb; replace F7 := F7.ext hb; clear hb))
  go_wp2
  go_ret
  exact ⟨by first | rfl | simp, HX.below⟩

theorem fquot_any {s1 : Bool} {A1' B1' : Option Addr} {n1 c1' m1 d1' : Nat} {s2 : Bool} {A2' B2' : Option Addr} {n2 c2' m2 d2' : Nat} (w : World) (hT : Tab w) (Pa : Arg w s1 A1' n1 c1' B1' m1 d1') (Pb : Arg w s2 A2' n2 c2' B2' m2 d2') :
    Calls Tryd.prog 6 #[.agg #[.bool s1, .slice A1' n1 c1', .slice B1' m1 d1'], .agg #[.bool s2, .slice A2' n2 c2', .slice B2' m2 d2']] w (RetB w true) := by
  have hlens : ∀ x ∈ [(FE.mk s1 A1' n1 c1' B1' m1 d1'), (FE.mk s2 A2' n2 c2' B2' m2 d2')], x.n ≤ 9223372036854775807 ∧ x.m ≤ 9223372036854775807 := by
    intro x hx
    simp only [List.mem_cons, List.not_mem_nil, or_false] at hx
    rcases hx with rfl | rfl
    · exact ⟨Pa.hn, Pa.hm⟩
    · exact ⟨Pb.hn, Pb.hm⟩
  cases hf : fewB [(FE.mk s1 A1' n1 c1' B1' m1 d1'), (FE.mk s2 A2' n2 c2' B2' m2 d2')]
  · exact fquot_few w hT (Lib.hid hlens) (Lib.hid hf)
  · have hf2 := hf
    rw [fewB2] at hf2
    simp only [Bool.and_eq_true, decide_eq_true_eq] at hf2
    obtain ⟨a, Pa'⟩ : ∃ q, Fr w s1 A1' n1 c1' B1' m1 d1' q 6 := Pa.fr (by omega) (by omega)
    obtain ⟨b, Pb'⟩ : ∃ q, Fr w s2 A2' n2 c2' B2' m2 d2' q 6 := Pb.fr (by omega) (by omega)
    by_cases hb0 : b = 0
    · exact fquot_zero w hT Pa' Pb' (Lib.hid hlens) (Lib.hid hf) (Lib.hid hb0)
    · exact fquot_pos w hT Pa' Pb' (Lib.hid hlens) (Lib.hid hf) (Lib.hid hb0)
end Go.Proofs.YtfndbmflllmpgaaDoor
