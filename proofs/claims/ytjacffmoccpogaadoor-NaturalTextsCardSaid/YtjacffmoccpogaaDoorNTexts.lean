/- The statement NaturalTexts: its walk. -/
import Derived.Test.YtjacffmoccpogaaDoorNCom
namespace Go.Proofs.YtjacffmoccpogaaDoor
open Go.RowKit Go.Proofs Go

set_option maxHeartbeats 400000 in
set_option maxRecDepth 100000 in
theorem ntexts_few0 {A1 : Option Addr} {na ca : Nat} (w : World) (hT : Tab w) (hna : na ≤ 9223372036854775807) (hf0 : Hid (fewN na na = false)) :
    Calls Tryd.prog 3 #[.agg #[.slice A1 na ca]] w (RetB w true) := by
  go_enter Tryd.func3, Tryd.ntmps3
  go_wp2_with fail
  have HX := BL.one w #[.slice A1 na ca] 24
  replace hT := hT.ext HX.below
  refine (awake_h hT).mono ?_
  rintro e w1 ⟨rfl, hb⟩
  replace HX := HX.ext hb
  replace hT := hT.ext hb
  clear hb
  have hc0 := HX.cell 0 0 rfl rfl
  try simp only [List.getElem_toArray, List.getElem_cons_zero] at hc0
  go_wp2_with fail
  refine (rfew_h hf0 (by omega) (by omega)).mono ?_
  rintro e w2 ⟨rfl, hb⟩
  clear hc0
  replace HX := HX.ext hb
  replace hT := hT.ext hb
  clear hb
  go_wp2_with fail
  refine (awake_h hT).mono ?_
  rintro e w98 ⟨rfl, hb⟩
  replace HX := HX.ext hb
  go_wp2
  go_ret
  exact ⟨rfl, HX.below⟩

set_option maxHeartbeats 2000000 in
set_option maxRecDepth 100000 in
theorem ntexts_yes {A1 : Option Addr} {na ca : Nat} {a : Nat} (w : World) (hT : Tab w) (Pa : Nr w A1 na ca a 12) (hf0 : Hid (fewN na na = true)) :
    Calls Tryd.prog 3 #[.agg #[.slice A1 na ca]] w (RetB w true) := by
  have za := Pa.len
  have ya := Pa.le
  obtain ⟨L, hL⟩ : ∃ L, Lib.decDigits a = L := ⟨_, rfl⟩
  have HL := Lib.hid hL
  have hnd := nDigits_dig za
  have hlen : L.length = Lib.nDigits a := by rw [← hL, Lib.decDigits_length]
  have hnum : numeral L = true := by rw [← hL]; exact numeral_dec a
  have hval : dval 0 L = a := by rw [← hL]; exact dval_dec a
  obtain ⟨e1, e2⟩ := parse_ok (L := L) (by omega) hnum
  rw [hval] at e1
  obtain ⟨y, hy⟩ : ∃ y, a = y := ⟨_, rfl⟩
  have Hp : Hid (parseV L = y) := Lib.hid (e1.trans hy)
  have He := Lib.hid e2
  have Hll : Hid (L.length ≤ 9223372036854775807) := Lib.hid (by omega)
  obtain ⟨d, hd⟩ : ∃ d : Int, (Lib.nDigits a : Int) = d := ⟨_, rfl⟩
  have Hd := Lib.hid hd
  have hsz : ((str L).size : Int) = d := by rw [str_size, hlen, hd]
  have zy : (dig y).length ≤ 60 := by rw [← hy]; exact Nat.le_trans za (by omega)
  have Hy := Lib.hid hy
  have hself : ((str L).toList == (str L).toList) = true := beq_self_eq_true _
  clear hL hlen hnum hval e1 e2 hd hnd hy
  go_enter Tryd.func3, Tryd.ntmps3
  go_wp2_with fail
  have HX := BL.one w #[.slice A1 na ca] 24
  replace Pa := Pa.ext HX.below
  replace hT := hT.ext HX.below
  refine (awake_h hT).mono ?_
  rintro e w1 ⟨rfl, hb⟩
  replace HX := HX.ext hb
  replace hT := hT.ext hb
  replace Pa := Pa.ext hb
  clear hb
  have hc0 := HX.cell 0 0 rfl rfl
  try simp only [List.getElem_toArray, List.getElem_cons_zero] at hc0
  go_wp2_with fail
  refine (rfew_h hf0 (by omega) (by omega)).mono ?_
  rintro e w2 ⟨rfl, hb⟩
  clear hc0
  replace HX := HX.ext hb
  replace hT := hT.ext hb
  replace Pa := Pa.ext hb
  clear hb
  clear hf0
  have hc0 := HX.cell 0 0 rfl rfl
  try simp only [List.getElem_toArray, List.getElem_cons_zero] at hc0
  go_wp2_with fail
  refine (ntext_h HL Pa (by omega) hT).mono ?_
  rintro e w3 ⟨rfl, hb⟩
  clear hc0
  replace HX := HX.ext hb
  replace hT := hT.ext hb
  replace Pa := Pa.ext hb
  clear hb
  go_wp2_with fail
  refine (nparse_h Hp He Hll zy).mono ?_
  rintro e w4 ⟨A4, c4, rfl, F4, hb⟩
  replace HX := HX.ext hb
  replace hT := hT.ext hb
  replace Pa := Pa.ext hb
  clear hb
  go_upto_region 5 with fail
  have hb := below_alloc w4 (.cells #[.slice A4 (dig y).length c4] 24)
  replace HX := HX.new #[.slice A4 (dig y).length c4] 24
  simp only [List.cons_append, List.nil_append] at HX
  replace Pa := Pa.ext hb
  replace F4 := F4.ext hb
  replace hT := hT.ext hb
  clear hb
  generalize w4.alloc (.cells #[.slice A4 (dig y).length c4] 24) = W5 at *
  generalize w4.heap.size = g5 at *
  have held : ∀ {W' : World}, BL w W' [(w.heap.size, #[.slice A1 na ca], 24), (g5, #[.slice A4 (dig y).length c4], 24)] → W'.cell? ⟨w.heap.size, 0, none⟩ = some (.slice A1 na ca) ∧ W'.cell? ⟨g5, 0, none⟩ = some (.slice A4 (dig y).length c4) := fun h => ⟨h.cell 0 0 rfl rfl, h.cell 1 0 rfl rfl⟩
  replace HX := HX.ext (drew_ext _)
  replace hT := hT.ext (drew_ext _)
  replace Pa := Pa.ext (drew_ext _)
  replace F4 := F4.ext (drew_ext _)
  go_region_held3 (fun W' => W'.cell? ⟨w.heap.size, 0, none⟩ = some (.slice A1 na ca) ∧ W'.cell? ⟨g5, 0, none⟩ = some (.slice A4 (dig y).length c4))
    (exact held HX)
    (first
      | (go_at_call_of 17 (Value.agg #[.slice A1 na ca]); refine (rtext_h HL Pa (by omega)).mono ?_; rintro e w5 ⟨rfl, hb⟩; replace HX := HX.ext hb; replace hT := hT.ext hb; replace Pa := Pa.ext hb; replace F4 := F4.ext hb; clear hb)
      | (go_at_call_of 19 (Value.agg #[.slice A1 na ca]); refine (rnorm_h Hy zy Pa (by omega)).mono ?_; rintro e w6 ⟨A6, c6, rfl, F6, hb⟩; replace HX := HX.ext hb; replace hT := hT.ext hb; replace Pa := Pa.ext hb; replace F4 := F4.ext hb; clear hb)
      | (go_at_call_of 18 (Value.agg #[.slice A4 (dig y).length c4]); go_at_call_of 18 (Value.agg #[.slice A6 (dig y).length c6]); refine (same_h (Lib.hid (decide_eq_true rfl)) F4 F6 (by omega) (by omega)).mono ?_; rintro e w7 ⟨rfl, hb⟩; replace HX := HX.ext hb; replace hT := hT.ext hb; replace Pa := Pa.ext hb; replace F4 := F4.ext hb; replace F6 := F6.ext hb; clear hb)
      | (go_at_call_of 20 (Value.agg #[.slice A1 na ca]); refine (ndigits_h Hd Pa (by omega) hT).mono ?_; rintro e w8 ⟨rfl, hb⟩; replace HX := HX.ext hb; replace hT := hT.ext hb; replace Pa := Pa.ext hb; replace F4 := F4.ext hb; replace F6 := F6.ext hb; clear hb))
  go_wp2
  go_ret
  exact ⟨by first | rfl | simp, HX.below⟩

theorem ntexts_any {A1 : Option Addr} {na ca : Nat} (w : World) (hT : Tab w) (Pa : NArg w A1 na ca) :
    Calls Tryd.prog 3 #[.agg #[.slice A1 na ca]] w (RetB w true) := by
  cases hf0 : fewN na na
  · exact ntexts_few0 w hT Pa.hn (Lib.hid hf0)
  · have b0 := fewN_true hf0
    obtain ⟨a, Qa⟩ := Pa.nr (k := 12) (by omega)
    exact ntexts_yes w hT Qa (Lib.hid hf0)
end Go.Proofs.YtjacffmoccpogaaDoor
