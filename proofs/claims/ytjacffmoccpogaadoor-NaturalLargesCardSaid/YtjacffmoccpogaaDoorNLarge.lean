/- The statement NaturalLarges: its walk. -/
import Derived.Test.YtjacffmoccpogaaDoorNCom
namespace Go.Proofs.YtjacffmoccpogaaDoor
open Go.RowKit Go.Proofs Go

set_option maxHeartbeats 400000 in
set_option maxRecDepth 100000 in
theorem nlarge_few0 {A1 : Option Addr} {na ca : Nat} (w : World) (hT : Tab w) (hna : na ≤ 9223372036854775807) (hf0 : Hid (fewN na na = false)) :
    Calls Tryd.prog 5 #[.agg #[.slice A1 na ca]] w (RetB w true) := by
  go_enter Tryd.func5, Tryd.ntmps5
  go_wp2_with fail
  have HX := BL.one w #[.slice A1 na ca] 24
  replace hT := hT.ext HX.below
  refine (awake_h hT).mono ?_
  rintro e w1 ⟨rfl, hb⟩
  replace HX := HX.ext hb
  replace hT := hT.ext hb
  clear hb
  have hc0 := HX.cell 0 0 rfl rfl
  try simp only [List.getElem_toArray, List.getElem_cons_zero] at hc0
  go_wp2_with fail
  refine (rfew_h hf0 (by omega) (by omega)).mono ?_
  rintro e w2 ⟨rfl, hb⟩
  clear hc0
  replace HX := HX.ext hb
  replace hT := hT.ext hb
  clear hb
  go_wp2_with fail
  refine (awake_h hT).mono ?_
  rintro e w98 ⟨rfl, hb⟩
  replace HX := HX.ext hb
  go_wp2
  go_ret
  exact ⟨rfl, HX.below⟩

set_option maxHeartbeats 2000000 in
set_option maxRecDepth 100000 in
theorem nlarge_fit {A1 : Option Addr} {na ca : Nat} {a : Nat} (w : World) (hT : Tab w) (Pa : Nr w A1 na ca a 12) (hf0 : Hid (fewN na na = true)) (hv : Hid (a < 18446744073709551616)) :
    Calls Tryd.prog 5 #[.agg #[.slice A1 na ca]] w (RetB w true) := by
  have za := Pa.len
  have ya := Pa.le
  have hv1 := hv.out
  have zaa : (dig a).length ≤ 60 := Nat.le_trans za (by omega)
  have Hsv : Hid ((smallV a : Int) = (a : Int)) := Lib.hid (by rw [smallV, if_pos hv.out])
  have Hsb : Hid (decide (a < 18446744073709551616) = true) := Lib.hid (decide_eq_true hv.out)
  obtain ⟨y, hy⟩ : ∃ y, a = y := ⟨_, rfl⟩
  have zy : (dig y).length ≤ 60 := hy ▸ zaa
  have Hy := Lib.hid hy
  have Hc : Hid (cmpI y a = 0) := Lib.hid (by rw [← hy]; exact cmp_self a)
  clear hy
  go_enter Tryd.func5, Tryd.ntmps5
  go_wp2_with fail
  have HX := BL.one w #[.slice A1 na ca] 24
  replace Pa := Pa.ext HX.below
  replace hT := hT.ext HX.below
  refine (awake_h hT).mono ?_
  rintro e w1 ⟨rfl, hb⟩
  replace HX := HX.ext hb
  replace hT := hT.ext hb
  replace Pa := Pa.ext hb
  clear hb
  have hc0 := HX.cell 0 0 rfl rfl
  try simp only [List.getElem_toArray, List.getElem_cons_zero] at hc0
  go_wp2_with fail
  refine (rfew_h hf0 (by omega) (by omega)).mono ?_
  rintro e w2 ⟨rfl, hb⟩
  clear hc0
  replace HX := HX.ext hb
  replace hT := hT.ext hb
  replace Pa := Pa.ext hb
  clear hb
  clear hf0
  have hc0 := HX.cell 0 0 rfl rfl
  try simp only [List.getElem_toArray, List.getElem_cons_zero] at hc0
  go_wp2_with fail
  refine (nsmall_h Hsv Hsb Pa (by omega)).mono ?_
  rintro e w3 ⟨rfl, hb⟩
  clear hc0
  replace HX := HX.ext hb
  replace hT := hT.ext hb
  replace Pa := Pa.ext hb
  clear hb
  have hc0 := HX.cell 0 0 rfl rfl
  try simp only [List.getElem_toArray, List.getElem_cons_zero] at hc0
  go_wp2_with fail
  refine (rsmall_h Hsv Hsb Pa (by omega)).mono ?_
  rintro e w4 ⟨rfl, hb⟩
  clear hc0
  replace HX := HX.ext hb
  replace hT := hT.ext hb
  replace Pa := Pa.ext hb
  clear hb
  go_wp2_with fail
  have held : ∀ {W' : World}, BL w W' [(w.heap.size, #[.slice A1 na ca], 24)] → W'.cell? ⟨w.heap.size, 0, none⟩ = some (.slice A1 na ca) := fun h => h.cell 0 0 rfl rfl
  replace HX := HX.ext (drew_ext _)
  replace hT := hT.ext (drew_ext _)
  replace Pa := Pa.ext (drew_ext _)
  go_region_held3 (fun W' => W'.cell? ⟨w.heap.size, 0, none⟩ = some (.slice A1 na ca))
    (exact held HX)
    (first
      | (go_at_call 25; refine (nof_h Hy zy (by omega)).mono ?_; rintro e w5 ⟨A5, c5, rfl, F5, hb⟩; replace HX := HX.ext hb; replace hT := hT.ext hb; replace Pa := Pa.ext hb; clear hb)
      | (go_at_call_of 24 (Value.agg #[.slice A5 (dig y).length c5]); go_at_call_of 24 (Value.agg #[.slice A1 na ca]); refine (ncmp_h Hc F5.nr Pa (by omega) (by omega)).mono ?_; rintro e w6 ⟨rfl, hb⟩; replace HX := HX.ext hb; replace hT := hT.ext hb; replace Pa := Pa.ext hb; replace F5 := F5.ext hb; clear hb))
  go_wp2
  go_ret
  exact ⟨by first | rfl | simp, HX.below⟩

set_option maxHeartbeats 2000000 in
set_option maxRecDepth 100000 in
theorem nlarge_not {A1 : Option Addr} {na ca : Nat} {a : Nat} (w : World) (hT : Tab w) (Pa : Nr w A1 na ca a 12) (hf0 : Hid (fewN na na = true)) (hv : Hid (18446744073709551616 ≤ a)) :
    Calls Tryd.prog 5 #[.agg #[.slice A1 na ca]] w (RetB w true) := by
  have za := Pa.len
  have ya := Pa.le
  have Hsv : Hid ((smallV a : Int) = 0) := Lib.hid (by rw [smallV, if_neg (by have := hv.out; omega)]; rfl)
  have Hsb : Hid (decide (a < 18446744073709551616) = false) := Lib.hid (decide_eq_false (by have := hv.out; omega))
  go_enter Tryd.func5, Tryd.ntmps5
  go_wp2_with fail
  have HX := BL.one w #[.slice A1 na ca] 24
  replace Pa := Pa.ext HX.below
  replace hT := hT.ext HX.below
  refine (awake_h hT).mono ?_
  rintro e w1 ⟨rfl, hb⟩
  replace HX := HX.ext hb
  replace hT := hT.ext hb
  replace Pa := Pa.ext hb
  clear hb
  have hc0 := HX.cell 0 0 rfl rfl
  try simp only [List.getElem_toArray, List.getElem_cons_zero] at hc0
  go_wp2_with fail
  refine (rfew_h hf0 (by omega) (by omega)).mono ?_
  rintro e w2 ⟨rfl, hb⟩
  clear hc0
  replace HX := HX.ext hb
  replace hT := hT.ext hb
  replace Pa := Pa.ext hb
  clear hb
  clear hf0
  have hc0 := HX.cell 0 0 rfl rfl
  try simp only [List.getElem_toArray, List.getElem_cons_zero] at hc0
  go_wp2_with fail
  refine (nsmall_h Hsv Hsb Pa (by omega)).mono ?_
  rintro e w3 ⟨rfl, hb⟩
  clear hc0
  replace HX := HX.ext hb
  replace hT := hT.ext hb
  replace Pa := Pa.ext hb
  clear hb
  have hc0 := HX.cell 0 0 rfl rfl
  try simp only [List.getElem_toArray, List.getElem_cons_zero] at hc0
  go_wp2_with fail
  refine (rsmall_h Hsv Hsb Pa (by omega)).mono ?_
  rintro e w4 ⟨rfl, hb⟩
  clear hc0
  replace HX := HX.ext hb
  replace hT := hT.ext hb
  replace Pa := Pa.ext hb
  clear hb
  go_wp2_with fail
  go_quiet (fail)
  replace HX := HX.ext (drew_below (Below.refl _ _) nq)
  go_wp2
  go_ret
  exact ⟨by first | rfl | simp, HX.below⟩

theorem nlarge_any {A1 : Option Addr} {na ca : Nat} (w : World) (hT : Tab w) (Pa : NArg w A1 na ca) :
    Calls Tryd.prog 5 #[.agg #[.slice A1 na ca]] w (RetB w true) := by
  cases hf0 : fewN na na
  · exact nlarge_few0 w hT Pa.hn (Lib.hid hf0)
  · have b0 := fewN_true hf0
    obtain ⟨a, Qa⟩ := Pa.nr (k := 12) (by omega)
    rcases Nat.lt_or_ge a 18446744073709551616 with hv | hv
    · exact nlarge_fit w hT Qa (Lib.hid hf0) (Lib.hid hv)
    · exact nlarge_not w hT Qa (Lib.hid hf0) (Lib.hid hv)
end Go.Proofs.YtjacffmoccpogaaDoor
