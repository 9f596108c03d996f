/- The statement NaturalMatchesReference: its walk. -/
import Derived.Test.YtjacffmoccpogaaDoorNCom
namespace Go.Proofs.YtjacffmoccpogaaDoor
open Go.RowKit Go.Proofs Go

set_option maxHeartbeats 400000 in
set_option maxRecDepth 100000 in
theorem nmatch_few0 {A1 : Option Addr} {na ca : Nat} {B1 : Option Addr} {nb cb : Nat} (w : World) (hT : Tab w) (hna : na ≤ 9223372036854775807) (hnb : nb ≤ 9223372036854775807) (hf0 : Hid (fewN na nb = false)) :
    Calls Tryd.prog 10 #[.agg #[.slice A1 na ca], .agg #[.slice B1 nb cb]] w (RetB w true) := by
  go_enter Tryd.func10, Tryd.ntmps10
  go_wp2_with fail
  have HX := BL.two w #[.slice A1 na ca] #[.slice B1 nb cb] 24 24
  replace hT := hT.ext HX.below
  refine (awake_h hT).mono ?_
  rintro e w1 ⟨rfl, hb⟩
  replace HX := HX.ext hb
  replace hT := hT.ext hb
  clear hb
  have hc0 := HX.cell 0 0 rfl rfl
  have hc1 := HX.cell 1 0 rfl rfl
  try simp only [List.getElem_toArray, List.getElem_cons_zero] at hc0 hc1
  go_wp2_with fail
  refine (rfew_h hf0 (by omega) (by omega)).mono ?_
  rintro e w2 ⟨rfl, hb⟩
  clear hc0 hc1
  replace HX := HX.ext hb
  replace hT := hT.ext hb
  clear hb
  go_wp2_with fail
  refine (awake_h hT).mono ?_
  rintro e w98 ⟨rfl, hb⟩
  replace HX := HX.ext hb
  go_wp2
  go_ret
  exact ⟨rfl, HX.below⟩

set_option maxHeartbeats 2000000 in
set_option maxRecDepth 100000 in
theorem nmatch_yes {A1 : Option Addr} {na ca : Nat} {B1 : Option Addr} {nb cb : Nat} {a b : Nat} (w : World) (hT : Tab w) (Pa : Nr w A1 na ca a 12) (Pb : Nr w B1 nb cb b 12) (hf0 : Hid (fewN na nb = true)) :
    Calls Tryd.prog 10 #[.agg #[.slice A1 na ca], .agg #[.slice B1 nb cb]] w (RetB w true) := by
  have za := Pa.len
  have ya := Pa.le
  have zb := Pb.len
  have yb := Pb.le
  obtain ⟨u, hu⟩ : ∃ u, a + b = u := ⟨_, rfl⟩
  have zu : (dig u).length ≤ 60 := by rw [← hu]; exact Nat.le_trans (add_len za zb) (by omega)
  have Hu := Lib.hid hu
  obtain ⟨x, hx⟩ : ∃ x, a * b = x := ⟨_, rfl⟩
  have zx : (dig x).length ≤ 60 := by rw [← hx]; exact Nat.le_trans (mul_len za zb) (by omega)
  have Hx := Lib.hid hx
  obtain ⟨y, hy⟩ : ∃ y, a = y := ⟨_, rfl⟩
  have zy : (dig y).length ≤ 60 := by rw [← hy]; exact Nat.le_trans za (by omega)
  have Hy := Lib.hid hy
  obtain ⟨n, hn⟩ : ∃ n, cmpI a b = n := ⟨_, rfl⟩
  have Hn := Lib.hid hn
  obtain ⟨d, hd⟩ : ∃ d, (Lib.nDigits a : Int) = d := ⟨_, rfl⟩
  have Hd := Lib.hid hd
  clear hu hx hy hn hd
  go_enter Tryd.func10, Tryd.ntmps10
  go_wp2_with fail
  have HX := BL.two w #[.slice A1 na ca] #[.slice B1 nb cb] 24 24
  replace Pa := Pa.ext HX.below
  replace Pb := Pb.ext HX.below
  replace hT := hT.ext HX.below
  refine (awake_h hT).mono ?_
  rintro e w1 ⟨rfl, hb⟩
  replace HX := HX.ext hb
  replace hT := hT.ext hb
  replace Pa := Pa.ext hb
  replace Pb := Pb.ext hb
  clear hb
  have hc0 := HX.cell 0 0 rfl rfl
  have hc1 := HX.cell 1 0 rfl rfl
  try simp only [List.getElem_toArray, List.getElem_cons_zero] at hc0 hc1
  go_wp2_with fail
  refine (rfew_h hf0 (by omega) (by omega)).mono ?_
  rintro e w2 ⟨rfl, hb⟩
  clear hc0 hc1
  replace HX := HX.ext hb
  replace hT := hT.ext hb
  replace Pa := Pa.ext hb
  replace Pb := Pb.ext hb
  clear hb
  clear hf0
  go_wp2_with fail
  have held : ∀ {W' : World}, BL w W' [(w.heap.size, #[.slice A1 na ca], 24), (w.heap.size + 1, #[.slice B1 nb cb], 24)] → W'.cell? ⟨w.heap.size, 0, none⟩ = some (.slice A1 na ca) ∧ W'.cell? ⟨w.heap.size + 1, 0, none⟩ = some (.slice B1 nb cb) := fun h => ⟨h.cell 0 0 rfl rfl, h.cell 1 0 rfl rfl⟩
  replace HX := HX.ext (drew_ext _)
  replace hT := hT.ext (drew_ext _)
  replace Pa := Pa.ext (drew_ext _)
  replace Pb := Pb.ext (drew_ext _)
  go_region_held3 (fun W' => W'.cell? ⟨w.heap.size, 0, none⟩ = some (.slice A1 na ca) ∧ W'.cell? ⟨w.heap.size + 1, 0, none⟩ = some (.slice B1 nb cb))
    (exact held HX)
    (first
      | (go_at_call_of 34 (Value.agg #[.slice A1 na ca]); go_at_call_of 34 (Value.agg #[.slice B1 nb cb]); refine (nadd_h Hu zu Pa Pb (by omega) (by omega)).mono ?_; rintro e w3 ⟨A3, c3, rfl, F3, hb⟩; replace HX := HX.ext hb; replace hT := hT.ext hb; replace Pa := Pa.ext hb; replace Pb := Pb.ext hb; clear hb)
      | (go_at_call_of 36 (Value.agg #[.slice A1 na ca]); go_at_call_of 36 (Value.agg #[.slice B1 nb cb]); refine (radd_h Hu zu Pa Pb (by omega) (by omega)).mono ?_; rintro e w4 ⟨A4, c4, rfl, F4, hb⟩; replace HX := HX.ext hb; replace hT := hT.ext hb; replace Pa := Pa.ext hb; replace Pb := Pb.ext hb; replace F3 := F3.ext hb; clear hb)
      | (go_at_call_of 18 (Value.agg #[.slice A3 (dig u).length c3]); go_at_call_of 18 (Value.agg #[.slice A4 (dig u).length c4]); refine (same_h (Lib.hid (decide_eq_true rfl)) F3 F4 (by omega) (by omega)).mono ?_; rintro e w5 ⟨rfl, hb⟩; replace HX := HX.ext hb; replace hT := hT.ext hb; replace Pa := Pa.ext hb; replace Pb := Pb.ext hb; replace F3 := F3.ext hb; replace F4 := F4.ext hb; clear hb)
      | (go_at_call_of 31 (Value.agg #[.slice A1 na ca]); go_at_call_of 31 (Value.agg #[.slice B1 nb cb]); refine (nmul_h Hx zx Pa Pb (by omega) (by omega)).mono ?_; rintro e w6 ⟨A6, c6, rfl, F6, hb⟩; replace HX := HX.ext hb; replace hT := hT.ext hb; replace Pa := Pa.ext hb; replace Pb := Pb.ext hb; replace F3 := F3.ext hb; replace F4 := F4.ext hb; clear hb)
      | (go_at_call_of 37 (Value.agg #[.slice A1 na ca]); go_at_call_of 37 (Value.agg #[.slice B1 nb cb]); refine (rmul_h Hx zx Pa Pb (by omega) (by omega)).mono ?_; rintro e w7 ⟨A7, c7, rfl, F7, hb⟩; replace HX := HX.ext hb; replace hT := hT.ext hb; replace Pa := Pa.ext hb; replace Pb := Pb.ext hb; replace F3 := F3.ext hb; replace F4 := F4.ext hb; replace F6 := F6.ext hb; clear hb)
      | (go_at_call_of 18 (Value.agg #[.slice A6 (dig x).length c6]); go_at_call_of 18 (Value.agg #[.slice A7 (dig x).length c7]); refine (same_h (Lib.hid (decide_eq_true rfl)) F6 F7 (by omega) (by omega)).mono ?_; rintro e w8 ⟨rfl, hb⟩; replace HX := HX.ext hb; replace hT := hT.ext hb; replace Pa := Pa.ext hb; replace Pb := Pb.ext hb; replace F3 := F3.ext hb; replace F4 := F4.ext hb; replace F6 := F6.ext hb; replace F7 := F7.ext hb; clear hb)
      | (go_at_call_of 24 (Value.agg #[.slice A1 na ca]); go_at_call_of 24 (Value.agg #[.slice B1 nb cb]); refine (ncmp_h Hn Pa Pb (by omega) (by omega)).mono ?_; rintro e w9 ⟨rfl, hb⟩; replace HX := HX.ext hb; replace hT := hT.ext hb; replace Pa := Pa.ext hb; replace Pb := Pb.ext hb; replace F3 := F3.ext hb; replace F4 := F4.ext hb; replace F6 := F6.ext hb; replace F7 := F7.ext hb; clear hb)
      | (go_at_call_of 38 (Value.agg #[.slice A1 na ca]); go_at_call_of 38 (Value.agg #[.slice B1 nb cb]); refine (rcmp_h Hn Pa Pb (by omega) (by omega)).mono ?_; rintro e w10 ⟨rfl, hb⟩; replace HX := HX.ext hb; replace hT := hT.ext hb; replace Pa := Pa.ext hb; replace Pb := Pb.ext hb; replace F3 := F3.ext hb; replace F4 := F4.ext hb; replace F6 := F6.ext hb; replace F7 := F7.ext hb; clear hb)
      | (go_at_call_of 35 (Value.agg #[.slice A1 na ca]); refine (nnorm_h Hy zy Pa (by omega)).mono ?_; rintro e w11 ⟨A11, c11, rfl, F11, hb⟩; replace HX := HX.ext hb; replace hT := hT.ext hb; replace Pa := Pa.ext hb; replace Pb := Pb.ext hb; replace F3 := F3.ext hb; replace F4 := F4.ext hb; replace F6 := F6.ext hb; replace F7 := F7.ext hb; clear hb)
      | (go_at_call_of 19 (Value.agg #[.slice A1 na ca]); refine (rnorm_h Hy zy Pa (by omega)).mono ?_; rintro e w12 ⟨A12, c12, rfl, F12, hb⟩; replace HX := HX.ext hb; replace hT := hT.ext hb; replace Pa := Pa.ext hb; replace Pb := Pb.ext hb; replace F3 := F3.ext hb; replace F4 := F4.ext hb; replace F6 := F6.ext hb; replace F7 := F7.ext hb; replace F11 := F11.ext hb; clear hb)
      | (go_at_call_of 18 (Value.agg #[.slice A11 (dig y).length c11]); go_at_call_of 18 (Value.agg #[.slice A12 (dig y).length c12]); refine (same_h (Lib.hid (decide_eq_true rfl)) F11 F12 (by omega) (by omega)).mono ?_; rintro e w13 ⟨rfl, hb⟩; replace HX := HX.ext hb; replace hT := hT.ext hb; replace Pa := Pa.ext hb; replace Pb := Pb.ext hb; replace F3 := F3.ext hb; replace F4 := F4.ext hb; replace F6 := F6.ext hb; replace F7 := F7.ext hb; replace F11 := F11.ext hb; replace F12 := F12.ext hb; clear hb)
      | (go_at_call_of 20 (Value.agg #[.slice A1 na ca]); refine (ndigits_h Hd Pa (by omega) hT).mono ?_; rintro e w14 ⟨rfl, hb⟩; replace HX := HX.ext hb; replace hT := hT.ext hb; replace Pa := Pa.ext hb; replace Pb := Pb.ext hb; replace F3 := F3.ext hb; replace F4 := F4.ext hb; replace F6 := F6.ext hb; replace F7 := F7.ext hb; replace F11 := F11.ext hb; replace F12 := F12.ext hb; clear hb)
      | (go_at_call_of 39 (Value.agg #[.slice A1 na ca]); refine (rdigits_h Hd Pa (by omega)).mono ?_; rintro e w15 ⟨rfl, hb⟩; replace HX := HX.ext hb; replace hT := hT.ext hb; replace Pa := Pa.ext hb; replace Pb := Pb.ext hb; replace F3 := F3.ext hb; replace F4 := F4.ext hb; replace F6 := F6.ext hb; replace F7 := F7.ext hb; replace F11 := F11.ext hb; replace F12 := F12.ext hb; clear hb))
  go_wp2
  go_ret
  exact ⟨by first | rfl | simp, HX.below⟩

theorem nmatch_any {A1 : Option Addr} {na ca : Nat} {B1 : Option Addr} {nb cb : Nat} (w : World) (hT : Tab w) (Pa : NArg w A1 na ca) (Pb : NArg w B1 nb cb) :
    Calls Tryd.prog 10 #[.agg #[.slice A1 na ca], .agg #[.slice B1 nb cb]] w (RetB w true) := by
  cases hf0 : fewN na nb
  · exact nmatch_few0 w hT Pa.hn Pb.hn (Lib.hid hf0)
  · have b0 := fewN_true hf0
    obtain ⟨a, Qa⟩ := Pa.nr (k := 12) (by omega)
    obtain ⟨b, Qb⟩ := Pb.nr (k := 12) (by omega)
    exact nmatch_yes w hT Qa Qb (Lib.hid hf0)
end Go.Proofs.YtjacffmoccpogaaDoor
