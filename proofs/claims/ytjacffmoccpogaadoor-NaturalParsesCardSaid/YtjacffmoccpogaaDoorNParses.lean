/- The statement NaturalParses: its walk. -/
import Derived.Test.YtjacffmoccpogaaDoorNCom
namespace Go.Proofs.YtjacffmoccpogaaDoor
open Go.RowKit Go.Proofs Go

set_option maxHeartbeats 400000 in
set_option maxRecDepth 100000 in
theorem nparses_long (L : List UInt8) (w : World) (hT : Tab w) (hl : L.length ≤ 9223372036854775807) (h1 : 4100 < L.length) :
    Calls Tryd.prog 4 #[.string (str L)] w (RetB w true) := by
  have hsz : (str L).size = L.length := str_size L
  go_enter Tryd.func4, Tryd.ntmps4
  go_wp2_with fail
  have HX := BL.nil w
  refine (awake_h hT).mono ?_
  rintro e w1 ⟨rfl, hb⟩
  replace HX := HX.ext hb
  replace hT := hT.ext hb
  clear hb
  go_wp2_with fail
  refine (awake_h hT).mono ?_
  rintro e w98 ⟨rfl, hb⟩
  replace HX := HX.ext hb
  go_wp2
  go_ret
  exact ⟨rfl, HX.below⟩

set_option maxHeartbeats 2000000 in
set_option maxRecDepth 100000 in
theorem nparses_ok (L : List UInt8) (w : World) (hT : Tab w) (hl : L.length ≤ 9223372036854775807) (h1 : L.length ≤ 4100) (hok : Hid (L.length ≤ 4000 ∧ numeral L = true)) :
    Calls Tryd.prog 4 #[.string (str L)] w (RetB w true) := by
  have hsz : (str L).size = L.length := str_size L
  have Hll : Hid (L.length ≤ 9223372036854775807) := Lib.hid hl
  obtain ⟨e1, e2⟩ := parse_ok hok.out.1 hok.out.2
  obtain ⟨N, hN⟩ : ∃ N, dval 0 L = N := ⟨_, rfl⟩
  rw [hN] at e1
  have Hv := Lib.hid e1
  have He := Lib.hid e2
  have HL : Hid (Lib.decDigits N = L) := Lib.hid (by rw [← hN]; exact (numeral_iff.1 hok.out.2).symm)
  have zN : (dig N).length ≤ 500 := by
    have h2 := dval_lt (numeral_all hok.out.2)
    obtain ⟨K, hK⟩ : ∃ K, K = 445 := ⟨_, rfl⟩
    have h3 : 10 ^ L.length ≤ 10 ^ (9 * K) := Nat.pow_le_pow_right (by omega) (by have := hok.out.1; omega)
    have h4 : (dig N).length ≤ K := dig_len_le (by rw [pw_ten, ← hN]; exact Nat.lt_of_lt_of_le h2 h3)
    omega
  have hself : ((str L).toList == (str L).toList) = true := beq_self_eq_true _
  clear e1 e2 hN
  go_enter Tryd.func4, Tryd.ntmps4
  go_wp2_with fail
  have HX := BL.nil w
  refine (awake_h hT).mono ?_
  rintro e w1 ⟨rfl, hb⟩
  replace HX := HX.ext hb
  replace hT := hT.ext hb
  clear hb
  go_wp2_with fail
  refine (nparse_h Hv He Hll zN).mono ?_
  rintro e w2 ⟨A2, c2, rfl, F2, hb⟩
  replace HX := HX.ext hb
  replace hT := hT.ext hb
  clear hb
  go_upto_region 4 with fail
  have hb := below_alloc w2 (.cells #[.slice A2 (dig N).length c2] 24)
  replace HX := HX.new #[.slice A2 (dig N).length c2] 24
  simp only [List.nil_append] at HX
  replace F2 := F2.ext hb
  replace hT := hT.ext hb
  clear hb
  generalize w2.alloc (.cells #[.slice A2 (dig N).length c2] 24) = W4 at *
  generalize w2.heap.size = g4 at *
  go_wp2_with fail
  refine (rparse_h Hv He Hll zN).mono ?_
  rintro e w3 ⟨A3, c3, rfl, F3, hb⟩
  replace HX := HX.ext hb
  replace hT := hT.ext hb
  replace F2 := F2.ext hb
  clear hb
  go_upto_region 5 with fail
  have hb := below_alloc w3 (.cells #[.slice A3 (dig N).length c3] 24)
  replace HX := HX.new #[.slice A3 (dig N).length c3] 24
  simp only [List.cons_append, List.nil_append] at HX
  replace F2 := F2.ext hb
  replace F3 := F3.ext hb
  replace hT := hT.ext hb
  clear hb
  generalize w3.alloc (.cells #[.slice A3 (dig N).length c3] 24) = W5 at *
  generalize w3.heap.size = g5 at *
  have hc0 := HX.cell 0 0 rfl rfl
  have hc1 := HX.cell 1 0 rfl rfl
  try simp only [List.getElem_toArray, List.getElem_cons_zero] at hc0 hc1
  go_wp2_with fail
  refine (same_h (Lib.hid (decide_eq_true rfl)) F2 F3 (by omega) (by omega)).mono ?_
  rintro e w4 ⟨rfl, hb⟩
  replace HX := HX.ext hb
  replace hT := hT.ext hb
  replace F2 := F2.ext hb
  replace F3 := F3.ext hb
  clear hb
  clear hc0 hc1
  have hc0 := HX.cell 0 0 rfl rfl
  try simp only [List.getElem_toArray, List.getElem_cons_zero] at hc0
  go_wp2_with fail
  refine (ntext_h HL F2.nr (by omega) hT).mono ?_
  rintro e w5 ⟨rfl, hb⟩
  clear hc0
  replace HX := HX.ext hb
  replace hT := hT.ext hb
  replace F2 := F2.ext hb
  replace F3 := F3.ext hb
  clear hb
  go_wp2
  go_ret
  exact ⟨by first | rfl | simp, HX.below⟩

set_option maxHeartbeats 2000000 in
set_option maxRecDepth 100000 in
theorem nparses_bad (L : List UInt8) (w : World) (hT : Tab w) (hl : L.length ≤ 9223372036854775807) (h1 : L.length ≤ 4100) (hok : Hid (parseE L ≠ 0 ∧ parseV L = 0)) :
    Calls Tryd.prog 4 #[.string (str L)] w (RetB w true) := by
  have hsz : (str L).size = L.length := str_size L
  have Hll : Hid (L.length ≤ 9223372036854775807) := Lib.hid hl
  obtain ⟨N, hN⟩ : ∃ N, parseV L = N := ⟨_, rfl⟩
  have Hv := Lib.hid hN
  obtain ⟨E, hE⟩ : ∃ E, parseE L = E := ⟨_, rfl⟩
  have He := Lib.hid hE
  have zN : (dig N).length ≤ 500 := by rw [← hN, hok.out.2, dig_zero]; simp
  have hE0 : (E == 0) = false := by rw [← hE, beq_eq_false_iff_ne]; exact hok.out.1
  have hE1 : (E != 0) = true := by rw [bne, hE0]; rfl
  clear hN hE
  go_enter Tryd.func4, Tryd.ntmps4
  go_wp2_with fail
  have HX := BL.nil w
  refine (awake_h hT).mono ?_
  rintro e w1 ⟨rfl, hb⟩
  replace HX := HX.ext hb
  replace hT := hT.ext hb
  clear hb
  go_wp2_with fail
  refine (nparse_h Hv He Hll zN).mono ?_
  rintro e w2 ⟨A2, c2, rfl, F2, hb⟩
  replace HX := HX.ext hb
  replace hT := hT.ext hb
  clear hb
  go_upto_region 4 with fail
  have hb := below_alloc w2 (.cells #[.slice A2 (dig N).length c2] 24)
  replace HX := HX.new #[.slice A2 (dig N).length c2] 24
  simp only [List.nil_append] at HX
  replace F2 := F2.ext hb
  replace hT := hT.ext hb
  clear hb
  generalize w2.alloc (.cells #[.slice A2 (dig N).length c2] 24) = W4 at *
  generalize w2.heap.size = g4 at *
  go_wp2_with fail
  refine (rparse_h Hv He Hll zN).mono ?_
  rintro e w3 ⟨A3, c3, rfl, F3, hb⟩
  replace HX := HX.ext hb
  replace hT := hT.ext hb
  replace F2 := F2.ext hb
  clear hb
  go_upto_region 5 with fail
  have hb := below_alloc w3 (.cells #[.slice A3 (dig N).length c3] 24)
  replace HX := HX.new #[.slice A3 (dig N).length c3] 24
  simp only [List.cons_append, List.nil_append] at HX
  replace F2 := F2.ext hb
  replace F3 := F3.ext hb
  replace hT := hT.ext hb
  clear hb
  generalize w3.alloc (.cells #[.slice A3 (dig N).length c3] 24) = W5 at *
  generalize w3.heap.size = g5 at *
  have hc0 := HX.cell 0 0 rfl rfl
  have hc1 := HX.cell 1 0 rfl rfl
  try simp only [List.getElem_toArray, List.getElem_cons_zero] at hc0 hc1
  go_wp2_with fail
  refine (same_h (Lib.hid (decide_eq_true rfl)) F2 F3 (by omega) (by omega)).mono ?_
  rintro e w4 ⟨rfl, hb⟩
  replace HX := HX.ext hb
  replace hT := hT.ext hb
  replace F2 := F2.ext hb
  replace F3 := F3.ext hb
  clear hb
  clear hc0 hc1
  go_wp2
  go_ret
  exact ⟨by first | rfl | simp, HX.below⟩

theorem nparses_any (L : List UInt8) (w : World) (hT : Tab w) (hl : L.length ≤ 9223372036854775807) :
    Calls Tryd.prog 4 #[.string (str L)] w (RetB w true) := by
  by_cases h1 : 4100 < L.length
  · exact nparses_long L w hT hl h1
  · by_cases h : L.length ≤ 4000 ∧ numeral L = true
    · exact nparses_ok L w hT hl (by omega) (Lib.hid h)
    · refine nparses_bad L w hT hl (by omega) (Lib.hid ?_)
      by_cases h2 : 4000 < L.length
      · obtain ⟨e1, e2⟩ := parse_long h2
        rw [e1, e2]; exact ⟨by decide, rfl⟩
      · obtain ⟨e1, e2⟩ := parse_bad (L := L) (by omega) (by rw [← Bool.not_eq_true]; exact fun hn => h ⟨by omega, hn⟩)
        rw [e1, e2]; exact ⟨by decide, rfl⟩
end Go.Proofs.YtjacffmoccpogaaDoor
