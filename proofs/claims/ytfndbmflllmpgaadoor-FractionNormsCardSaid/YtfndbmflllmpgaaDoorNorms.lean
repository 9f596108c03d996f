/- The statement FractionNorms: its walk. -/
import Derived.Test.YtfndbmflllmpgaaDoorROps
namespace Go.Proofs.YtfndbmflllmpgaaDoor
open Go.RowKit Go.Proofs Go

set_option maxHeartbeats 800000 in
set_option maxRecDepth 100000 in
theorem fnorms_few {x0 x1 : Int} {s1 : Bool} {A1' B1' : Option Addr} {n1 c1' m1 d1' : Nat} (w : World) (hT : Tab w) (hlens : Hid (∀ x ∈ [(FE.mk s1 A1' n1 c1' B1' m1 d1')], x.n ≤ 9223372036854775807 ∧ x.m ≤ 9223372036854775807)) (hfew : Hid (fewB [(FE.mk s1 A1' n1 c1' B1' m1 d1')] = false)) :
    Calls Tryd.prog 4 #[.int .i64 x0, .int .i64 x1, .agg #[.bool s1, .slice A1' n1 c1', .slice B1' m1 d1']] w (RetB w true) := by
  go_enter Tryd.func4, Tryd.ntmps4
  go_wp2_with fail
  have HX := BL.one w #[.bool s1, .slice A1' n1 c1', .slice B1' m1 d1'] 26
  refine (awake_h (hT.ext HX.below)).mono ?_
  rintro e w1 ⟨rfl, hb⟩
  replace HX := HX.ext hb
  clear hb
  have hc00 := HX.cell 0 0 rfl rfl
  have hc01 := HX.cell 0 1 rfl rfl
  have hc02 := HX.cell 0 2 rfl rfl
  simp only [] at hc00 hc01 hc02
  go_wp2_with fail
  have hfs := FS.lit w1 26 [(FE.mk s1 A1' n1 c1' B1' m1 d1')] #[.bool s1, .slice A1' n1 c1', .slice B1' m1 d1'] rfl
  refine (few_any _ 1 1 _ _ hfs rfl (by omega) hlens.out).mono ?_
  rintro e w2 ⟨rfl, rfl⟩
  rw [hfew.out]
  have hb := below_alloc w1 (.cells #[.bool s1, .slice A1' n1 c1', .slice B1' m1 d1'] 26)
  clear hfs hc00 hc01 hc02
  replace HX := HX.ext hb
  clear hb
  generalize w1.alloc (.cells #[.bool s1, .slice A1' n1 c1', .slice B1' m1 d1'] 26) = w2 at *
  go_wp2_with fail
  refine (awake_h (hT.ext HX.below)).mono ?_
  rintro e w3 ⟨rfl, hb⟩
  replace HX := HX.ext hb
  go_wp2
  go_ret
  exact ⟨rfl, HX.below⟩

set_option maxHeartbeats 4000000 in
set_option maxRecDepth 100000 in
theorem fnorms_yes {x0 x1 : Int} {s1 : Bool} {A1' B1' : Option Addr} {n1 c1' m1 d1' : Nat} {a : Rat} (w : World) (hT : Tab w) (b0 : -9223372036854775808 ≤ x0) (b1 : x0 ≤ 9223372036854775807) (b2 : -9223372036854775808 ≤ x1) (b3 : x1 ≤ 9223372036854775807) (Pa : Fr w s1 A1' n1 c1' B1' m1 d1' a 6) (hlens : Hid (∀ x ∈ [(FE.mk s1 A1' n1 c1' B1' m1 d1')], x.n ≤ 9223372036854775807 ∧ x.m ≤ 9223372036854775807)) (hfew : Hid (fewB [(FE.mk s1 A1' n1 c1' B1' m1 d1')] = true)) :
    Calls Tryd.prog 4 #[.int .i64 x0, .int .i64 x1, .agg #[.bool s1, .slice A1' n1 c1', .slice B1' m1 d1']] w (RetB w true) := by
  have za := Pa.sz
  obtain ⟨u, hu⟩ : ∃ u, rv (!(decide (x0 < 0) == decide (x1 < 0))) x0.natAbs x1.natAbs = u := ⟨_, rfl⟩
  obtain ⟨v, hv⟩ : ∃ v, -a = v := ⟨_, rfl⟩
  obtain ⟨n, hn⟩ : ∃ n, sgn a = n := ⟨_, rfl⟩
  have e1 : (dig x0.natAbs).length ≤ 3 := dig_len_le (Nat.lt_of_le_of_lt (show x0.natAbs ≤ 9223372036854775808 by omega) (by decide))
  have e2 : (dig x1.natAbs).length ≤ 3 := dig_len_le (Nat.lt_of_le_of_lt (show x1.natAbs ≤ 9223372036854775808 by omega) (by decide))
  have zu : Sz u 3 := hu ▸ Sz.of_rv e1 e2 (by omega)
  have zv : Sz v 7 := hv ▸ za.neg
  have Hu := Lib.hid hu
  have Hv := Lib.hid hv
  have Hn := Lib.hid hn
  clear hu hv hn e1 e2
  go_enter Tryd.func4, Tryd.ntmps4
  go_wp2_with fail
  have HX := BL.one w #[.bool s1, .slice A1' n1 c1', .slice B1' m1 d1'] 26
  replace Pa := Pa.ext HX.below
  refine (awake_h (hT.ext HX.below)).mono ?_
  rintro e w1 ⟨rfl, hb⟩
  replace HX := HX.ext hb
  replace Pa := Pa.ext hb
  clear hb
  have hc00 := HX.cell 0 0 rfl rfl
  have hc01 := HX.cell 0 1 rfl rfl
  have hc02 := HX.cell 0 2 rfl rfl
  simp only [] at hc00 hc01 hc02
  go_wp2_with fail
  have hfs := FS.lit w1 26 [(FE.mk s1 A1' n1 c1' B1' m1 d1')] #[.bool s1, .slice A1' n1 c1', .slice B1' m1 d1'] rfl
  refine (few_any _ 1 1 _ _ hfs rfl (by omega) hlens.out).mono ?_
  rintro e w2 ⟨rfl, rfl⟩
  rw [hfew.out]
  have hb := below_alloc w1 (.cells #[.bool s1, .slice A1' n1 c1', .slice B1' m1 d1'] 26)
  clear hfs hc00 hc01 hc02
  replace HX := HX.ext hb
  replace Pa := Pa.ext hb
  clear hb
  generalize w1.alloc (.cells #[.bool s1, .slice A1' n1 c1', .slice B1' m1 d1'] 26) = w2 at *
  clear hlens hfew
  go_wp2_with fail
  have held : ∀ {W' : World}, BL w W' [(w.heap.size, #[.bool s1, .slice A1' n1 c1', .slice B1' m1 d1'], 26)] → W'.cell? ⟨w.heap.size, 0, none⟩ = some (.bool s1) ∧ W'.cell? ⟨w.heap.size, 1, none⟩ = some (.slice A1' n1 c1') ∧ W'.cell? ⟨w.heap.size, 2, none⟩ = some (.slice B1' m1 d1') := fun h => ⟨h.cell 0 0 rfl rfl, h.cell 0 1 rfl rfl, h.cell 0 2 rfl rfl⟩
  replace HX := HX.ext (drew_ext _)
  replace Pa := Pa.ext (drew_ext _)
  skip
  go_region_held3 (fun W' => W'.cell? ⟨w.heap.size, 0, none⟩ = some (.bool s1) ∧ W'.cell? ⟨w.heap.size, 1, none⟩ = some (.slice A1' n1 c1') ∧ W'.cell? ⟨w.heap.size, 2, none⟩ = some (.slice B1' m1 d1'))
    (exact held HX)
    (first
      | (go_at_call 15; refine (fof_h Hu zu (by omega) (by omega) (by omega) (by omega)).mono ?_; rintro e w3 ⟨A3, c3, B3, d3, rfl, F3, hb⟩; replace HX := HX.ext hb; replace Pa := Pa.ext hb; clear hb)
      | (go_at_call 16; refine (qof_h Hu zu (by omega) (by omega) (by omega) (by omega)).mono ?_; rintro e w4 ⟨A4, c4, B4, d4, rfl, F4, hb⟩; replace HX := HX.ext hb; replace Pa := Pa.ext hb; replace F3 := F3.ext hb; clear hb)
      | (go_at_call_of 14 (Value.slice A3 (dig (nu u)).length c3); go_at_call_of 14 (Value.slice A4 (dig (nu u)).length c4); refine (bfrac_s F3 F4 (by omega) (by omega)).mono ?_; rintro e w5 ⟨rfl, hb⟩; replace HX := HX.ext hb; replace Pa := Pa.ext hb; replace F3 := F3.ext hb; replace F4 := F4.ext hb; clear hb)
      | (go_at_call_of 17 (Value.slice A1' n1 c1'); refine (fnorm_s za Pa (by omega)).mono ?_; rintro e w6 ⟨A6, c6, B6, d6, rfl, F6, hb⟩; replace HX := HX.ext hb; replace Pa := Pa.ext hb; replace F3 := F3.ext hb; replace F4 := F4.ext hb; clear hb)
      | (go_at_call_of 18 (Value.slice A1' n1 c1'); refine (qnorm_s za Pa (by omega)).mono ?_; rintro e w7 ⟨A7, c7, B7, d7, rfl, F7, hb⟩; replace HX := HX.ext hb; replace Pa := Pa.ext hb; replace F3 := F3.ext hb; replace F4 := F4.ext hb; replace F6 := F6.ext hb; clear hb)
      | (go_at_call_of 14 (Value.slice A6 (dig (nu a)).length c6); go_at_call_of 14 (Value.slice A7 (dig (nu a)).length c7); refine (bfrac_s F6 F7 (by omega) (by omega)).mono ?_; rintro e w8 ⟨rfl, hb⟩; replace HX := HX.ext hb; replace Pa := Pa.ext hb; replace F3 := F3.ext hb; replace F4 := F4.ext hb; replace F6 := F6.ext hb; replace F7 := F7.ext hb; clear hb)
      | (go_at_call_of 19 (Value.slice A1' n1 c1'); refine (fneg_h Hv zv Pa (by omega)).mono ?_; rintro e w9 ⟨A9, c9, B9, d9, rfl, F9, hb⟩; replace HX := HX.ext hb; replace Pa := Pa.ext hb; replace F3 := F3.ext hb; replace F4 := F4.ext hb; replace F6 := F6.ext hb; replace F7 := F7.ext hb; clear hb)
      | (go_at_call_of 20 (Value.slice A1' n1 c1'); refine (qneg_h Hv zv Pa (by omega)).mono ?_; rintro e w10 ⟨A10, c10, B10, d10, rfl, F10, hb⟩; replace HX := HX.ext hb; replace Pa := Pa.ext hb; replace F3 := F3.ext hb; replace F4 := F4.ext hb; replace F6 := F6.ext hb; replace F7 := F7.ext hb; replace F9 := F9.ext hb; clear hb)
      | (go_at_call_of 14 (Value.slice A9 (dig (nu v)).length c9); go_at_call_of 14 (Value.slice A10 (dig (nu v)).length c10); refine (bfrac_s F9 F10 (by omega) (by omega)).mono ?_; rintro e w11 ⟨rfl, hb⟩; replace HX := HX.ext hb; replace Pa := Pa.ext hb; replace F3 := F3.ext hb; replace F4 := F4.ext hb; replace F6 := F6.ext hb; replace F7 := F7.ext hb; replace F9 := F9.ext hb; replace F10 := F10.ext hb; clear hb)
      | (go_at_call_of 21 (Value.slice A1' n1 c1'); refine (fsign_h Hn Pa (by omega)).mono ?_; rintro e w12 ⟨rfl, hb⟩; replace HX := HX.ext hb; replace Pa := Pa.ext hb; replace F3 := F3.ext hb; replace F4 := F4.ext hb; replace F6 := F6.ext hb; replace F7 := F7.ext hb; replace F9 := F9.ext hb; replace F10 := F10.ext hb; clear hb)
      | (go_at_call_of 22 (Value.slice A1' n1 c1'); refine (qsign_h Hn Pa (by omega)).mono ?_; rintro e w13 ⟨rfl, hb⟩; replace HX := HX.ext hb; replace Pa := Pa.ext hb; replace F3 := F3.ext hb; replace F4 := F4.ext hb; replace F6 := F6.ext hb; replace F7 := F7.ext hb; replace F9 := F9.ext hb; replace F10 := F10.ext hb; clear hb))
  go_wp2
  go_ret
  exact ⟨by first | rfl | simp, HX.below⟩

theorem fnorms_any {x0 x1 : Int} {s1 : Bool} {A1' B1' : Option Addr} {n1 c1' m1 d1' : Nat} (w : World) (hT : Tab w) (b0 : -9223372036854775808 ≤ x0) (b1 : x0 ≤ 9223372036854775807) (b2 : -9223372036854775808 ≤ x1) (b3 : x1 ≤ 9223372036854775807) (Pa : Arg w s1 A1' n1 c1' B1' m1 d1') :
    Calls Tryd.prog 4 #[.int .i64 x0, .int .i64 x1, .agg #[.bool s1, .slice A1' n1 c1', .slice B1' m1 d1']] w (RetB w true) := by
  have hlens : ∀ x ∈ [(FE.mk s1 A1' n1 c1' B1' m1 d1')], x.n ≤ 9223372036854775807 ∧ x.m ≤ 9223372036854775807 := by
    intro x hx
    simp only [List.mem_cons, List.not_mem_nil, or_false] at hx
    subst hx; exact ⟨Pa.hn, Pa.hm⟩
  cases hf : fewB [(FE.mk s1 A1' n1 c1' B1' m1 d1')]
  · exact fnorms_few w hT (Lib.hid hlens) (Lib.hid hf)
  · have hf2 := hf
    rw [fewB1] at hf2
    simp only [Bool.and_eq_true, decide_eq_true_eq] at hf2
    obtain ⟨a, Pa'⟩ : ∃ q, Fr w s1 A1' n1 c1' B1' m1 d1' q 6 := Pa.fr (by omega) (by omega)
    exact fnorms_yes w hT b0 b1 b2 b3 Pa' (Lib.hid hlens) (Lib.hid hf)
end Go.Proofs.YtfndbmflllmpgaaDoor
