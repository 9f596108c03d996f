/- awake: the fixed calls of the statements on naturals. -/
import Derived.Test.YtjacffmoccpogaaDoorNOps2
namespace Go.Proofs.YtjacffmoccpogaaDoor
open Go.RowKit Go.Proofs Go

theorem nr_lit (W : World) (T : TypeId) {l : List Nat} {cs : Array Value} (hcs : cs.toList = ints .u32 l) (hs : ∀ j, at_ l j < 4294967296) {n k q : Nat} (hn : n = l.length) (hq : q = val l) (hk : n ≤ k) : Nr (W.alloc (.cells cs T)) (some ⟨W.heap.size, 0, none⟩) n n q k :=
  ⟨l, Lim.lit W T hcs hs n (by omega), hn, hq, hk⟩
theorem small2 {a b : Nat} (ha : a < 4294967296) (hb : b < 4294967296) : ∀ j, at_ [a, b] j < 4294967296 := fun j => by
  match j with
  | 0 => rw [at_zero]; exact ha
  | 1 => rw [at_succ, at_zero]; exact hb
  | j + 2 => rw [at_succ, at_succ, at_nil]; omega
theorem small1 {a : Nat} (ha : a < 4294967296) : ∀ j, at_ [a] j < 4294967296 := fun j => by
  match j with
  | 0 => rw [at_zero]; exact ha
  | j + 1 => rw [at_succ, at_nil]; omega
theorem dig_4e9 : dig 4000000000 = [0, 4] := by
  rw [dig_pos (by omega), show 4000000000 / 1000000000 = 4 from rfl, dig_one (by omega) (by omega)]
theorem eq_beq {L M : List UInt8} (h : L = M) : ((str L).toList == M) = true := by rw [str_toList, h]; exact beq_self_eq_true _
set_option maxHeartbeats 4000000 in
set_option maxRecDepth 100000 in
theorem awake_any (w : World) (hT : Tab w) : Calls Tryd.prog 13 #[] w (RetB w true) := by
  obtain ⟨x17, ex17⟩ : ∃ x17 : Nat, 17 = x17 := ⟨_, rfl⟩
  obtain ⟨x5, ex5⟩ : ∃ x5 : Nat, 5 = x5 := ⟨_, rfl⟩
  obtain ⟨x3, ex3⟩ : ∃ x3 : Nat, 3 = x3 := ⟨_, rfl⟩
  obtain ⟨x2, ex2⟩ : ∃ x2 : Nat, 2 = x2 := ⟨_, rfl⟩
  obtain ⟨x1024, ex1024⟩ : ∃ x1024 : Nat, 1024 = x1024 := ⟨_, rfl⟩
  obtain ⟨x7, ex7⟩ : ∃ x7 : Nat, 7 = x7 := ⟨_, rfl⟩
  obtain ⟨x1000, ex1000⟩ : ∃ x1000 : Nat, 1000 = x1000 := ⟨_, rfl⟩
  obtain ⟨y, ey⟩ : ∃ y : Nat, 1000000007 = y := ⟨_, rfl⟩
  obtain ⟨x12, ex12⟩ : ∃ x12 : Nat, 12 = x12 := ⟨_, rfl⟩
  obtain ⟨x18, ex18⟩ : ∃ x18 : Nat, 18 = x18 := ⟨_, rfl⟩
  obtain ⟨x6, ex6⟩ : ∃ x6 : Nat, 6 = x6 := ⟨_, rfl⟩
  obtain ⟨z, ez⟩ : ∃ z : Nat, 4000000000 = z := ⟨_, rfl⟩
  have zx17 : (dig x17).length ≤ 3 := by rw [← ex17]; exact dig_len_le (by decide)
  have zx5 : (dig x5).length ≤ 3 := by rw [← ex5]; exact dig_len_le (by decide)
  have zx3 : (dig x3).length ≤ 3 := by rw [← ex3]; exact dig_len_le (by decide)
  have zx2 : (dig x2).length ≤ 3 := by rw [← ex2]; exact dig_len_le (by decide)
  have zx1024 : (dig x1024).length ≤ 3 := by rw [← ex1024]; exact dig_len_le (by decide)
  have zx7 : (dig x7).length ≤ 3 := by rw [← ex7]; exact dig_len_le (by decide)
  have zx1000 : (dig x1000).length ≤ 3 := by rw [← ex1000]; exact dig_len_le (by decide)
  have zy : (dig y).length ≤ 3 := by rw [← ey]; exact dig_len_le (by decide)
  have zx12 : (dig x12).length ≤ 3 := by rw [← ex12]; exact dig_len_le (by decide)
  have zx18 : (dig x18).length ≤ 3 := by rw [← ex18]; exact dig_len_le (by decide)
  have zx6 : (dig x6).length ≤ 3 := by rw [← ex6]; exact dig_len_le (by decide)
  have zz : (dig z).length ≤ 3 := by rw [← ez]; exact dig_len_le (by decide)
  have z0 : (dig 0).length ≤ 0 := by rw [dig_zero]; exact Nat.le_refl _
  have Ex17 := Lib.hid ex17
  have Ex5 := Lib.hid ex5
  have Ex3 := Lib.hid ex3
  have Ex2 := Lib.hid ex2
  have Ex1024 := Lib.hid ex1024
  have Ex7 := Lib.hid ex7
  have Ex1000 := Lib.hid ex1000
  have Ey := Lib.hid ey
  have Ex12 := Lib.hid ex12
  have Ex18 := Lib.hid ex18
  have Ex6 := Lib.hid ex6
  have Ez := Lib.hid ez
  have hq : Hid (x17 / x5 = x3) := Lib.hid (by rw [← ex17, ← ex5, ← ex3])
  have hr : Hid (x17 % x5 = x2) := Lib.hid (by rw [← ex17, ← ex5, ← ex2])
  have h5 : Hid (0 < x5) := Lib.hid (by rw [← ex5]; decide)
  have hs0 : Hid (x2 - x5 = 0) := Lib.hid (by rw [← ex2, ← ex5])
  have hs1 : Hid ((if x2 < x5 then 2 else 0) = (2 : Int)) := Lib.hid (by rw [← ex2, ← ex5]; rfl)
  have hp0 : Hid (powV x2 10 = x1024) := Lib.hid (by rw [← ex2, ← ex1024, powV, Lib.nDigits_small (by omega)]; decide)
  have hp1 : Hid (powE x2 10 = 0) := Lib.hid (by rw [← ex2, powE, Lib.nDigits_small (by omega)]; decide)
  have hf0 : Hid (parseV [48, 48, 55] = 0) := Lib.hid (by decide +kernel)
  have hf1 : Hid (parseE [48, 48, 55] = 3) := Lib.hid (by decide +kernel)
  have hfl : Hid (([48, 48, 55] : List UInt8).length ≤ 9223372036854775807) := Lib.hid (by decide)
  have hm0 : Hid ((smallV x7 : Int) = 7) := Lib.hid (by rw [← ex7]; rfl)
  have hm1 : Hid (decide (x7 < 18446744073709551616) = true) := Lib.hid (by rw [← ex7]; rfl)
  have hd0 : Hid ((Lib.nDigits x1000 : Int) = 4) := Lib.hid (by rw [← ex1000, Lib.nDigits_big (by omega), Lib.nDigits_big (by omega), Lib.nDigits_big (by omega), Lib.nDigits_small (by omega)]; rfl)
  have hg : Hid (Nat.gcd x12 x18 = x6) := Lib.hid (by rw [← ex12, ← ex18, ← ex6]; decide)
  obtain ⟨Lt3, HLt3, kt3⟩ : ∃ L, Hid (Lib.decDigits x3 = L) ∧ ((str L).toList == [51]) = true := ⟨_, Lib.hid rfl, eq_beq (by rw [← ex3]; decide +kernel)⟩
  obtain ⟨Lt2, HLt2, kt2⟩ : ∃ L, Hid (Lib.decDigits x2 = L) ∧ ((str L).toList == [50]) = true := ⟨_, Lib.hid rfl, eq_beq (by rw [← ex2]; decide +kernel)⟩
  obtain ⟨Lt1024, HLt1024, kt1024⟩ : ∃ L, Hid (Lib.decDigits x1024 = L) ∧ ((str L).toList == [49, 48, 50, 52]) = true := ⟨_, Lib.hid rfl, eq_beq (by rw [← ex1024]; decide +kernel)⟩
  obtain ⟨Lty, HLty, kty⟩ : ∃ L, Hid (Lib.decDigits y = L) ∧ ((str L).toList == [49, 48, 48, 48, 48, 48, 48, 48, 48, 55]) = true := ⟨_, Lib.hid rfl, eq_beq (by rw [← ey]; decide +kernel)⟩
  obtain ⟨Lt6, HLt6, kt6⟩ : ∃ L, Hid (Lib.decDigits x6 = L) ∧ ((str L).toList == [54]) = true := ⟨_, Lib.hid rfl, eq_beq (by rw [← ex6]; decide +kernel)⟩
  have hdz : Hid (dig z = [0, 4]) := Lib.hid (by rw [← ez]; exact dig_4e9)
  have hq0 : Hid (val [0] = 0) := Lib.hid (by rfl)
  clear ex17 ex5 ex3 ex2 ex1024 ex7 ex1000 ey ex12 ex18 ex6 ez
  go_enter Tryd.func13, Tryd.ntmps13
  have HX := BL.nil w
  go_wp2_with fail
  refine (nof_h Ex17 zx17 (by omega)).mono ?_
  rintro e w1 ⟨A1, c1, rfl, F1, hb⟩
  replace HX := HX.ext hb
  replace hT := hT.ext hb
  clear hb
  go_wp2_with fail
  refine (nof_h Ex5 zx5 (by omega)).mono ?_
  rintro e w2 ⟨A2, c2, rfl, F2, hb⟩
  replace HX := HX.ext hb
  replace hT := hT.ext hb
  replace F1 := F1.ext hb
  clear hb
  go_wp2_with fail
  refine (ndivmod_h hq hr h5 zx3 zx2 F1.nr F2.nr (by omega) (by omega)).mono ?_
  rintro e w3 ⟨A3, c3, B3, d3, rfl, F3, E3, hb⟩
  replace HX := HX.ext hb
  replace hT := hT.ext hb
  replace F1 := F1.ext hb
  replace F2 := F2.ext hb
  clear hb
  clear F1
  clear F2
  go_upto_region 2 with fail
  have hb := below_alloc w3 (.cells #[.slice A3 (dig x3).length c3] 24)
  replace HX := HX.new #[.slice A3 (dig x3).length c3] 24
  simp only [List.nil_append] at HX
  replace F3 := F3.ext hb
  replace E3 := E3.ext hb
  replace hT := hT.ext hb
  clear hb
  have hb := below_alloc (w3.alloc (.cells #[.slice A3 (dig x3).length c3] 24)) (.cells #[.slice B3 (dig x2).length d3] 24)
  replace HX := HX.new #[.slice B3 (dig x2).length d3] 24
  simp only [List.cons_append, List.nil_append] at HX
  replace F3 := F3.ext hb
  replace E3 := E3.ext hb
  replace hT := hT.ext hb
  clear hb
  rw [show (w3.alloc (.cells #[.slice A3 (dig x3).length c3] 24)).heap.size = w3.heap.size + 1 from by simp] at HX
  generalize ((w3.alloc (.cells #[.slice A3 (dig x3).length c3] 24)).alloc (.cells #[.slice B3 (dig x2).length d3] 24)) = V1 at *
  generalize w3.heap.size = g1 at *
  have hc0 := HX.cell 0 0 rfl rfl
  try simp only [List.getElem_toArray, List.getElem_cons_zero] at hc0
  go_wp2_with fail
  have hl := nr_lit V1 49 (l := [0]) (cs := #[.int .u32 0]) rfl (small1 (by omega)) (n := 1) (k := 1) rfl rfl (Nat.le_refl _)
  have hb := below_alloc V1 (.cells #[.int .u32 0] 49)
  replace HX := HX.ext hb
  replace hT := hT.ext hb
  replace F3 := F3.ext hb
  replace E3 := E3.ext hb
  clear hb
  generalize V1.alloc (.cells #[.int .u32 0] 49) = W4 at *
  generalize V1.heap.size = lW4 at *
  clear hc0
  refine (ndivmodz_h (Lib.hid rfl) F3.nr hl (by omega) (by omega)).mono ?_
  rintro e w5 ⟨A5, c5, B5, d5, rfl, F5, E5, hb⟩
  replace HX := HX.ext hb
  replace hT := hT.ext hb
  replace F3 := F3.ext hb
  replace E3 := E3.ext hb
  clear hb
  clear hl
  go_upto_region 3 with fail
  have hb := below_alloc w5 (.cells #[.slice A5 (dig 0).length c5] 24)
  replace HX := HX.new #[.slice A5 (dig 0).length c5] 24
  simp only [List.cons_append, List.nil_append] at HX
  replace F3 := F3.ext hb
  replace E3 := E3.ext hb
  replace F5 := F5.ext hb
  replace E5 := E5.ext hb
  replace hT := hT.ext hb
  clear hb
  have hb := below_alloc (w5.alloc (.cells #[.slice A5 (dig 0).length c5] 24)) (.cells #[.slice B5 (dig 0).length d5] 24)
  replace HX := HX.new #[.slice B5 (dig 0).length d5] 24
  simp only [List.cons_append, List.nil_append] at HX
  replace F3 := F3.ext hb
  replace E3 := E3.ext hb
  replace F5 := F5.ext hb
  replace E5 := E5.ext hb
  replace hT := hT.ext hb
  clear hb
  rw [show (w5.alloc (.cells #[.slice A5 (dig 0).length c5] 24)).heap.size = w5.heap.size + 1 from by simp] at HX
  generalize ((w5.alloc (.cells #[.slice A5 (dig 0).length c5] 24)).alloc (.cells #[.slice B5 (dig 0).length d5] 24)) = V2 at *
  generalize w5.heap.size = g2 at *
  clear F5
  clear E5
  go_wp2_with fail
  refine (nof_h Ex2 zx2 (by omega)).mono ?_
  rintro e w6 ⟨A6, c6, rfl, F6, hb⟩
  replace HX := HX.ext hb
  replace hT := hT.ext hb
  replace F3 := F3.ext hb
  replace E3 := E3.ext hb
  clear hb
  go_wp2_with fail
  refine (nof_h Ex5 zx5 (by omega)).mono ?_
  rintro e w7 ⟨A7, c7, rfl, F7, hb⟩
  replace HX := HX.ext hb
  replace hT := hT.ext hb
  replace F3 := F3.ext hb
  replace E3 := E3.ext hb
  replace F6 := F6.ext hb
  clear hb
  go_wp2_with fail
  refine (nsub_h hs0 hs1 z0 F6.nr F7.nr (by omega) (by omega)).mono ?_
  rintro e w8 ⟨A8, c8, rfl, F8, hb⟩
  replace HX := HX.ext hb
  replace hT := hT.ext hb
  replace F3 := F3.ext hb
  replace E3 := E3.ext hb
  replace F6 := F6.ext hb
  replace F7 := F7.ext hb
  clear hb
  clear F6
  clear F7
  go_upto_region 4 with fail
  have hb := below_alloc w8 (.cells #[.slice A8 (dig 0).length c8] 24)
  replace HX := HX.new #[.slice A8 (dig 0).length c8] 24
  simp only [List.cons_append, List.nil_append] at HX
  replace F3 := F3.ext hb
  replace E3 := E3.ext hb
  replace F8 := F8.ext hb
  replace hT := hT.ext hb
  clear hb
  generalize (w8.alloc (.cells #[.slice A8 (dig 0).length c8] 24)) = V3 at *
  generalize w8.heap.size = g3 at *
  clear F8
  go_wp2_with fail
  refine (nof_h Ex2 zx2 (by omega)).mono ?_
  rintro e w9 ⟨A9, c9, rfl, F9, hb⟩
  replace HX := HX.ext hb
  replace hT := hT.ext hb
  replace F3 := F3.ext hb
  replace E3 := E3.ext hb
  clear hb
  go_wp2_with fail
  refine (npow_h hp0 hp1 zx1024 F9.nr (by omega) hT).mono ?_
  rintro e w10 ⟨A10, c10, rfl, F10, hb⟩
  replace HX := HX.ext hb
  replace hT := hT.ext hb
  replace F3 := F3.ext hb
  replace E3 := E3.ext hb
  replace F9 := F9.ext hb
  clear hb
  clear F9
  go_upto_region 5 with fail
  have hb := below_alloc w10 (.cells #[.slice A10 (dig x1024).length c10] 24)
  replace HX := HX.new #[.slice A10 (dig x1024).length c10] 24
  simp only [List.cons_append, List.nil_append] at HX
  replace F3 := F3.ext hb
  replace E3 := E3.ext hb
  replace F10 := F10.ext hb
  replace hT := hT.ext hb
  clear hb
  generalize (w10.alloc (.cells #[.slice A10 (dig x1024).length c10] 24)) = V4 at *
  generalize w10.heap.size = g4 at *
  go_wp2_with fail
  refine (nparse_h hf0 hf1 hfl z0).mono ?_
  rintro e w11 ⟨A11, c11, rfl, F11, hb⟩
  replace HX := HX.ext hb
  replace hT := hT.ext hb
  replace F3 := F3.ext hb
  replace E3 := E3.ext hb
  replace F10 := F10.ext hb
  clear hb
  go_upto_region 6 with fail
  have hb := below_alloc w11 (.cells #[.slice A11 (dig 0).length c11] 24)
  replace HX := HX.new #[.slice A11 (dig 0).length c11] 24
  simp only [List.cons_append, List.nil_append] at HX
  replace F3 := F3.ext hb
  replace E3 := E3.ext hb
  replace F10 := F10.ext hb
  replace F11 := F11.ext hb
  replace hT := hT.ext hb
  clear hb
  generalize (w11.alloc (.cells #[.slice A11 (dig 0).length c11] 24)) = V5 at *
  generalize w11.heap.size = g5 at *
  clear F11
  go_wp2_with fail
  have hl := nr_lit V5 49 (l := [7, 0]) (cs := #[.int .u32 7, .int .u32 0]) rfl (small2 (by omega) (by omega)) (n := 2) (k := 2) rfl rfl (Nat.le_refl _)
  have hb := below_alloc V5 (.cells #[.int .u32 7, .int .u32 0] 49)
  replace HX := HX.ext hb
  replace hT := hT.ext hb
  replace F3 := F3.ext hb
  replace E3 := E3.ext hb
  replace F10 := F10.ext hb
  clear hb
  generalize V5.alloc (.cells #[.int .u32 7, .int .u32 0] 49) = W12 at *
  generalize V5.heap.size = lW12 at *
  have e7 : val [7, 0] = x7 := by rw [← Ex7.out]; rfl
  rw [e7] at hl
  clear e7
  refine (nsmall_h hm0 hm1 hl (by omega)).mono ?_
  rintro e w13 ⟨rfl, hb⟩
  replace HX := HX.ext hb
  replace hT := hT.ext hb
  replace F3 := F3.ext hb
  replace E3 := E3.ext hb
  replace F10 := F10.ext hb
  clear hb
  clear hl
  go_wp2_with fail
  refine (nof_h Ex1000 zx1000 (by omega)).mono ?_
  rintro e w14 ⟨A14, c14, rfl, F14, hb⟩
  replace HX := HX.ext hb
  replace hT := hT.ext hb
  replace F3 := F3.ext hb
  replace E3 := E3.ext hb
  replace F10 := F10.ext hb
  clear hb
  go_wp2_with fail
  refine (ndigits_h hd0 F14.nr (by omega) hT).mono ?_
  rintro e w15 ⟨rfl, hb⟩
  replace HX := HX.ext hb
  replace hT := hT.ext hb
  replace F3 := F3.ext hb
  replace E3 := E3.ext hb
  replace F10 := F10.ext hb
  replace F14 := F14.ext hb
  clear hb
  clear F14
  have hc0 := HX.cell 0 0 rfl rfl
  try simp only [List.getElem_toArray, List.getElem_cons_zero] at hc0
  go_wp2_with fail
  refine (ntext_h HLt3 F3.nr (by omega) hT).mono ?_
  rintro e w16 ⟨rfl, hb⟩
  clear hc0
  replace HX := HX.ext hb
  replace hT := hT.ext hb
  replace F3 := F3.ext hb
  replace E3 := E3.ext hb
  replace F10 := F10.ext hb
  clear hb
  have hc1 := HX.cell 1 0 rfl rfl
  try simp only [List.getElem_toArray, List.getElem_cons_zero] at hc1
  go_wp2_with fail
  refine (ntext_h HLt2 E3.nr (by omega) hT).mono ?_
  rintro e w17 ⟨rfl, hb⟩
  clear hc1
  replace HX := HX.ext hb
  replace hT := hT.ext hb
  replace F3 := F3.ext hb
  replace E3 := E3.ext hb
  replace F10 := F10.ext hb
  clear hb
  have hc5 := HX.cell 5 0 rfl rfl
  try simp only [List.getElem_toArray, List.getElem_cons_zero] at hc5
  go_wp2_with fail
  refine (ntext_h HLt1024 F10.nr (by omega) hT).mono ?_
  rintro e w18 ⟨rfl, hb⟩
  clear hc5
  replace HX := HX.ext hb
  replace hT := hT.ext hb
  replace F3 := F3.ext hb
  replace E3 := E3.ext hb
  replace F10 := F10.ext hb
  clear hb
  clear F3
  clear E3
  clear F10
  go_wp2_with fail
  have hl := nr_lit w18 49 (l := [7, 1]) (cs := #[.int .u32 7, .int .u32 1]) rfl (small2 (by omega) (by omega)) (n := 2) (k := 2) rfl rfl (Nat.le_refl _)
  have hb := below_alloc w18 (.cells #[.int .u32 7, .int .u32 1] 49)
  replace HX := HX.ext hb
  replace hT := hT.ext hb
  clear hb
  generalize w18.alloc (.cells #[.int .u32 7, .int .u32 1] 49) = W19 at *
  generalize w18.heap.size = lW19 at *
  have e7 : val [7, 1] = y := by rw [← Ey.out]; rfl
  rw [e7] at hl
  clear e7
  refine (ntext_h HLty hl (by omega) hT).mono ?_
  rintro e w20 ⟨rfl, hb⟩
  replace HX := HX.ext hb
  replace hT := hT.ext hb
  clear hb
  clear hl
  go_wp2_with fail
  refine (nof_h Ex12 zx12 (by omega)).mono ?_
  rintro e w21 ⟨A21, c21, rfl, F21, hb⟩
  replace HX := HX.ext hb
  replace hT := hT.ext hb
  clear hb
  go_wp2_with fail
  refine (nof_h Ex18 zx18 (by omega)).mono ?_
  rintro e w22 ⟨A22, c22, rfl, F22, hb⟩
  replace HX := HX.ext hb
  replace hT := hT.ext hb
  replace F21 := F21.ext hb
  clear hb
  go_wp2_with fail
  refine (ngcd_h hg zx6 F21.nr F22.nr (by omega) (by omega)).mono ?_
  rintro e w23 ⟨A23, c23, rfl, F23, hb⟩
  replace HX := HX.ext hb
  replace hT := hT.ext hb
  replace F21 := F21.ext hb
  replace F22 := F22.ext hb
  clear hb
  go_wp2_with fail
  refine (ntext_h HLt6 F23.nr (by omega) hT).mono ?_
  rintro e w24 ⟨rfl, hb⟩
  replace HX := HX.ext hb
  replace hT := hT.ext hb
  replace F21 := F21.ext hb
  replace F22 := F22.ext hb
  replace F23 := F23.ext hb
  clear hb
  clear F21
  clear F22
  clear F23
  go_wp2_with fail
  have hl := nr_lit w24 49 (l := [4000000000, 0]) (cs := #[.int .u32 4000000000, .int .u32 0]) rfl (small2 (by omega) (by omega)) (n := 2) (k := 2) rfl rfl (Nat.le_refl _)
  have hb := below_alloc w24 (.cells #[.int .u32 4000000000, .int .u32 0] 49)
  replace HX := HX.ext hb
  replace hT := hT.ext hb
  clear hb
  generalize w24.alloc (.cells #[.int .u32 4000000000, .int .u32 0] 49) = W25 at *
  generalize w24.heap.size = lW25 at *
  have e7 : val [4000000000, 0] = z := by rw [← Ez.out]; rfl
  rw [e7] at hl
  clear e7
  refine (nnorm_h (Lib.hid rfl) zz hl (by omega)).mono ?_
  rintro e w26 ⟨A26, c26, rfl, F26, hb⟩
  replace HX := HX.ext hb
  replace hT := hT.ext hb
  clear hb
  clear hl
  go_wp2_with fail
  have HL := Lim.lit w26 49 (l := [0, 4]) (cs := #[.int .u32 0, .int .u32 4]) rfl (small2 (by omega) (by omega)) 2 (Nat.le_refl _)
  have hb := below_alloc w26 (.cells #[.int .u32 0, .int .u32 4] 49)
  replace HX := HX.ext hb
  replace hT := hT.ext hb
  replace F26 := F26.ext hb
  clear hb
  have hn2 := F26.num
  have hn3 := F26.sz
  refine (bnat_any _ _ _ 2 _ 2 (dig z) [0, 4] _ hn2 HL rfl rfl (by omega) (by omega)).mono ?_
  rw [decide_eq_true hdz.out]
  rintro e w99 ⟨rfl, hb⟩
  replace HX := HX.ext hb
  go_wp2
  go_ret
  exact ⟨rfl, HX.below⟩
theorem awake_h {w : World} (hT : Tab w) : Calls Tryd.prog 13 #[] w (RetB w true) := awake_any w hT
end Go.Proofs.YtjacffmoccpogaaDoor
