/- awake: the fixed calls of the chapter's statements. -/
import Derived.Test.YtajddhkepbnilaaGreatDoorLaw2
import Derived.Test.YtajddhkepbnilaaGreatDoorHoist
namespace Go.Proofs.YtajddhkepbnilaaGreatDoor
open Go.RowKit Go.Proofs Go

theorem lit_text {q : Rat} {s : Bool} {a b : Nat} {l : List UInt8} (hq : q = rv s a b) (ha : 0 < a) (hb : 0 < b) (h : (if s then [45] else []) ++ Lib.decDigits (a / Nat.gcd a b) ++ (if b / Nat.gcd a b = 1 then [] else 47 :: Lib.decDigits (b / Nat.gcd a b)) = l) : fracText q = l := by
  subst hq
  rw [fracText, sg_rv s ha hb, nu_rv s hb, den_rv s hb, h]
theorem lit_dec {q : Rat} {s : Bool} {a b k : Nat} {l : List UInt8} (hq : q = rv s a b) (ha : 0 < a) (hb : 0 < b) (h : decText s (half (a / Nat.gcd a b) (b / Nat.gcd a b) k) k = l) : decText (sg q) (half (nu q) q.den k) k = l := by
  subst hq
  rw [sg_rv s ha hb, nu_rv s hb, den_rv s hb, h]
theorem list_beq {l m : List UInt8} (h : l = m) : (l == m) = true := by subst h; exact beq_self_eq_true _
theorem txt_56 : fracText (rv false 1 2 + rv false 1 3) = [53, 47, 54] := lit_text (s := false) (a := 5) (b := 6) (rv_add_same false 1 2 1 3 (by omega) (by omega)) (by omega) (by omega) (by decide +kernel)
theorem txt_32 : fracText (rv false 1 2 * (rv true 1 3)⁻¹) = [45, 51, 47, 50] := lit_text (s := true) (a := 3) (b := 2) (by rw [rv_inv, rv_mul]; rfl) (by omega) (by omega) (by decide +kernel)
theorem dec_18 : decText (sg (rv true 1 8)) (half (nu (rv true 1 8)) (rv true 1 8).den 2) 2 = [45, 48, 46, 49, 51] := lit_dec (s := true) (a := 1) (b := 8) rfl (by omega) (by omega) (by decide +kernel)
theorem sz_lit (s : Bool) {a b : Nat} (ha : a < 1000000000) (hb : b < 1000000000) : Sz (rv s a b) 1 := Sz.of_rv (dig_len_le (by rw [pw, Nat.pow_one]; exact ha)) (dig_len_le (by rw [pw, Nat.pow_one]; exact hb)) (by omega)
theorem ne_13 : rv true 1 3 ≠ 0 := fun h => by rw [rv_eq_zero] at h; omega
theorem of_18 (w : World) : Calls Tryz.prog 22 #[.int .i64 (-1), .int .i64 8] w (RetQ w (rv true 1 8)) := fof_any (-1) 8 (by omega) (by omega) (by omega) (by omega) w
theorem of_12 (w : World) : Calls Tryz.prog 22 #[.int .i64 1, .int .i64 2] w (RetQ w (rv false 1 2)) := fof_any 1 2 (by omega) (by omega) (by omega) (by omega) w
theorem of_13 (w : World) : Calls Tryz.prog 22 #[.int .i64 1, .int .i64 3] w (RetQ w (rv false 1 3)) := fof_any 1 3 (by omega) (by omega) (by omega) (by omega) w
theorem of_n13 (w : World) : Calls Tryz.prog 22 #[.int .i64 (-1), .int .i64 3] w (RetQ w (rv true 1 3)) := fof_any (-1) 3 (by omega) (by omega) (by omega) (by omega) w

set_option maxHeartbeats 800000 in
set_option maxRecDepth 100000 in
theorem awake_any (w : World) (hT : Tab w) :
    Calls Tryz.prog 9 #[] w fun e w' => e = .returned (.bool true) ∧ Below w.heap.size w w' := by
  have s18 := sz_lit true (a := 1) (b := 8) (by omega) (by omega)
  have s12 := sz_lit false (a := 1) (b := 2) (by omega) (by omega)
  have s13 := sz_lit false (a := 1) (b := 3) (by omega) (by omega)
  have n13 := sz_lit true (a := 1) (b := 3) (by omega) (by omega)
  have ssum := s12.add s13
  have squo := s12.div n13
  have hd18 := list_beq dec_18
  have ht56 := list_beq txt_56
  have ht32 := list_beq txt_32
  generalize hq1 : rv true 1 8 = q1 at *
  generalize hq2 : rv false 1 2 = q2 at *
  generalize hq3 : rv false 1 3 = q3 at *
  generalize hq4 : rv true 1 3 = q4 at *
  have hn4 : q4 ≠ 0 := hq4 ▸ ne_13
  have HQ1 := Lib.hid hq1
  have HQ2 := Lib.hid hq2
  have HQ3 := Lib.hid hq3
  have HQ4 := Lib.hid hq4
  clear hq1 hq2 hq3 hq4
  generalize hL1 : decText (sg q1) (half (nu q1) q1.den 2) 2 = L1 at *
  generalize hL2 : fracText (q2 + q3) = L2 at *
  generalize hL3 : fracText (q2 * q4⁻¹) = L3 at *
  have HL1 := Lib.hid hL1
  have HL2 := Lib.hid hL2
  have HL3 := Lib.hid hL3
  clear hL1 hL2 hL3
  have kd18 : ((str L1).toList == [45, 48, 46, 49, 51]) = true := by rw [str_toList]; exact hd18
  have kt56 : ((str L2).toList == [53, 47, 54]) = true := by rw [str_toList]; exact ht56
  have kt32 : ((str L3).toList == [45, 51, 47, 50]) = true := by rw [str_toList]; exact ht32
  go_enter Tryz.func9, Tryz.ntmps9
  go_wp2_with fail
  refine (of_18 w).mono ?_
  rw [HQ1.out]
  intro e w1 h1
  obtain ⟨A1, c1, B1, d1, rfl, F1, hb1⟩ := h1.fr s18
  clear h1
  go_wp2_with fail
  refine (fdecimal_any 2 _ F1 (by omega) (by omega) (hT.ext hb1)).mono ?_
  rw [HL1.out]
  rintro e w2 ⟨rfl, hb2⟩
  have hb := bel_trans hb1 hb2
  clear F1 hb1 hb2
  go_wp2_with fail
  refine (of_12 _).mono ?_
  rw [HQ2.out]
  intro e w3 h3
  obtain ⟨A3, c3, B3, d3, rfl, F3, hb3⟩ := h3.fr s12
  clear h3
  go_wp2_with fail
  refine (of_n13 _).mono ?_
  rw [HQ4.out]
  intro e w4 h4
  obtain ⟨A4, c4, B4, d4, rfl, F4, hb4⟩ := h4.fr n13
  clear h4
  go_wp2_with fail
  refine (fdiv_any _ (F3.ext hb4) F4 (by omega) (by omega) hn4).mono ?_
  generalize hq5 : q2 * q4⁻¹ = q5 at *
  have HQ5 := Lib.hid hq5
  clear hq5
  rintro e w5 ⟨A5, c5, B5, d5, rfl, H5, H6, hb5⟩
  have hb := bel_trans (bel_trans (bel_trans hb hb3) hb4) hb5
  clear F3 F4 hb3 hb4 hb5
  go_upto_region 3 with fail
  obtain ⟨W, hW⟩ : ∃ W, W = w5.alloc (.cells #[.bool (sg q5), .slice A5 (dig (nu q5)).length c5, .slice B5 (dig q5.den).length d5] 27) := ⟨_, rfl⟩
  have HX : BL w W [(w5.heap.size, #[.bool (sg q5), .slice A5 (dig (nu q5)).length c5, .slice B5 (dig q5.den).length d5], 27)] := by
    rw [hW]
    exact ⟨bel_al hb _, fun i p hp => by
      cases i with
      | zero => simp at hp; subst hp; exact heap_alloc_new w5 _
      | succ i => simp at hp⟩
  have F5 := (Fr.of H5 H6 squo).ext (below_alloc w5 (.cells #[.bool (sg q5), .slice A5 (dig (nu q5)).length c5, .slice B5 (dig q5.den).length d5] 27))
  rw [← hW] at F5
  rw [← hW]
  generalize w5.heap.size = g5 at *
  clear hW hb H5 H6
  have hT := hT.ext HX.below
  go_wp2_with fail
  refine (of_12 _).mono ?_
  rw [HQ2.out]
  intro e w6 h6
  obtain ⟨A6, c6, B6, d6, rfl, F6, hb6⟩ := h6.fr s12
  clear h6
  go_wp2_with fail
  refine (of_13 _).mono ?_
  rw [HQ3.out]
  intro e w7 h7
  obtain ⟨A7, c7, B7, d7, rfl, F7, hb7⟩ := h7.fr s13
  clear h7
  go_wp2_with fail
  refine (fadd_any _ (F6.ext hb7) F7 (by omega) (by omega)).mono ?_
  intro e w8 h8
  obtain ⟨A8, c8, B8, d8, rfl, F8, hb8⟩ := h8.fr ssum
  clear h8
  have hb := bel_trans (bel_trans hb6 hb7) hb8
  go_wp2_with fail
  refine (ftext_any _ F8 (by omega) (hT.ext hb)).mono ?_
  rw [HL2.out]
  rintro e w9 ⟨rfl, hb9⟩
  have hb := bel_trans hb hb9
  clear F8 F7 F6 hb6 hb7 hb8 hb9
  have HX := HX.ext hb
  have hT := hT.ext hb
  have F5 := F5.ext hb
  clear hb
  have hc0 := HX.cell 0 0 rfl rfl
  have hc1 := HX.cell 0 1 rfl rfl
  have hc2 := HX.cell 0 2 rfl rfl
  simp only [] at hc0 hc1 hc2
  go_wp2_with fail
  refine (ftext_any _ F5 (by omega) hT).mono ?_
  rw [HL3.out]
  rintro e w10 ⟨rfl, hb10⟩
  have HX := HX.ext hb10
  go_wp2
  go_ret
  exact ⟨ret_bool rfl, HX.below⟩
end Go.Proofs.YtajddhkepbnilaaGreatDoor
