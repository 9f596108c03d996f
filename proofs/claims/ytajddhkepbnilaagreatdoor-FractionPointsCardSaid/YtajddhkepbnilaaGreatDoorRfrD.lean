/- The reference's fractions, Div. -/
import Derived.Test.YtajddhkepbnilaaGreatDoorRfr1
import Derived.Test.YtajddhkepbnilaaGreatDoorFrac5
namespace Go.Proofs.YtajddhkepbnilaaGreatDoor
open Go.RowKit Go.Proofs Go


theorem qzero_d {A : Option Addr} {c a : Nat} (w : World) (H : Lim w A c (dig a)) (hl : (dig a).length ≤ 536870000) :
    Calls Tryz.prog 42 #[.agg #[.slice A (dig a).length c]] w fun e w' => e = .returned (.bool (decide (a = 0))) ∧ Below w.heap.size w w' := by
  have := qzero_any A _ c (dig a) w H rfl (by omega)
  rwa [val_dig] at this
set_option maxHeartbeats 4000000 in
set_option maxRecDepth 1000000 in
theorem qdiv_zero {s t : Bool} {A B A' B' : Option Addr} {n c m d n' c' m' d' : Nat} {q : Rat} {k' : Nat} (w : World) (h' : Fr w t A' n' c' B' m' d' q k') (hk' : k' ≤ 67108840) (h0 : q = 0) :
    Calls Tryz.prog 57 #[.agg #[.bool s, .slice A n c, .slice B m d], .agg #[.bool t, .slice A' n' c', .slice B' m' d']] w (RetZE w 12) := by
  have hsz := h'.sz
  have hsz1 := hsz.1
  have hz : decide (nu q = 0) = true := decide_eq_true (nu_eq_zero.2 h0)
  clear h0
  go_enter Tryz.func57, Tryz.ntmps57
  go_wp2_with fail
  have HX := BL.three w #[.bool s, .slice A n c, .slice B m d] #[.bool t, .slice A' n' c', .slice B' m' d'] #[.bool false, .slice none 0 0, .slice none 0 0] 27 27 27
  refine (qnorm_any _ (h'.ext HX.below) (by omega)).mono ?_
  rintro e w1 ⟨A1, c1, B1, d1, rfl, N1, D1, hb⟩
  replace HX := HX.ext hb
  clear hb
  have hc10 := HX.cell 1 0 rfl rfl
  have hf10 := HX.free 1 0 rfl
  have hc11 := HX.cell 1 1 rfl rfl
  have hf11 := HX.free 1 1 rfl
  have hc12 := HX.cell 1 2 rfl rfl
  have hf12 := HX.free 1 2 rfl
  try simp only [List.getElem_toArray, List.getElem_cons_zero, List.getElem_cons_succ] at hc10 hf10 hc11 hf11 hc12 hf12
  go_upto_region 2 with fail
  clear hc10 hf10 hc11 hf11 hc12 hf12
  have hk := HX.keep3 1 rfl rfl rfl rfl (by omega) (.bool (sg q)) (.slice A1 (dig (nu q)).length c1) (.slice B1 (dig q.den).length d1)
  replace HX := HX.put3 1 rfl (by omega) (by intro k q hk hne; match k, hk with | 0, hk => (simp at hk; subst hk; simp at hne ⊢; try omega) | 1, hk => (simp at hk; subst hk; simp at hne ⊢; try omega) | 2, hk => (simp at hk; subst hk; simp at hne ⊢; try omega) | k + 3, hk => simp at hk) (.bool (sg q)) (.slice A1 (dig (nu q)).length c1) (.slice B1 (dig q.den).length d1)
  replace N1 := N1.stay hk
  replace D1 := D1.stay hk
  clear hk
  simp only [List.set_cons_zero, List.set_cons_succ] at HX
  generalize ((w1.setCell ⟨w.heap.size + 1, 0, none⟩ (.bool (sg q))).setCell ⟨w.heap.size + 1, 1, none⟩ (.slice A1 (dig (nu q)).length c1)).setCell ⟨w.heap.size + 1, 2, none⟩ (.slice B1 (dig q.den).length d1) = V1 at *
  have hc11 := HX.cell 1 1 rfl rfl
  try simp only [List.getElem_toArray, List.getElem_cons_zero, List.getElem_cons_succ] at hc11
  go_wp2_with fail
  refine (qzero_d _ N1 (by omega)).mono ?_
  rintro e w2 ⟨rfl, hb⟩
  rw [hz]
  clear hc11
  replace HX := HX.ext hb
  replace N1 := N1.ext hb
  replace D1 := D1.ext hb
  clear hb
  have hc20 := HX.cell 2 0 rfl rfl
  have hf20 := HX.free 2 0 rfl
  have hc21 := HX.cell 2 1 rfl rfl
  have hf21 := HX.free 2 1 rfl
  have hc22 := HX.cell 2 2 rfl rfl
  have hf22 := HX.free 2 2 rfl
  try simp only [List.getElem_toArray, List.getElem_cons_zero, List.getElem_cons_succ] at hc20 hf20 hc21 hf21 hc22 hf22
  go_wp2
  clear hc20 hf20 hc21 hf21 hc22 hf22
  have hk := HX.keep3 2 rfl rfl rfl rfl (by omega) (.bool false) (.slice none 0 0) (.slice none 0 0)
  replace HX := HX.put3 2 rfl (by omega) (by intro k q hk hne; match k, hk with | 0, hk => (simp at hk; subst hk; simp at hne ⊢; try omega) | 1, hk => (simp at hk; subst hk; simp at hne ⊢; try omega) | 2, hk => (simp at hk; subst hk; simp at hne ⊢; try omega) | k + 3, hk => simp at hk) (.bool false) (.slice none 0 0) (.slice none 0 0)
  clear hk
  simp only [List.set_cons_zero, List.set_cons_succ] at HX
  have hc20 := HX.cell 2 0 rfl rfl
  have hc21 := HX.cell 2 1 rfl rfl
  have hc22 := HX.cell 2 2 rfl rfl
  try simp only [List.getElem_toArray, List.getElem_cons_zero, List.getElem_cons_succ] at hc20 hc21 hc22
  exact bodyPost_ret (v := .tuple #[.agg #[.bool false, .slice none 0 0, .slice none 0 0], .int .i64 12]) (by simp [results, Tryz.results57, go_sem, hc20, hc21, hc22]) rfl ⟨rfl, HX.below⟩

set_option maxHeartbeats 4000000 in
set_option maxRecDepth 1000000 in
theorem qdiv_any {s t : Bool} {A B A' B' : Option Addr} {n c m d n' c' m' d' : Nat} {p q : Rat} {k k' : Nat} (w : World) (h : Fr w s A n c B m d p k) (h' : Fr w t A' n' c' B' m' d' q k') (hk : k ≤ 67108840) (hk' : k' ≤ 67108840) (h0 : q ≠ 0) :
    Calls Tryz.prog 57 #[.agg #[.bool s, .slice A n c, .slice B m d], .agg #[.bool t, .slice A' n' c', .slice B' m' d']] w (RetQE w (p * q⁻¹)) := by
  have hsz := h'.sz
  have hsz1 := hsz.1
  have hz : decide (nu q = 0) = false := decide_eq_false (fun e => h0 (nu_eq_zero.1 e))
  clear h0
  go_enter Tryz.func57, Tryz.ntmps57
  go_wp2_with fail
  have HX := BL.three w #[.bool s, .slice A n c, .slice B m d] #[.bool t, .slice A' n' c', .slice B' m' d'] #[.bool false, .slice none 0 0, .slice none 0 0] 27 27 27
  replace h := h.ext HX.below
  refine (qnorm_any _ (h'.ext HX.below) (by omega)).mono ?_
  rintro e w1 ⟨A1, c1, B1, d1, rfl, N1, D1, hb⟩
  replace HX := HX.ext hb
  replace h := h.ext hb
  clear hb
  have hc10 := HX.cell 1 0 rfl rfl
  have hf10 := HX.free 1 0 rfl
  have hc11 := HX.cell 1 1 rfl rfl
  have hf11 := HX.free 1 1 rfl
  have hc12 := HX.cell 1 2 rfl rfl
  have hf12 := HX.free 1 2 rfl
  try simp only [List.getElem_toArray, List.getElem_cons_zero, List.getElem_cons_succ] at hc10 hf10 hc11 hf11 hc12 hf12
  go_upto_region 2 with fail
  clear hc10 hf10 hc11 hf11 hc12 hf12
  have hk := HX.keep3 1 rfl rfl rfl rfl (by omega) (.bool (sg q)) (.slice A1 (dig (nu q)).length c1) (.slice B1 (dig q.den).length d1)
  replace HX := HX.put3 1 rfl (by omega) (by intro k q hk hne; match k, hk with | 0, hk => (simp at hk; subst hk; simp at hne ⊢; try omega) | 1, hk => (simp at hk; subst hk; simp at hne ⊢; try omega) | 2, hk => (simp at hk; subst hk; simp at hne ⊢; try omega) | k + 3, hk => simp at hk) (.bool (sg q)) (.slice A1 (dig (nu q)).length c1) (.slice B1 (dig q.den).length d1)
  replace N1 := N1.stay hk
  replace D1 := D1.stay hk
  replace h := h.stay hk
  clear hk
  simp only [List.set_cons_zero, List.set_cons_succ] at HX
  generalize ((w1.setCell ⟨w.heap.size + 1, 0, none⟩ (.bool (sg q))).setCell ⟨w.heap.size + 1, 1, none⟩ (.slice A1 (dig (nu q)).length c1)).setCell ⟨w.heap.size + 1, 2, none⟩ (.slice B1 (dig q.den).length d1) = V1 at *
  have hc11 := HX.cell 1 1 rfl rfl
  try simp only [List.getElem_toArray, List.getElem_cons_zero, List.getElem_cons_succ] at hc11
  go_wp2_with fail
  refine (qzero_d _ N1 (by omega)).mono ?_
  rintro e w2 ⟨rfl, hb⟩
  rw [hz]
  clear hc11
  replace HX := HX.ext hb
  replace h := h.ext hb
  replace N1 := N1.ext hb
  replace D1 := D1.ext hb
  clear hb
  have hc00 := HX.cell 0 0 rfl rfl
  have hc01 := HX.cell 0 1 rfl rfl
  have hc02 := HX.cell 0 2 rfl rfl
  try simp only [List.getElem_toArray, List.getElem_cons_zero, List.getElem_cons_succ] at hc00 hc01 hc02
  have hc10 := HX.cell 1 0 rfl rfl
  have hc11 := HX.cell 1 1 rfl rfl
  have hc12 := HX.cell 1 2 rfl rfl
  try simp only [List.getElem_toArray, List.getElem_cons_zero, List.getElem_cons_succ] at hc10 hc11 hc12
  go_wp2_with fail
  refine (qmul_any _ h (Fr.of N1 D1 hsz).inv (by omega) (by omega)).mono ?_
  rintro e w3 ⟨A9, c9, B9, d9, rfl, N9, D9, hb⟩
  clear h N1 D1
  clear hc00 hc01 hc02
  clear hc10 hc11 hc12
  replace HX := HX.ext hb
  clear hb
  have hc20 := HX.cell 2 0 rfl rfl
  have hf20 := HX.free 2 0 rfl
  have hc21 := HX.cell 2 1 rfl rfl
  have hf21 := HX.free 2 1 rfl
  have hc22 := HX.cell 2 2 rfl rfl
  have hf22 := HX.free 2 2 rfl
  try simp only [List.getElem_toArray, List.getElem_cons_zero, List.getElem_cons_succ] at hc20 hf20 hc21 hf21 hc22 hf22
  go_wp2
  clear hc20 hf20 hc21 hf21 hc22 hf22
  have hk := HX.keep3 2 rfl rfl rfl rfl (by omega) (.bool (sg (p * q⁻¹))) (.slice A9 (dig (nu (p * q⁻¹))).length c9) (.slice B9 (dig (p * q⁻¹).den).length d9)
  replace HX := HX.put3 2 rfl (by omega) (by intro k q hk hne; match k, hk with | 0, hk => (simp at hk; subst hk; simp at hne ⊢; try omega) | 1, hk => (simp at hk; subst hk; simp at hne ⊢; try omega) | 2, hk => (simp at hk; subst hk; simp at hne ⊢; try omega) | k + 3, hk => simp at hk) (.bool (sg (p * q⁻¹))) (.slice A9 (dig (nu (p * q⁻¹))).length c9) (.slice B9 (dig (p * q⁻¹).den).length d9)
  replace N9 := N9.stay hk
  replace D9 := D9.stay hk
  clear hk
  simp only [List.set_cons_zero, List.set_cons_succ] at HX
  have hc20 := HX.cell 2 0 rfl rfl
  have hc21 := HX.cell 2 1 rfl rfl
  have hc22 := HX.cell 2 2 rfl rfl
  try simp only [List.getElem_toArray, List.getElem_cons_zero, List.getElem_cons_succ] at hc20 hc21 hc22
  exact bodyPost_ret (v := .tuple #[.agg #[.bool (sg (p * q⁻¹)), .slice A9 (dig (nu (p * q⁻¹))).length c9, .slice B9 (dig (p * q⁻¹).den).length d9], .int .i64 0]) (by simp [results, Tryz.results57, go_sem, hc20, hc21, hc22]) rfl ⟨A9, c9, B9, d9, rfl, N9, D9, HX.below⟩

end Go.Proofs.YtajddhkepbnilaaGreatDoor
