/- The reference's fractions, second part: Sign, Add, Sub, Cmp, Div. -/
import Derived.Test.YtfndbmflllmpgaaDoorRfr1
import Derived.Test.YtfndbmflllmpgaaDoorFrac5
namespace Go.Proofs.YtfndbmflllmpgaaDoor
open Go.RowKit Go.Proofs Go

theorem qzero_d {A : Option Addr} {c a : Nat} (w : World) (H : Lim w A c (dig a)) (hl : (dig a).length ≤ 536870000) :
    Calls Tryd.prog 55 #[.agg #[.slice A (dig a).length c]] w fun e w' => e = .returned (.bool (decide (a = 0))) ∧ Below w.heap.size w w' := by
  have := qzero_any A _ c (dig a) w H rfl (by omega)
  rwa [val_dig] at this
theorem radd_d {A B : Option Addr} {c d : Nat} {a b : Nat} (w : World) (HA : Lim w A c (dig a)) (HB : Lim w B d (dig b)) (ha : (dig a).length ≤ 1073741824) (hb : (dig b).length ≤ 1073741824) :
    Calls Tryd.prog 58 #[.agg #[.slice A (dig a).length c], .agg #[.slice B (dig b).length d]] w (RetN w (a + b)) := by
  have := radd_any A B _ _ c d (dig a) (dig b) w HA HB rfl rfl ha hb
  rwa [val_dig, val_dig] at this
theorem sgn_terms (q : Rat) : sgn q = if nu q = 0 then 0 else if sg q then -1 else 1 := by
  have h := sgn_rv (sg q) (nu q) q.den
  rw [rv_self] at h
  rw [h]
  have := q.den_pos
  by_cases h0 : nu q = 0
  · rw [if_pos (.inl h0), if_pos h0]
  · rw [if_neg (by omega), if_neg h0]

set_option maxHeartbeats 4000000 in
set_option maxRecDepth 1000000 in
theorem qsign_any {s : Bool} {A B : Option Addr} {n c m d : Nat} {q : Rat} {k : Nat} (w : World) (h : Fr w s A n c B m d q k) (hk : k ≤ 67108850) :
    Calls Tryd.prog 22 #[.agg #[.bool s, .slice A n c, .slice B m d]] w fun e w' => e = .returned (.int .i64 (sgn q)) ∧ Below w.heap.size w w' := by
  have hsz := h.sz
  have hsz1 := hsz.1
  rw [sgn_terms]
  by_cases h0 : nu q = 0
  · rw [if_pos h0]
    have hz := decide_eq_true h0
    clear h0
    go_enter Tryd.func22, Tryd.ntmps22
    go_wp2_with fail
    have HX := BL.one w #[.bool s, .slice A n c, .slice B m d] 26
    refine (qnorm_any _ (h.ext HX.below) (by omega)).mono ?_
    rintro e w1 ⟨A1, c1, B1, d1, rfl, N1, D1, hb⟩
    replace HX := HX.ext hb
    clear hb
    have hc00 := HX.cell 0 0 rfl rfl
    have hf00 := HX.free 0 0 rfl
    have hc01 := HX.cell 0 1 rfl rfl
    have hf01 := HX.free 0 1 rfl
    have hc02 := HX.cell 0 2 rfl rfl
    have hf02 := HX.free 0 2 rfl
    try simp only [List.getElem_toArray, List.getElem_cons_zero, List.getElem_cons_succ] at hc00 hf00 hc01 hf01 hc02 hf02
    go_upto_region 2 with fail
    clear hc00 hf00 hc01 hf01 hc02 hf02
    have hk := HX.keep3 0 rfl rfl rfl rfl (by omega) (.bool (sg q)) (.slice A1 (dig (nu q)).length c1) (.slice B1 (dig q.den).length d1)
    replace HX := HX.put3 0 rfl (by omega) (by intro k q hk hne; match k, hk with | 0, hk => (simp at hk; subst hk; simp at hne ⊢; try omega) | k + 1, hk => simp at hk) (.bool (sg q)) (.slice A1 (dig (nu q)).length c1) (.slice B1 (dig q.den).length d1)
    replace N1 := N1.stay hk
    replace D1 := D1.stay hk
    clear hk
    simp only [List.set_cons_zero] at HX
    generalize ((w1.setCell ⟨w.heap.size, 0, none⟩ (.bool (sg q))).setCell ⟨w.heap.size, 1, none⟩ (.slice A1 (dig (nu q)).length c1)).setCell ⟨w.heap.size, 2, none⟩ (.slice B1 (dig q.den).length d1) = V1 at *
    have hc01 := HX.cell 0 1 rfl rfl
    try simp only [List.getElem_toArray, List.getElem_cons_zero, List.getElem_cons_succ] at hc01
    go_wp2_with fail
    refine (qzero_d _ N1 (by omega)).mono ?_
    rintro e w2 ⟨rfl, hb⟩
    rw [hz]
    clear hc01
    replace HX := HX.ext hb
    replace N1 := N1.ext hb
    replace D1 := D1.ext hb
    clear hb
    go_wp2
    go_ret
    exact ⟨rfl, HX.below⟩
  · rw [if_neg h0]
    have hz := decide_eq_false h0
    clear h0
    cases hs : sg q
    · rw [if_neg (by simp)]
      have HS := Lib.hid hs
      clear hs
      go_enter Tryd.func22, Tryd.ntmps22
      go_wp2_with fail
      have HX := BL.one w #[.bool s, .slice A n c, .slice B m d] 26
      refine (qnorm_any _ (h.ext HX.below) (by omega)).mono ?_
      rintro e w1 ⟨A1, c1, B1, d1, rfl, N1, D1, hb⟩
      replace HX := HX.ext hb
      clear hb
      have hc00 := HX.cell 0 0 rfl rfl
      have hf00 := HX.free 0 0 rfl
      have hc01 := HX.cell 0 1 rfl rfl
      have hf01 := HX.free 0 1 rfl
      have hc02 := HX.cell 0 2 rfl rfl
      have hf02 := HX.free 0 2 rfl
      try simp only [List.getElem_toArray, List.getElem_cons_zero, List.getElem_cons_succ] at hc00 hf00 hc01 hf01 hc02 hf02
      go_upto_region 2 with fail
      clear hc00 hf00 hc01 hf01 hc02 hf02
      have hk := HX.keep3 0 rfl rfl rfl rfl (by omega) (.bool (sg q)) (.slice A1 (dig (nu q)).length c1) (.slice B1 (dig q.den).length d1)
      replace HX := HX.put3 0 rfl (by omega) (by intro k q hk hne; match k, hk with | 0, hk => (simp at hk; subst hk; simp at hne ⊢; try omega) | k + 1, hk => simp at hk) (.bool (sg q)) (.slice A1 (dig (nu q)).length c1) (.slice B1 (dig q.den).length d1)
      replace N1 := N1.stay hk
      replace D1 := D1.stay hk
      clear hk
      simp only [List.set_cons_zero] at HX
      generalize ((w1.setCell ⟨w.heap.size, 0, none⟩ (.bool (sg q))).setCell ⟨w.heap.size, 1, none⟩ (.slice A1 (dig (nu q)).length c1)).setCell ⟨w.heap.size, 2, none⟩ (.slice B1 (dig q.den).length d1) = V1 at *
      have hc01 := HX.cell 0 1 rfl rfl
      try simp only [List.getElem_toArray, List.getElem_cons_zero, List.getElem_cons_succ] at hc01
      go_wp2_with fail
      refine (qzero_d _ N1 (by omega)).mono ?_
      rintro e w2 ⟨rfl, hb⟩
      rw [hz]
      clear hc01
      replace HX := HX.ext hb
      replace N1 := N1.ext hb
      replace D1 := D1.ext hb
      clear hb
      have hc00 : w2.cell? ⟨w.heap.size, 0, none⟩ = some (.bool false) := by rw [← HS.out]; exact HX.cell 0 0 rfl rfl
      go_wp2
      go_ret
      exact ⟨rfl, HX.below⟩
    · rw [if_pos rfl]
      have HS := Lib.hid hs
      clear hs
      go_enter Tryd.func22, Tryd.ntmps22
      go_wp2_with fail
      have HX := BL.one w #[.bool s, .slice A n c, .slice B m d] 26
      refine (qnorm_any _ (h.ext HX.below) (by omega)).mono ?_
      rintro e w1 ⟨A1, c1, B1, d1, rfl, N1, D1, hb⟩
      replace HX := HX.ext hb
      clear hb
      have hc00 := HX.cell 0 0 rfl rfl
      have hf00 := HX.free 0 0 rfl
      have hc01 := HX.cell 0 1 rfl rfl
      have hf01 := HX.free 0 1 rfl
      have hc02 := HX.cell 0 2 rfl rfl
      have hf02 := HX.free 0 2 rfl
      try simp only [List.getElem_toArray, List.getElem_cons_zero, List.getElem_cons_succ] at hc00 hf00 hc01 hf01 hc02 hf02
      go_upto_region 2 with fail
      clear hc00 hf00 hc01 hf01 hc02 hf02
      have hk := HX.keep3 0 rfl rfl rfl rfl (by omega) (.bool (sg q)) (.slice A1 (dig (nu q)).length c1) (.slice B1 (dig q.den).length d1)
      replace HX := HX.put3 0 rfl (by omega) (by intro k q hk hne; match k, hk with | 0, hk => (simp at hk; subst hk; simp at hne ⊢; try omega) | k + 1, hk => simp at hk) (.bool (sg q)) (.slice A1 (dig (nu q)).length c1) (.slice B1 (dig q.den).length d1)
      replace N1 := N1.stay hk
      replace D1 := D1.stay hk
      clear hk
      simp only [List.set_cons_zero] at HX
      generalize ((w1.setCell ⟨w.heap.size, 0, none⟩ (.bool (sg q))).setCell ⟨w.heap.size, 1, none⟩ (.slice A1 (dig (nu q)).length c1)).setCell ⟨w.heap.size, 2, none⟩ (.slice B1 (dig q.den).length d1) = V1 at *
      have hc01 := HX.cell 0 1 rfl rfl
      try simp only [List.getElem_toArray, List.getElem_cons_zero, List.getElem_cons_succ] at hc01
      go_wp2_with fail
      refine (qzero_d _ N1 (by omega)).mono ?_
      rintro e w2 ⟨rfl, hb⟩
      rw [hz]
      clear hc01
      replace HX := HX.ext hb
      replace N1 := N1.ext hb
      replace D1 := D1.ext hb
      clear hb
      have hc00 : w2.cell? ⟨w.heap.size, 0, none⟩ = some (.bool true) := by rw [← HS.out]; exact HX.cell 0 0 rfl rfl
      go_wp2
      go_ret
      exact ⟨rfl, HX.below⟩

set_option maxHeartbeats 4000000 in
set_option maxRecDepth 1000000 in
theorem qadd_any {s t : Bool} {A B A' B' : Option Addr} {n c m d n' c' m' d' : Nat} {p q : Rat} {k k' : Nat} (w : World) (h : Fr w s A n c B m d p k) (h' : Fr w t A' n' c' B' m' d' q k') (hk : k ≤ 67108850) (hk' : k' ≤ 67108850) :
    Calls Tryd.prog 30 #[.agg #[.bool s, .slice A n c, .slice B m d], .agg #[.bool t, .slice A' n' c', .slice B' m' d']] w (RetQ w (p + q)) := by
  have hsp := h.sz
  have hsq := h'.sz
  have hsp1 := hsp.1
  have hsp2 := hsp.2
  have hsq1 := hsq.1
  have hsq2 := hsq.2
  obtain ⟨X, hX⟩ : ∃ X, nu p * q.den = X := ⟨_, rfl⟩
  obtain ⟨Y, hY⟩ : ∃ Y, nu q * p.den = Y := ⟨_, rfl⟩
  obtain ⟨Z, hZ⟩ : ∃ Z, p.den * q.den = Z := ⟨_, rfl⟩
  have hlX : (dig X).length ≤ k + k' + 2 := by rw [← hX]; have := len_mul hsp1 hsq2; omega
  have hlY : (dig Y).length ≤ k + k' + 2 := by rw [← hY]; have := len_mul hsq1 hsp2; omega
  have hlZ : (dig Z).length ≤ k + k' + 2 := by rw [← hZ]; have := len_mul hsp2 hsq2; omega
  have hsum : sg p = sg q → p + q = rv (sg p) (X + Y) Z := fun hs => by
    have e := rv_add_same (sg p) (nu p) p.den (nu q) q.den p.den_pos q.den_pos
    rw [hX, hY, hZ, rv_self] at e
    rw [← e, hs, rv_self]
  have hdif1 : sg q = !sg p → Y ≤ X → p + q = rv (sg p) (X - Y) Z := fun hs hle => by
    have e := rv_add_le (sg p) (nu p) p.den (nu q) q.den p.den_pos q.den_pos (by rw [hX, hY]; exact hle)
    rw [hX, hY, hZ, rv_self, ← hs, rv_self] at e
    exact e
  have hdif2 : sg q = !sg p → X ≤ Y → p + q = rv (sg q) (Y - X) Z := fun hs hle => by
    have e := rv_add_le (sg q) (nu q) q.den (nu p) p.den q.den_pos p.den_pos (by rw [hX, hY]; exact hle)
    rw [hX, hY, Nat.mul_comm q.den p.den, hZ, rv_self, hs, Bool.not_not, rv_self] at e
    rw [Rat.add_comm, hs]
    exact e
  have hlx := len_add (k := k + k' + 2) hlX hlY
  have hlxy := dig_mono (Nat.sub_le X Y)
  have hlyx := dig_mono (Nat.sub_le Y X)
  have hbq : sg p = sg q ∨ sg q = !sg p := by cases sg p <;> cases sg q <;> simp
  have HSUM := Lib.hid hsum
  have HD1 := Lib.hid hdif1
  have HD2 := Lib.hid hdif2
  have HXX := Lib.hid hX
  have HYY := Lib.hid hY
  have HZZ := Lib.hid hZ
  have HBQ := Lib.hid hbq
  clear hX hY hZ hsum hdif1 hdif2 hbq
  go_enter Tryd.func30, Tryd.ntmps30
  go_wp2_with fail
  have HX := BL.three w #[.bool s, .slice A n c, .slice B m d] #[.bool t, .slice A' n' c', .slice B' m' d'] #[.bool false, .slice none 0 0, .slice none 0 0] 26 26 26
  replace h := h.ext HX.below
  replace h' := h'.ext HX.below
  generalize ((w.alloc (.cells #[.bool s, .slice A n c, .slice B m d] 26)).alloc (.cells #[.bool t, .slice A' n' c', .slice B' m' d'] 26)).alloc (.cells #[.bool false, .slice none 0 0, .slice none 0 0] 26) = W0 at *
  refine wp_region_x (al := []) (late := [4, 5]) (dst := fun i => 0) (zt := fun _ => (#[], 0)) (B := W0.heap.size) (n := 4) (r := 2) (by kernel_rfl) (by kernel_rfl) (by decide) ?_ (by kernel_rfl) (by kernel_rfl) (by intro _ _ _ d _ h; cases d <;> exact h) (sz := 6) (by rfl) (by rfl) (Nat.le_refl _) ?_
  · intro i hi; cases hi
  have hE : Ext W0 W0.drew := drew_ext W0
  replace HX := HX.ext hE
  replace h := h.ext hE
  replace h' := h'.ext hE
  clear hE
  refine wpX_take (i := 0) (v := .agg #[.bool s, .slice A n c, .slice B m d]) rfl (by kernel_rfl) (by kernel_rfl) (by kernel_rfl) (fun _ _ _ h => h) (Or.inl ⟨by rfl, fun W hW => ?_⟩) ?_
  · have h0 := (HX.ext hW).cell 0 0 rfl rfl
    have h1 := (HX.ext hW).cell 0 1 rfl rfl
    have h2 := (HX.ext hW).cell 0 2 rfl rfl
    simp only [] at h0 h1 h2
    go_simp
    try rfl
  try simp only [Act.put, List.setIfInBounds_toArray]
  refine wpX_take (i := 2) (v := .agg #[.bool t, .slice A' n' c', .slice B' m' d']) rfl (by kernel_rfl) (by kernel_rfl) (by kernel_rfl) (fun _ _ _ h => h) (Or.inl ⟨by rfl, fun W hW => ?_⟩) ?_
  · have h0 := (HX.ext hW).cell 1 0 rfl rfl
    have h1 := (HX.ext hW).cell 1 1 rfl rfl
    have h2 := (HX.ext hW).cell 1 2 rfl rfl
    simp only [] at h0 h1 h2
    go_simp
    try rfl
  try simp only [Act.put]
  refine wpX_step (i := 1) (by kernel_rfl) rfl (fun W1 K hE hK => ?_)
  replace HX := HX.ext hE
  replace h := h.ext hE
  replace h' := h'.ext hE
  clear hE
  go_simp
  refine (qnorm_any _ h (by omega)).mono ?_
  rintro e W2 ⟨A1, c1, B1, d1, rfl, N1, D1, hb⟩
  go_wp2_with fail
  refine hK.out _ _ hb ?_
  clear hK K
  replace HX := HX.ext hb
  replace h := h.ext hb
  replace h' := h'.ext hb
  clear hb
  try simp only [Act.put, List.setIfInBounds_toArray, List.set_cons_zero, List.set_cons_succ]
  skip
  refine wpX_step (i := 3) (by kernel_rfl) rfl (fun W1 K hE hK => ?_)
  replace HX := HX.ext hE
  replace h := h.ext hE
  replace h' := h'.ext hE
  replace N1 := N1.ext hE
  replace D1 := D1.ext hE
  clear hE
  go_simp
  refine (qnorm_any _ h' (by omega)).mono ?_
  rintro e W2 ⟨A2, c2, B2, d2, rfl, N2, D2, hb⟩
  go_wp2_with fail
  refine hK.out _ _ hb ?_
  clear hK K
  replace HX := HX.ext hb
  replace h := h.ext hb
  replace h' := h'.ext hb
  replace N1 := N1.ext hb
  replace D1 := D1.ext hb
  clear hb
  try simp only [Act.put, List.setIfInBounds_toArray, List.set_cons_zero, List.set_cons_succ]
  skip
  clear h h'
  refine wpX_end (by kernel_rfl) (fun W1 ga m hE hg hm => ?_)
  replace HX := HX.ext hE
  replace N1 := N1.ext hE
  replace D1 := D1.ext hE
  replace N2 := N2.ext hE
  replace D2 := D2.ext hE
  clear hE
  clear hg
  simp only [putAll, setAll]
  clear ga
  have hc00 := HX.cell 0 0 rfl rfl
  have hf00 := HX.free 0 0 rfl
  have hc01 := HX.cell 0 1 rfl rfl
  have hf01 := HX.free 0 1 rfl
  have hc02 := HX.cell 0 2 rfl rfl
  have hf02 := HX.free 0 2 rfl
  try simp only [List.getElem_toArray, List.getElem_cons_zero, List.getElem_cons_succ] at hc00 hf00 hc01 hf01 hc02 hf02
  refine wpAny_step (i := 4) (by kernel_rfl) rfl (by omega) (fun K hK => ?_)
  go_simp
  refine hK.out _ _ ?_
  clear hK K
  clear hc00 hf00 hc01 hf01 hc02 hf02
  have hk := HX.keep3 0 rfl rfl rfl rfl (by omega) (.bool (sg p)) (.slice A1 (dig (nu p)).length c1) (.slice B1 (dig p.den).length d1)
  replace HX := HX.put3 0 rfl (by omega) (by intro k q hk hne; match k, hk with | 0, hk => (simp at hk; subst hk; simp at hne ⊢; try omega) | 1, hk => (simp at hk; subst hk; simp at hne ⊢; try omega) | 2, hk => (simp at hk; subst hk; simp at hne ⊢; try omega) | k + 3, hk => simp at hk) (.bool (sg p)) (.slice A1 (dig (nu p)).length c1) (.slice B1 (dig p.den).length d1)
  replace N1 := N1.stay hk
  replace D1 := D1.stay hk
  replace N2 := N2.stay hk
  replace D2 := D2.stay hk
  clear hk
  simp only [List.set_cons_zero] at HX
  have hc10 := HX.cell 1 0 rfl rfl
  have hf10 := HX.free 1 0 rfl
  have hc11 := HX.cell 1 1 rfl rfl
  have hf11 := HX.free 1 1 rfl
  have hc12 := HX.cell 1 2 rfl rfl
  have hf12 := HX.free 1 2 rfl
  try simp only [List.getElem_toArray, List.getElem_cons_zero, List.getElem_cons_succ] at hc10 hf10 hc11 hf11 hc12 hf12
  refine wpAny_step (i := 5) (by kernel_rfl) rfl (by omega) (fun K hK => ?_)
  go_simp
  refine hK.out _ _ ?_
  clear hK K
  clear hc10 hf10 hc11 hf11 hc12 hf12
  have hk := HX.keep3 1 rfl rfl rfl rfl (by omega) (.bool (sg q)) (.slice A2 (dig (nu q)).length c2) (.slice B2 (dig q.den).length d2)
  replace HX := HX.put3 1 rfl (by omega) (by intro k q hk hne; match k, hk with | 0, hk => (simp at hk; subst hk; simp at hne ⊢; try omega) | 1, hk => (simp at hk; subst hk; simp at hne ⊢; try omega) | 2, hk => (simp at hk; subst hk; simp at hne ⊢; try omega) | k + 3, hk => simp at hk) (.bool (sg q)) (.slice A2 (dig (nu q)).length c2) (.slice B2 (dig q.den).length d2)
  replace N1 := N1.stay hk
  replace D1 := D1.stay hk
  replace N2 := N2.stay hk
  replace D2 := D2.stay hk
  clear hk
  simp only [List.set_cons_zero, List.set_cons_succ] at HX
  refine wpAny_done (by kernel_rfl) ?_ _
  generalize hW : ((((((W1.setCell ⟨w.heap.size, 0, none⟩ _).setCell ⟨w.heap.size, 1, none⟩ _).setCell ⟨w.heap.size, 2, none⟩ _).setCell ⟨w.heap.size + 1, 0, none⟩ _).setCell ⟨w.heap.size + 1, 1, none⟩ _).setCell ⟨w.heap.size + 1, 2, none⟩ _) = W2 at *
  clear hW
  have hc01 := HX.cell 0 1 rfl rfl
  have hc12 := HX.cell 1 2 rfl rfl
  try simp only [List.getElem_toArray, List.getElem_cons_zero, List.getElem_cons_succ] at hc01 hc12
  go_wp2_with fail
  refine (rmul_d _ N1 D2 (by omega) (by omega)).mono ?_
  rintro e w3 ⟨AX, cX, rfl, LX, hb⟩
  rw [HXX.out] at LX
  rw [HXX.out]
  clear hc01 hc12
  replace HX := HX.ext hb
  replace N1 := N1.ext hb
  replace D1 := D1.ext hb
  replace N2 := N2.ext hb
  replace D2 := D2.ext hb
  clear hb
  go_upto_region 3 with fail
  have ltX := HX.lt 2 rfl
  simp only [] at ltX
  have hb := below_alloc w3 (.cells #[.slice AX (dig X).length cX] 24)
  replace HX := HX.new #[.slice AX (dig X).length cX] 24
  simp only [List.cons_append, List.nil_append] at HX
  replace N1 := N1.ext hb
  replace D1 := D1.ext hb
  replace N2 := N2.ext hb
  replace D2 := D2.ext hb
  replace LX := LX.ext hb
  clear hb
  generalize w3.alloc (.cells #[.slice AX (dig X).length cX] 24) = V3 at *
  generalize w3.heap.size = gx at *
  have hc11 := HX.cell 1 1 rfl rfl
  have hc02 := HX.cell 0 2 rfl rfl
  try simp only [List.getElem_toArray, List.getElem_cons_zero, List.getElem_cons_succ] at hc11 hc02
  go_wp2_with fail
  refine (rmul_d _ N2 D1 (by omega) (by omega)).mono ?_
  rintro e w4 ⟨AY, cY, rfl, LY, hb⟩
  rw [HYY.out] at LY
  rw [HYY.out]
  clear hc11 hc02
  replace HX := HX.ext hb
  replace N1 := N1.ext hb
  replace D1 := D1.ext hb
  replace N2 := N2.ext hb
  replace D2 := D2.ext hb
  replace LX := LX.ext hb
  clear hb
  go_upto_region 4 with fail
  have ltY := HX.lt 3 rfl
  simp only [] at ltY
  have hb := below_alloc w4 (.cells #[.slice AY (dig Y).length cY] 24)
  replace HX := HX.new #[.slice AY (dig Y).length cY] 24
  simp only [List.cons_append, List.nil_append] at HX
  replace N1 := N1.ext hb
  replace D1 := D1.ext hb
  replace N2 := N2.ext hb
  replace D2 := D2.ext hb
  replace LX := LX.ext hb
  replace LY := LY.ext hb
  clear hb
  generalize w4.alloc (.cells #[.slice AY (dig Y).length cY] 24) = V4 at *
  generalize w4.heap.size = gy at *
  have hc02 := HX.cell 0 2 rfl rfl
  have hc12 := HX.cell 1 2 rfl rfl
  try simp only [List.getElem_toArray, List.getElem_cons_zero, List.getElem_cons_succ] at hc02 hc12
  go_wp2_with fail
  refine (rmul_d _ D1 D2 (by omega) (by omega)).mono ?_
  rintro e w5 ⟨AZ, cZ, rfl, LZ, hb⟩
  rw [HZZ.out] at LZ
  rw [HZZ.out]
  clear hc02 hc12
  replace HX := HX.ext hb
  replace N1 := N1.ext hb
  replace D1 := D1.ext hb
  replace N2 := N2.ext hb
  replace D2 := D2.ext hb
  replace LX := LX.ext hb
  replace LY := LY.ext hb
  clear hb
  go_upto_region 5 with fail
  have ltZ := HX.lt 4 rfl
  simp only [] at ltZ
  have hb := below_alloc w5 (.cells #[.slice AZ (dig Z).length cZ] 24)
  replace HX := HX.new #[.slice AZ (dig Z).length cZ] 24
  simp only [List.cons_append, List.nil_append] at HX
  replace N1 := N1.ext hb
  replace D1 := D1.ext hb
  replace N2 := N2.ext hb
  replace D2 := D2.ext hb
  replace LX := LX.ext hb
  replace LY := LY.ext hb
  replace LZ := LZ.ext hb
  clear hb
  generalize w5.alloc (.cells #[.slice AZ (dig Z).length cZ] 24) = V5 at *
  generalize w5.heap.size = gz at *
  clear N1 D1 N2 D2
  by_cases hsg : sg p = sg q
  · have hsb : (sg p == sg q) = true := by simp [hsg]
    have hpq := Lib.hid (HSUM.out hsg)
    clear hsg
    have hc00 := HX.cell 0 0 rfl rfl
    have hc10 := HX.cell 1 0 rfl rfl
    try simp only [List.getElem_toArray, List.getElem_cons_zero] at hc00 hc10
    go_upto_region 6 with fail
    clear hc00 hc10
    refine wp_region_x (al := []) (late := [7]) (dst := fun i => 0) (zt := fun _ => (#[], 0)) (B := V5.heap.size) (n := 7) (r := 1) (by kernel_rfl) (by kernel_rfl) (by decide) ?_ (by kernel_rfl) (by kernel_rfl) (by intro _ _ _ d _ h; cases d <;> exact h) (sz := 8) (by rfl) (by rfl) (Nat.le_refl _) ?_
    · intro i hi; cases hi
    have hE : Ext V5 V5.drew := drew_ext V5
    replace HX := HX.ext hE
    replace LX := LX.ext hE
    replace LY := LY.ext hE
    replace LZ := LZ.ext hE
    clear hE
    refine wpX_take (i := 0) (v := .pointer (some ⟨w.heap.size, 0, none⟩)) rfl (by kernel_rfl) (by kernel_rfl) (by kernel_rfl) (fun _ _ _ h => h) (Or.inl ⟨by rfl, fun W hW => ?_⟩) ?_
    · go_simp
      try rfl
    try simp only [Act.put, List.setIfInBounds_toArray]
    refine wpX_take (i := 1) (v := .bool (sg p)) rfl (by kernel_rfl) (by kernel_rfl) (by kernel_rfl) (fun _ _ _ h => h) (Or.inl ⟨by rfl, fun W hW => ?_⟩) ?_
    · have h0 := (HX.ext hW).cell 0 0 rfl rfl
      simp only [] at h0
      go_simp
      try rfl
    try simp only [Act.put]
    refine wpX_take (i := 2) (v := .agg #[.slice AX (dig X).length cX]) rfl (by kernel_rfl) (by kernel_rfl) (by kernel_rfl) (fun _ _ _ h => h) (Or.inl ⟨by rfl, fun W hW => ?_⟩) ?_
    · have h0 := (HX.ext hW).cell 3 0 rfl rfl
      simp only [] at h0
      go_simp
      try rfl
    try simp only [Act.put]
    refine wpX_take (i := 3) (v := .agg #[.slice AY (dig Y).length cY]) rfl (by kernel_rfl) (by kernel_rfl) (by kernel_rfl) (fun _ _ _ h => h) (Or.inl ⟨by rfl, fun W hW => ?_⟩) ?_
    · have h0 := (HX.ext hW).cell 4 0 rfl rfl
      simp only [] at h0
      go_simp
      try rfl
    try simp only [Act.put]
    refine wpX_take (i := 5) (v := .agg #[.slice AZ (dig Z).length cZ]) rfl (by kernel_rfl) (by kernel_rfl) (by kernel_rfl) (fun _ _ _ h => h) (Or.inl ⟨by rfl, fun W hW => ?_⟩) ?_
    · have h0 := (HX.ext hW).cell 5 0 rfl rfl
      simp only [] at h0
      go_simp
      try rfl
    try simp only [Act.put]
    refine wpX_step (i := 4) (by kernel_rfl) rfl (fun W1 K hE hK => ?_)
    replace HX := HX.ext hE
    replace LX := LX.ext hE
    replace LY := LY.ext hE
    replace LZ := LZ.ext hE
    clear hE
    go_simp
    refine (radd_d _ LX LY (by omega) (by omega)).mono ?_
    rintro e W2 ⟨AS, cS, rfl, LS, hb⟩
    go_wp2_with fail
    refine hK.out _ _ hb ?_
    clear hK K
    replace HX := HX.ext hb
    replace LX := LX.ext hb
    replace LY := LY.ext hb
    replace LZ := LZ.ext hb
    clear hb
    try simp only [Act.put, List.setIfInBounds_toArray, List.set_cons_zero, List.set_cons_succ]
    skip
    refine wpX_step (i := 6) (by kernel_rfl) rfl (fun W1 K hE hK => ?_)
    replace HX := HX.ext hE
    replace LX := LX.ext hE
    replace LY := LY.ext hE
    replace LZ := LZ.ext hE
    replace LS := LS.ext hE
    clear hE
    go_simp
    refine (qmade_fr (s := sg p) (Fr.of2 (k := 268435456) LS LZ (by omega) (by omega)) (Nat.le_refl _)).mono ?_
    rintro e W2 ⟨A9, c9, B9, d9, rfl, N9, D9, hb⟩
    rw [← hpq.out] at N9 D9
    rw [← hpq.out]
    go_wp2_with fail
    refine hK.out _ _ hb ?_
    clear hK K
    replace HX := HX.ext hb
    replace LX := LX.ext hb
    replace LY := LY.ext hb
    replace LZ := LZ.ext hb
    replace LS := LS.ext hb
    clear hb
    try simp only [Act.put, List.setIfInBounds_toArray, List.set_cons_zero, List.set_cons_succ]
    skip
    clear LS LX LY LZ
    refine wpX_end (by kernel_rfl) (fun W7 ga m hE hg hm => ?_)
    replace HX := HX.ext hE
    replace N9 := N9.ext hE
    replace D9 := D9.ext hE
    clear hE
    clear hg
    simp only [putAll, setAll]
    clear ga
    have hc20 := HX.cell 2 0 rfl rfl
    have hf20 := HX.free 2 0 rfl
    have hc21 := HX.cell 2 1 rfl rfl
    have hf21 := HX.free 2 1 rfl
    have hc22 := HX.cell 2 2 rfl rfl
    have hf22 := HX.free 2 2 rfl
    try simp only [List.getElem_toArray, List.getElem_cons_zero, List.getElem_cons_succ] at hc20 hf20 hc21 hf21 hc22 hf22
    refine wpAny_step (i := 7) (by kernel_rfl) rfl (by omega) (fun K hK => ?_)
    go_simp
    refine hK.out _ _ ?_
    clear hK K
    clear hc20 hf20 hc21 hf21 hc22 hf22
    have hk := HX.keep3 2 rfl rfl rfl rfl (by omega) (.bool (sg (p + q))) (.slice A9 (dig (nu (p + q))).length c9) (.slice B9 (dig (p + q).den).length d9)
    replace HX := HX.put3 2 rfl (by omega) (by intro k q hk hne; match k, hk with | 0, hk => (simp at hk; subst hk; simp at hne ⊢; try omega) | 1, hk => (simp at hk; subst hk; simp at hne ⊢; try omega) | 2, hk => (simp at hk; subst hk; simp at hne ⊢; try omega) | 3, hk => (simp at hk; subst hk; simp at hne ⊢; try omega) | 4, hk => (simp at hk; subst hk; simp at hne ⊢; try omega) | 5, hk => (simp at hk; subst hk; simp at hne ⊢; try omega) | k + 6, hk => simp at hk) (.bool (sg (p + q))) (.slice A9 (dig (nu (p + q))).length c9) (.slice B9 (dig (p + q).den).length d9)
    replace N9 := N9.stay hk
    replace D9 := D9.stay hk
    clear hk
    simp only [List.set_cons_zero, List.set_cons_succ] at HX
    refine wpAny_done (by kernel_rfl) ?_ _
    have hc20 := HX.cell 2 0 rfl rfl
    have hc21 := HX.cell 2 1 rfl rfl
    have hc22 := HX.cell 2 2 rfl rfl
    try simp only [List.getElem_toArray, List.getElem_cons_zero, List.getElem_cons_succ] at hc20 hc21 hc22
    go_wp2
    exact bodyPost_ret (v := .agg #[.bool (sg (p + q)), .slice A9 (dig (nu (p + q))).length c9, .slice B9 (dig (p + q).den).length d9]) (by simp [results, Tryd.results30, go_sem, hc20, hc21, hc22]) rfl ⟨A9, c9, B9, d9, rfl, N9, D9, HX.below⟩
  · have hsb : (sg p == sg q) = false := by simp [hsg]
    have hns : sg q = !sg p := HBQ.out.resolve_left hsg
    clear hsg
    by_cases hle : Y ≤ X
    · have hcc : decide (0 ≤ cmpI X Y) = true := decide_eq_true (by
        rcases Nat.lt_or_ge Y X with h | h
        · rw [cmpI_gt h]; omega
        · rw [cmpI_eq (by omega)]; omega)
      have hpq := Lib.hid (HD1.out hns hle)
      clear hns
      have hc00 := HX.cell 0 0 rfl rfl
      have hc10 := HX.cell 1 0 rfl rfl
      have hc30 := HX.cell 3 0 rfl rfl
      have hc40 := HX.cell 4 0 rfl rfl
      try simp only [List.getElem_toArray, List.getElem_cons_zero] at hc00 hc10 hc30 hc40
      go_wp2_with fail
      refine (rcmp_d _ LX LY (by omega) (by omega)).mono ?_
      rintro e w6 ⟨rfl, hb⟩
      clear hc00 hc10 hc30 hc40
      replace HX := HX.ext hb
      replace LX := LX.ext hb
      replace LY := LY.ext hb
      replace LZ := LZ.ext hb
      clear hb
      have hc30 := HX.cell 3 0 rfl rfl
      have hc40 := HX.cell 4 0 rfl rfl
      try simp only [List.getElem_toArray, List.getElem_cons_zero] at hc30 hc40
      go_wp2_with fail
      refine (rsub_d _ LX LY (by omega) (by omega) hle).mono ?_
      rintro e w7 ⟨AS, cS, rfl, LS, hb, _⟩
      clear hc30 hc40
      replace HX := HX.ext hb
      replace LX := LX.ext hb
      replace LY := LY.ext hb
      replace LZ := LZ.ext hb
      clear hb
      go_upto_region 9 with fail
      have ltS := HX.lt 5 rfl
      simp only [] at ltS
      have hb := below_alloc w7 (.cells #[.slice AS (dig (X - Y)).length cS] 24)
      replace HX := HX.new #[.slice AS (dig (X - Y)).length cS] 24
      simp only [List.cons_append, List.nil_append] at HX
      replace LX := LX.ext hb
      replace LY := LY.ext hb
      replace LZ := LZ.ext hb
      replace LS := LS.ext hb
      clear hb
      generalize w7.alloc (.cells #[.slice AS (dig (X - Y)).length cS] 24) = V7 at *
      generalize w7.heap.size = gs at *
      have hc00 := HX.cell 0 0 rfl rfl
      have hc50 := HX.cell 5 0 rfl rfl
      have hc60 := HX.cell 6 0 rfl rfl
      try simp only [List.getElem_toArray, List.getElem_cons_zero] at hc00 hc50 hc60
      go_wp2_with fail
      refine (qmade_fr (s := sg p) (Fr.of2 (k := 268435456) LS LZ (by omega) (by omega)) (Nat.le_refl _)).mono ?_
      rintro e w8 ⟨A9, c9, B9, d9, rfl, N9, D9, hb⟩
      rw [← hpq.out] at N9 D9
      rw [← hpq.out]
      clear LS LX LY LZ
      clear hc00 hc50 hc60
      replace HX := HX.ext hb
      clear hb
      have hc20 := HX.cell 2 0 rfl rfl
      have hf20 := HX.free 2 0 rfl
      have hc21 := HX.cell 2 1 rfl rfl
      have hf21 := HX.free 2 1 rfl
      have hc22 := HX.cell 2 2 rfl rfl
      have hf22 := HX.free 2 2 rfl
      try simp only [List.getElem_toArray, List.getElem_cons_zero, List.getElem_cons_succ] at hc20 hf20 hc21 hf21 hc22 hf22
      go_wp2
      clear hc20 hf20 hc21 hf21 hc22 hf22
      have hk := HX.keep3 2 rfl rfl rfl rfl (by omega) (.bool (sg (p + q))) (.slice A9 (dig (nu (p + q))).length c9) (.slice B9 (dig (p + q).den).length d9)
      replace HX := HX.put3 2 rfl (by omega) (by intro k q hk hne; match k, hk with | 0, hk => (simp at hk; subst hk; simp at hne ⊢; try omega) | 1, hk => (simp at hk; subst hk; simp at hne ⊢; try omega) | 2, hk => (simp at hk; subst hk; simp at hne ⊢; try omega) | 3, hk => (simp at hk; subst hk; simp at hne ⊢; try omega) | 4, hk => (simp at hk; subst hk; simp at hne ⊢; try omega) | 5, hk => (simp at hk; subst hk; simp at hne ⊢; try omega) | 6, hk => (simp at hk; subst hk; simp at hne ⊢; try omega) | k + 7, hk => simp at hk) (.bool (sg (p + q))) (.slice A9 (dig (nu (p + q))).length c9) (.slice B9 (dig (p + q).den).length d9)
      replace N9 := N9.stay hk
      replace D9 := D9.stay hk
      clear hk
      simp only [List.set_cons_zero, List.set_cons_succ] at HX
      have hc20 := HX.cell 2 0 rfl rfl
      have hc21 := HX.cell 2 1 rfl rfl
      have hc22 := HX.cell 2 2 rfl rfl
      try simp only [List.getElem_toArray, List.getElem_cons_zero, List.getElem_cons_succ] at hc20 hc21 hc22
      exact bodyPost_ret (v := .agg #[.bool (sg (p + q)), .slice A9 (dig (nu (p + q))).length c9, .slice B9 (dig (p + q).den).length d9]) (by simp [results, Tryd.results30, go_sem, hc20, hc21, hc22]) rfl ⟨A9, c9, B9, d9, rfl, N9, D9, HX.below⟩
    · have hcc : decide (0 ≤ cmpI X Y) = false := decide_eq_false (by rw [cmpI_lt (by omega)]; omega)
      have hle2 : X ≤ Y := by omega
      have hpq := Lib.hid (HD2.out hns hle2)
      clear hns
      have hc00 := HX.cell 0 0 rfl rfl
      have hc10 := HX.cell 1 0 rfl rfl
      have hc30 := HX.cell 3 0 rfl rfl
      have hc40 := HX.cell 4 0 rfl rfl
      try simp only [List.getElem_toArray, List.getElem_cons_zero] at hc00 hc10 hc30 hc40
      go_wp2_with fail
      refine (rcmp_d _ LX LY (by omega) (by omega)).mono ?_
      rintro e w6 ⟨rfl, hb⟩
      clear hc00 hc10 hc30 hc40
      replace HX := HX.ext hb
      replace LX := LX.ext hb
      replace LY := LY.ext hb
      replace LZ := LZ.ext hb
      clear hb
      have hc30 := HX.cell 3 0 rfl rfl
      have hc40 := HX.cell 4 0 rfl rfl
      try simp only [List.getElem_toArray, List.getElem_cons_zero] at hc30 hc40
      go_wp2_with fail
      refine (rsub_d _ LY LX (by omega) (by omega) hle2).mono ?_
      rintro e w7 ⟨AS, cS, rfl, LS, hb, _⟩
      clear hc30 hc40
      replace HX := HX.ext hb
      replace LX := LX.ext hb
      replace LY := LY.ext hb
      replace LZ := LZ.ext hb
      clear hb
      go_upto_region 11 with fail
      have ltS := HX.lt 5 rfl
      simp only [] at ltS
      have hb := below_alloc w7 (.cells #[.slice AS (dig (Y - X)).length cS] 24)
      replace HX := HX.new #[.slice AS (dig (Y - X)).length cS] 24
      simp only [List.cons_append, List.nil_append] at HX
      replace LX := LX.ext hb
      replace LY := LY.ext hb
      replace LZ := LZ.ext hb
      replace LS := LS.ext hb
      clear hb
      generalize w7.alloc (.cells #[.slice AS (dig (Y - X)).length cS] 24) = V7 at *
      generalize w7.heap.size = gs at *
      have hc10 := HX.cell 1 0 rfl rfl
      have hc50 := HX.cell 5 0 rfl rfl
      have hc60 := HX.cell 6 0 rfl rfl
      try simp only [List.getElem_toArray, List.getElem_cons_zero] at hc10 hc50 hc60
      go_wp2_with fail
      refine (qmade_fr (s := sg q) (Fr.of2 (k := 268435456) LS LZ (by omega) (by omega)) (Nat.le_refl _)).mono ?_
      rintro e w8 ⟨A9, c9, B9, d9, rfl, N9, D9, hb⟩
      rw [← hpq.out] at N9 D9
      rw [← hpq.out]
      clear LS LX LY LZ
      clear hc10 hc50 hc60
      replace HX := HX.ext hb
      clear hb
      have hc20 := HX.cell 2 0 rfl rfl
      have hf20 := HX.free 2 0 rfl
      have hc21 := HX.cell 2 1 rfl rfl
      have hf21 := HX.free 2 1 rfl
      have hc22 := HX.cell 2 2 rfl rfl
      have hf22 := HX.free 2 2 rfl
      try simp only [List.getElem_toArray, List.getElem_cons_zero, List.getElem_cons_succ] at hc20 hf20 hc21 hf21 hc22 hf22
      go_wp2
      clear hc20 hf20 hc21 hf21 hc22 hf22
      have hk := HX.keep3 2 rfl rfl rfl rfl (by omega) (.bool (sg (p + q))) (.slice A9 (dig (nu (p + q))).length c9) (.slice B9 (dig (p + q).den).length d9)
      replace HX := HX.put3 2 rfl (by omega) (by intro k q hk hne; match k, hk with | 0, hk => (simp at hk; subst hk; simp at hne ⊢; try omega) | 1, hk => (simp at hk; subst hk; simp at hne ⊢; try omega) | 2, hk => (simp at hk; subst hk; simp at hne ⊢; try omega) | 3, hk => (simp at hk; subst hk; simp at hne ⊢; try omega) | 4, hk => (simp at hk; subst hk; simp at hne ⊢; try omega) | 5, hk => (simp at hk; subst hk; simp at hne ⊢; try omega) | 6, hk => (simp at hk; subst hk; simp at hne ⊢; try omega) | k + 7, hk => simp at hk) (.bool (sg (p + q))) (.slice A9 (dig (nu (p + q))).length c9) (.slice B9 (dig (p + q).den).length d9)
      replace N9 := N9.stay hk
      replace D9 := D9.stay hk
      clear hk
      simp only [List.set_cons_zero, List.set_cons_succ] at HX
      have hc20 := HX.cell 2 0 rfl rfl
      have hc21 := HX.cell 2 1 rfl rfl
      have hc22 := HX.cell 2 2 rfl rfl
      try simp only [List.getElem_toArray, List.getElem_cons_zero, List.getElem_cons_succ] at hc20 hc21 hc22
      exact bodyPost_ret (v := .agg #[.bool (sg (p + q)), .slice A9 (dig (nu (p + q))).length c9, .slice B9 (dig (p + q).den).length d9]) (by simp [results, Tryd.results30, go_sem, hc20, hc21, hc22]) rfl ⟨A9, c9, B9, d9, rfl, N9, D9, HX.below⟩

set_option maxHeartbeats 4000000 in
set_option maxRecDepth 1000000 in
theorem qsub_any {s t : Bool} {A B A' B' : Option Addr} {n c m d n' c' m' d' : Nat} {p q : Rat} {k k' : Nat} (w : World) (h : Fr w s A n c B m d p k) (h' : Fr w t A' n' c' B' m' d' q k') (hk : k ≤ 67108840) (hk' : k' ≤ 67108840) :
    Calls Tryd.prog 31 #[.agg #[.bool s, .slice A n c, .slice B m d], .agg #[.bool t, .slice A' n' c', .slice B' m' d']] w (RetQ w (p - q)) := by
  have hsz : Sz (-q) (k' + 1) := h'.sz.neg
  rw [Rat.sub_eq_add_neg p q]
  go_enter Tryd.func31, Tryd.ntmps31
  go_wp2_with fail
  have HX := BL.three w #[.bool s, .slice A n c, .slice B m d] #[.bool t, .slice A' n' c', .slice B' m' d'] #[.bool false, .slice none 0 0, .slice none 0 0] 26 26 26
  replace h := h.ext HX.below
  replace h' := h'.ext HX.below
  generalize ((w.alloc (.cells #[.bool s, .slice A n c, .slice B m d] 26)).alloc (.cells #[.bool t, .slice A' n' c', .slice B' m' d'] 26)).alloc (.cells #[.bool false, .slice none 0 0, .slice none 0 0] 26) = W0 at *
  refine wp_region_x (al := []) (late := [4]) (dst := fun i => 0) (zt := fun _ => (#[], 0)) (B := W0.heap.size) (n := 4) (r := 1) (by kernel_rfl) (by kernel_rfl) (by decide) ?_ (by kernel_rfl) (by kernel_rfl) (by intro _ _ _ d _ h; cases d <;> exact h) (sz := 5) (by rfl) (by rfl) (Nat.le_refl _) ?_
  · intro i hi; cases hi
  have hE : Ext W0 W0.drew := drew_ext W0
  replace HX := HX.ext hE
  replace h := h.ext hE
  replace h' := h'.ext hE
  clear hE
  refine wpX_take (i := 0) (v := .agg #[.bool s, .slice A n c, .slice B m d]) rfl (by kernel_rfl) (by kernel_rfl) (by kernel_rfl) (fun _ _ _ h => h) (Or.inl ⟨by rfl, fun W hW => ?_⟩) ?_
  · have h0 := (HX.ext hW).cell 0 0 rfl rfl
    have h1 := (HX.ext hW).cell 0 1 rfl rfl
    have h2 := (HX.ext hW).cell 0 2 rfl rfl
    simp only [] at h0 h1 h2
    go_simp
    try rfl
  try simp only [Act.put, List.setIfInBounds_toArray]
  refine wpX_take (i := 1) (v := .agg #[.bool t, .slice A' n' c', .slice B' m' d']) rfl (by kernel_rfl) (by kernel_rfl) (by kernel_rfl) (fun _ _ _ h => h) (Or.inl ⟨by rfl, fun W hW => ?_⟩) ?_
  · have h0 := (HX.ext hW).cell 1 0 rfl rfl
    have h1 := (HX.ext hW).cell 1 1 rfl rfl
    have h2 := (HX.ext hW).cell 1 2 rfl rfl
    simp only [] at h0 h1 h2
    go_simp
    try rfl
  try simp only [Act.put]
  refine wpX_step (i := 2) (by kernel_rfl) rfl (fun W1 K hE hK => ?_)
  replace HX := HX.ext hE
  replace h := h.ext hE
  replace h' := h'.ext hE
  clear hE
  go_simp
  refine (qneg_any _ h' (by omega)).mono ?_
  rintro e W2 ⟨A1, c1, B1, d1, rfl, N1, D1, hb⟩
  go_wp2_with fail
  refine hK.out _ _ hb ?_
  clear hK K
  replace HX := HX.ext hb
  replace h := h.ext hb
  replace h' := h'.ext hb
  clear hb
  try simp only [Act.put, List.setIfInBounds_toArray, List.set_cons_zero, List.set_cons_succ]
  skip
  refine wpX_step (i := 3) (by kernel_rfl) rfl (fun W1 K hE hK => ?_)
  replace HX := HX.ext hE
  replace h := h.ext hE
  replace h' := h'.ext hE
  replace N1 := N1.ext hE
  replace D1 := D1.ext hE
  clear hE
  go_simp
  refine (qadd_any _ h (Fr.of N1 D1 hsz) (by omega) (by omega)).mono ?_
  rintro e W2 ⟨A9, c9, B9, d9, rfl, N9, D9, hb⟩
  go_wp2_with fail
  refine hK.out _ _ hb ?_
  clear hK K
  replace HX := HX.ext hb
  replace h := h.ext hb
  replace h' := h'.ext hb
  replace N1 := N1.ext hb
  replace D1 := D1.ext hb
  clear hb
  try simp only [Act.put, List.setIfInBounds_toArray, List.set_cons_zero, List.set_cons_succ]
  skip
  clear h h' N1 D1
  refine wpX_end (by kernel_rfl) (fun W1 ga m hE hg hm => ?_)
  replace HX := HX.ext hE
  replace N9 := N9.ext hE
  replace D9 := D9.ext hE
  clear hE
  clear hg
  simp only [putAll, setAll]
  clear ga
  have hc20 := HX.cell 2 0 rfl rfl
  have hf20 := HX.free 2 0 rfl
  have hc21 := HX.cell 2 1 rfl rfl
  have hf21 := HX.free 2 1 rfl
  have hc22 := HX.cell 2 2 rfl rfl
  have hf22 := HX.free 2 2 rfl
  try simp only [List.getElem_toArray, List.getElem_cons_zero, List.getElem_cons_succ] at hc20 hf20 hc21 hf21 hc22 hf22
  refine wpAny_step (i := 4) (by kernel_rfl) rfl (by omega) (fun K hK => ?_)
  go_simp
  refine hK.out _ _ ?_
  clear hK K
  clear hc20 hf20 hc21 hf21 hc22 hf22
  have hk := HX.keep3 2 rfl rfl rfl rfl (by omega) (.bool (sg (p + -q))) (.slice A9 (dig (nu (p + -q))).length c9) (.slice B9 (dig (p + -q).den).length d9)
  replace HX := HX.put3 2 rfl (by omega) (by intro k q hk hne; match k, hk with | 0, hk => (simp at hk; subst hk; simp at hne ⊢; try omega) | 1, hk => (simp at hk; subst hk; simp at hne ⊢; try omega) | 2, hk => (simp at hk; subst hk; simp at hne ⊢; try omega) | k + 3, hk => simp at hk) (.bool (sg (p + -q))) (.slice A9 (dig (nu (p + -q))).length c9) (.slice B9 (dig (p + -q).den).length d9)
  replace N9 := N9.stay hk
  replace D9 := D9.stay hk
  clear hk
  simp only [List.set_cons_zero, List.set_cons_succ] at HX
  refine wpAny_done (by kernel_rfl) ?_ _
  have hc20 := HX.cell 2 0 rfl rfl
  have hc21 := HX.cell 2 1 rfl rfl
  have hc22 := HX.cell 2 2 rfl rfl
  try simp only [List.getElem_toArray, List.getElem_cons_zero, List.getElem_cons_succ] at hc20 hc21 hc22
  go_wp2
  exact bodyPost_ret (v := .agg #[.bool (sg (p + -q)), .slice A9 (dig (nu (p + -q))).length c9, .slice B9 (dig (p + -q).den).length d9]) (by simp [results, Tryd.results31, go_sem, hc20, hc21, hc22]) rfl ⟨A9, c9, B9, d9, rfl, N9, D9, HX.below⟩

set_option maxHeartbeats 4000000 in
set_option maxRecDepth 1000000 in
theorem qcmp_any {s t : Bool} {A B A' B' : Option Addr} {n c m d n' c' m' d' : Nat} {p q : Rat} {k k' : Nat} (w : World) (h : Fr w s A n c B m d p k) (h' : Fr w t A' n' c' B' m' d' q k') (hk : k ≤ 16777216) (hk' : k' ≤ 16777216) :
    Calls Tryd.prog 34 #[.agg #[.bool s, .slice A n c, .slice B m d], .agg #[.bool t, .slice A' n' c', .slice B' m' d']] w fun e w' => e = .returned (.int .i64 (cmpQ p q)) ∧ Below w.heap.size w w' := by
  rw [cmpQ_sub]
  have hsz : Sz (p - q) (k + 1 + (k' + 1) + 1) := by rw [Rat.sub_eq_add_neg]; exact h.sz.add h'.sz.neg
  go_enter Tryd.func34, Tryd.ntmps34
  go_wp2_with fail
  have HX := BL.two w #[.bool s, .slice A n c, .slice B m d] #[.bool t, .slice A' n' c', .slice B' m' d'] 26 26
  refine (qsub_any _ (h.ext HX.below) (h'.ext HX.below) (by omega) (by omega)).mono ?_
  rintro e w1 ⟨A1, c1, B1, d1, rfl, N1, D1, hb⟩
  replace HX := HX.ext hb
  clear hb
  go_wp2_with fail
  refine (qsign_any _ (Fr.of N1 D1 hsz) (by omega)).mono ?_
  rintro e w2 ⟨rfl, hb⟩
  replace HX := HX.ext hb
  go_wp2
  go_ret
  exact ⟨rfl, HX.below⟩

set_option maxHeartbeats 4000000 in
set_option maxRecDepth 1000000 in
theorem qdiv_zero {s t : Bool} {A B A' B' : Option Addr} {n c m d n' c' m' d' : Nat} {q : Rat} {k' : Nat} (w : World) (h' : Fr w t A' n' c' B' m' d' q k') (hk' : k' ≤ 67108840) (h0 : q = 0) :
    Calls Tryd.prog 27 #[.agg #[.bool s, .slice A n c, .slice B m d], .agg #[.bool t, .slice A' n' c', .slice B' m' d']] w (RetZE w 12) := by
  have hsz := h'.sz
  have hsz1 := hsz.1
  have hz : decide (nu q = 0) = true := decide_eq_true (nu_eq_zero.2 h0)
  clear h0
  go_enter Tryd.func27, Tryd.ntmps27
  go_wp2_with fail
  have HX := BL.three w #[.bool s, .slice A n c, .slice B m d] #[.bool t, .slice A' n' c', .slice B' m' d'] #[.bool false, .slice none 0 0, .slice none 0 0] 26 26 26
  refine (qnorm_any _ (h'.ext HX.below) (by omega)).mono ?_
  rintro e w1 ⟨A1, c1, B1, d1, rfl, N1, D1, hb⟩
  replace HX := HX.ext hb
  clear hb
  have hc10 := HX.cell 1 0 rfl rfl
  have hf10 := HX.free 1 0 rfl
  have hc11 := HX.cell 1 1 rfl rfl
  have hf11 := HX.free 1 1 rfl
  have hc12 := HX.cell 1 2 rfl rfl
  have hf12 := HX.free 1 2 rfl
  try simp only [List.getElem_toArray, List.getElem_cons_zero, List.getElem_cons_succ] at hc10 hf10 hc11 hf11 hc12 hf12
  go_upto_region 2 with fail
  clear hc10 hf10 hc11 hf11 hc12 hf12
  have hk := HX.keep3 1 rfl rfl rfl rfl (by omega) (.bool (sg q)) (.slice A1 (dig (nu q)).length c1) (.slice B1 (dig q.den).length d1)
  replace HX := HX.put3 1 rfl (by omega) (by intro k q hk hne; match k, hk with | 0, hk => (simp at hk; subst hk; simp at hne ⊢; try omega) | 1, hk => (simp at hk; subst hk; simp at hne ⊢; try omega) | 2, hk => (simp at hk; subst hk; simp at hne ⊢; try omega) | k + 3, hk => simp at hk) (.bool (sg q)) (.slice A1 (dig (nu q)).length c1) (.slice B1 (dig q.den).length d1)
  replace N1 := N1.stay hk
  replace D1 := D1.stay hk
  clear hk
  simp only [List.set_cons_zero, List.set_cons_succ] at HX
  generalize ((w1.setCell ⟨w.heap.size + 1, 0, none⟩ (.bool (sg q))).setCell ⟨w.heap.size + 1, 1, none⟩ (.slice A1 (dig (nu q)).length c1)).setCell ⟨w.heap.size + 1, 2, none⟩ (.slice B1 (dig q.den).length d1) = V1 at *
  have hc11 := HX.cell 1 1 rfl rfl
  try simp only [List.getElem_toArray, List.getElem_cons_zero, List.getElem_cons_succ] at hc11
  go_wp2_with fail
  refine (qzero_d _ N1 (by omega)).mono ?_
  rintro e w2 ⟨rfl, hb⟩
  rw [hz]
  clear hc11
  replace HX := HX.ext hb
  replace N1 := N1.ext hb
  replace D1 := D1.ext hb
  clear hb
  have hc20 := HX.cell 2 0 rfl rfl
  have hf20 := HX.free 2 0 rfl
  have hc21 := HX.cell 2 1 rfl rfl
  have hf21 := HX.free 2 1 rfl
  have hc22 := HX.cell 2 2 rfl rfl
  have hf22 := HX.free 2 2 rfl
  try simp only [List.getElem_toArray, List.getElem_cons_zero, List.getElem_cons_succ] at hc20 hf20 hc21 hf21 hc22 hf22
  go_wp2
  clear hc20 hf20 hc21 hf21 hc22 hf22
  have hk := HX.keep3 2 rfl rfl rfl rfl (by omega) (.bool false) (.slice none 0 0) (.slice none 0 0)
  replace HX := HX.put3 2 rfl (by omega) (by intro k q hk hne; match k, hk with | 0, hk => (simp at hk; subst hk; simp at hne ⊢; try omega) | 1, hk => (simp at hk; subst hk; simp at hne ⊢; try omega) | 2, hk => (simp at hk; subst hk; simp at hne ⊢; try omega) | k + 3, hk => simp at hk) (.bool false) (.slice none 0 0) (.slice none 0 0)
  clear hk
  simp only [List.set_cons_zero, List.set_cons_succ] at HX
  have hc20 := HX.cell 2 0 rfl rfl
  have hc21 := HX.cell 2 1 rfl rfl
  have hc22 := HX.cell 2 2 rfl rfl
  try simp only [List.getElem_toArray, List.getElem_cons_zero, List.getElem_cons_succ] at hc20 hc21 hc22
  exact bodyPost_ret (v := .tuple #[.agg #[.bool false, .slice none 0 0, .slice none 0 0], .int .i64 12]) (by simp [results, Tryd.results27, go_sem, hc20, hc21, hc22]) rfl ⟨rfl, HX.below⟩

set_option maxHeartbeats 4000000 in
set_option maxRecDepth 1000000 in
theorem qdiv_any {s t : Bool} {A B A' B' : Option Addr} {n c m d n' c' m' d' : Nat} {p q : Rat} {k k' : Nat} (w : World) (h : Fr w s A n c B m d p k) (h' : Fr w t A' n' c' B' m' d' q k') (hk : k ≤ 67108840) (hk' : k' ≤ 67108840) (h0 : q ≠ 0) :
    Calls Tryd.prog 27 #[.agg #[.bool s, .slice A n c, .slice B m d], .agg #[.bool t, .slice A' n' c', .slice B' m' d']] w (RetQE w (p * q⁻¹)) := by
  have hsz := h'.sz
  have hsz1 := hsz.1
  have hz : decide (nu q = 0) = false := decide_eq_false (fun e => h0 (nu_eq_zero.1 e))
  clear h0
  go_enter Tryd.func27, Tryd.ntmps27
  go_wp2_with fail
  have HX := BL.three w #[.bool s, .slice A n c, .slice B m d] #[.bool t, .slice A' n' c', .slice B' m' d'] #[.bool false, .slice none 0 0, .slice none 0 0] 26 26 26
  replace h := h.ext HX.below
  refine (qnorm_any _ (h'.ext HX.below) (by omega)).mono ?_
  rintro e w1 ⟨A1, c1, B1, d1, rfl, N1, D1, hb⟩
  replace HX := HX.ext hb
  replace h := h.ext hb
  clear hb
  have hc10 := HX.cell 1 0 rfl rfl
  have hf10 := HX.free 1 0 rfl
  have hc11 := HX.cell 1 1 rfl rfl
  have hf11 := HX.free 1 1 rfl
  have hc12 := HX.cell 1 2 rfl rfl
  have hf12 := HX.free 1 2 rfl
  try simp only [List.getElem_toArray, List.getElem_cons_zero, List.getElem_cons_succ] at hc10 hf10 hc11 hf11 hc12 hf12
  go_upto_region 2 with fail
  clear hc10 hf10 hc11 hf11 hc12 hf12
  have hk := HX.keep3 1 rfl rfl rfl rfl (by omega) (.bool (sg q)) (.slice A1 (dig (nu q)).length c1) (.slice B1 (dig q.den).length d1)
  replace HX := HX.put3 1 rfl (by omega) (by intro k q hk hne; match k, hk with | 0, hk => (simp at hk; subst hk; simp at hne ⊢; try omega) | 1, hk => (simp at hk; subst hk; simp at hne ⊢; try omega) | 2, hk => (simp at hk; subst hk; simp at hne ⊢; try omega) | k + 3, hk => simp at hk) (.bool (sg q)) (.slice A1 (dig (nu q)).length c1) (.slice B1 (dig q.den).length d1)
  replace N1 := N1.stay hk
  replace D1 := D1.stay hk
  replace h := h.stay hk
  clear hk
  simp only [List.set_cons_zero, List.set_cons_succ] at HX
  generalize ((w1.setCell ⟨w.heap.size + 1, 0, none⟩ (.bool (sg q))).setCell ⟨w.heap.size + 1, 1, none⟩ (.slice A1 (dig (nu q)).length c1)).setCell ⟨w.heap.size + 1, 2, none⟩ (.slice B1 (dig q.den).length d1) = V1 at *
  have hc11 := HX.cell 1 1 rfl rfl
  try simp only [List.getElem_toArray, List.getElem_cons_zero, List.getElem_cons_succ] at hc11
  go_wp2_with fail
  refine (qzero_d _ N1 (by omega)).mono ?_
  rintro e w2 ⟨rfl, hb⟩
  rw [hz]
  clear hc11
  replace HX := HX.ext hb
  replace h := h.ext hb
  replace N1 := N1.ext hb
  replace D1 := D1.ext hb
  clear hb
  have hc00 := HX.cell 0 0 rfl rfl
  have hc01 := HX.cell 0 1 rfl rfl
  have hc02 := HX.cell 0 2 rfl rfl
  try simp only [List.getElem_toArray, List.getElem_cons_zero, List.getElem_cons_succ] at hc00 hc01 hc02
  have hc10 := HX.cell 1 0 rfl rfl
  have hc11 := HX.cell 1 1 rfl rfl
  have hc12 := HX.cell 1 2 rfl rfl
  try simp only [List.getElem_toArray, List.getElem_cons_zero, List.getElem_cons_succ] at hc10 hc11 hc12
  go_wp2_with fail
  refine (qmul_any _ h (Fr.of N1 D1 hsz).inv (by omega) (by omega)).mono ?_
  rintro e w3 ⟨A9, c9, B9, d9, rfl, N9, D9, hb⟩
  clear h N1 D1
  clear hc00 hc01 hc02
  clear hc10 hc11 hc12
  replace HX := HX.ext hb
  clear hb
  have hc20 := HX.cell 2 0 rfl rfl
  have hf20 := HX.free 2 0 rfl
  have hc21 := HX.cell 2 1 rfl rfl
  have hf21 := HX.free 2 1 rfl
  have hc22 := HX.cell 2 2 rfl rfl
  have hf22 := HX.free 2 2 rfl
  try simp only [List.getElem_toArray, List.getElem_cons_zero, List.getElem_cons_succ] at hc20 hf20 hc21 hf21 hc22 hf22
  go_wp2
  clear hc20 hf20 hc21 hf21 hc22 hf22
  have hk := HX.keep3 2 rfl rfl rfl rfl (by omega) (.bool (sg (p * q⁻¹))) (.slice A9 (dig (nu (p * q⁻¹))).length c9) (.slice B9 (dig (p * q⁻¹).den).length d9)
  replace HX := HX.put3 2 rfl (by omega) (by intro k q hk hne; match k, hk with | 0, hk => (simp at hk; subst hk; simp at hne ⊢; try omega) | 1, hk => (simp at hk; subst hk; simp at hne ⊢; try omega) | 2, hk => (simp at hk; subst hk; simp at hne ⊢; try omega) | k + 3, hk => simp at hk) (.bool (sg (p * q⁻¹))) (.slice A9 (dig (nu (p * q⁻¹))).length c9) (.slice B9 (dig (p * q⁻¹).den).length d9)
  replace N9 := N9.stay hk
  replace D9 := D9.stay hk
  clear hk
  simp only [List.set_cons_zero, List.set_cons_succ] at HX
  have hc20 := HX.cell 2 0 rfl rfl
  have hc21 := HX.cell 2 1 rfl rfl
  have hc22 := HX.cell 2 2 rfl rfl
  try simp only [List.getElem_toArray, List.getElem_cons_zero, List.getElem_cons_succ] at hc20 hc21 hc22
  exact bodyPost_ret (v := .tuple #[.agg #[.bool (sg (p * q⁻¹)), .slice A9 (dig (nu (p * q⁻¹))).length c9, .slice B9 (dig (p * q⁻¹).den).length d9], .int .i64 0]) (by simp [results, Tryd.results27, go_sem, hc20, hc21, hc22]) rfl ⟨A9, c9, B9, d9, rfl, N9, D9, HX.below⟩

end Go.Proofs.YtfndbmflllmpgaaDoor
