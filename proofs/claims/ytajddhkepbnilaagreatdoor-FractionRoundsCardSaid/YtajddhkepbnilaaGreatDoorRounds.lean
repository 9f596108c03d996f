/- The statement FractionRounds: its walk. -/
import Derived.Test.YtajddhkepbnilaaGreatDoorFPoint
import Derived.Test.YtajddhkepbnilaaGreatDoorRdMath
namespace Go.Proofs.YtajddhkepbnilaaGreatDoor
open Go.RowKit Go.Proofs Go

set_option maxRecDepth 100000 in
theorem bmod_any (x : Int) (w : World) (h1 : -9223372036854775808 ≤ x) (h2 : x ≤ 9223372036854775807) :
    Calls Tryz.prog 20 #[.int .i64 x, .int .i64 21] w fun e w' => ∃ m : Nat, m ≤ 20 ∧ e = .returned (.int .i64 (m : Int)) ∧ Below w.heap.size w w' := by
  have ht : x.tmod 21 = if 0 ≤ x then x % 21 else -(-x % 21) := by
    split
    · exact Int.tmod_eq_emod_of_nonneg (by omega)
    · have := Int.neg_tmod (-x) 21
      rw [Int.neg_neg] at this
      rw [this, Int.tmod_eq_emod_of_nonneg (by omega)]
  have hb : -20 ≤ x.tmod 21 ∧ x.tmod 21 ≤ 20 := by rw [ht]; split <;> omega
  generalize hr : x.tmod 21 = r at *
  have hr := Lib.hid hr
  clear ht
  by_cases h0 : r < 0
  · have h0b : decide (r < 0) = true := decide_eq_true h0
    go_enter Tryz.func20, Tryz.ntmps20
    go_wp2
    go_ret
    exact ⟨(r + 21).toNat, by omega, ret_int (by first | (rw [hr.out]; omega) | omega), Below.refl _ _⟩
  · have h0b : decide (r < 0) = false := decide_eq_false h0
    go_enter Tryz.func20, Tryz.ntmps20
    go_wp2
    go_ret
    exact ⟨r.toNat, by omega, ret_int (by first | (rw [hr.out]; omega) | omega), Below.refl _ _⟩
theorem round_len {q : Rat} {k : Nat} (hq : Sz q 7) (hk : k ≤ 20) : (decText (sg q) (half (nu q) q.den k) k).length ≤ 200 := by
  have hd := q.den_pos
  have h1 : half (nu q) q.den k ≤ nu q * 10 ^ k + 1 := by
    rw [half]
    refine Nat.div_le_of_le_mul ?_
    have : nu q * 10 ^ k ≤ q.den * (nu q * 10 ^ k) := Nat.le_mul_of_pos_left _ hd
    rw [Nat.mul_add, Nat.mul_assoc]
    omega
  have h2 : (dig (10 ^ k)).length ≤ 3 := dig_len_le (Nat.lt_of_le_of_lt (Nat.pow_le_pow_right (by omega) hk) (by decide))
  have h3 := len_succ (len_mul hq.1 h2)
  have h4 : (dig (half (nu q) q.den k)).length ≤ 11 := Nat.le_trans (dig_mono h1) h3
  have h5 := nDigits_dig h4
  have h6 := sdig_len (half (nu q) q.den k) k
  rw [decText_eq]
  have h7 : (tdig (half (nu q) q.den k) k).length ≤ (sdig (half (nu q) q.den k) k).length + 1 := by
    rw [tdig]; split
    · omega
    · rw [List.length_append, List.length_cons, List.length_take, List.length_drop]; omega
  split
  · rw [List.length_cons]; omega
  · omega
theorem ofs_sz (x : Int) (h1 : -1 ≤ x) (h2 : x ≤ 1) : Sz (ofs x) 1 := by
  rw [ofs]; exact sz_lit _ (by omega) (by decide)
theorem sgn_bd2 (q : Rat) : -1 ≤ sgn q ∧ sgn q ≤ 1 := by rcases sgn_cases q with h | h | h <;> omega
set_option maxHeartbeats 800000 in
set_option maxRecDepth 100000 in
theorem frounds_few {s1 : Bool} {A1' B1' : Option Addr} {n1 c1' m1 d1' : Nat} {x1 : Int} (w : World) (hT : Tab w) (hlens : Hid (∀ x ∈ [(FE.mk s1 A1' n1 c1' B1' m1 d1')], x.n ≤ 9223372036854775807 ∧ x.m ≤ 9223372036854775807)) (hfew : Hid (fewB [(FE.mk s1 A1' n1 c1' B1' m1 d1')] = false)) :
    Calls Tryz.prog 6 #[.agg #[.bool s1, .slice A1' n1 c1', .slice B1' m1 d1'], .int .i64 x1] w (RetB w true) := by
  go_enter Tryz.func6, Tryz.ntmps6
  go_wp2_with fail
  have HX := BL.one w #[.bool s1, .slice A1' n1 c1', .slice B1' m1 d1'] 27
  refine (awake_h (hT.ext HX.below)).mono ?_
  rintro e w1 ⟨rfl, hb⟩
  replace HX := HX.ext hb
  clear hb
  have hc00 := HX.cell 0 0 rfl rfl
  have hc01 := HX.cell 0 1 rfl rfl
  have hc02 := HX.cell 0 2 rfl rfl
  simp only [] at hc00 hc01 hc02
  go_wp2_with fail
  have hfs := FS.lit w1 27 [(FE.mk s1 A1' n1 c1' B1' m1 d1')] #[.bool s1, .slice A1' n1 c1', .slice B1' m1 d1'] rfl
  refine (few_any _ 1 1 _ _ hfs rfl (by omega) hlens.out).mono ?_
  rintro e w2 ⟨rfl, rfl⟩
  rw [hfew.out]
  have hb := below_alloc w1 (.cells #[.bool s1, .slice A1' n1 c1', .slice B1' m1 d1'] 27)
  clear hfs hc00 hc01 hc02
  replace HX := HX.ext hb
  clear hb
  generalize w1.alloc (.cells #[.bool s1, .slice A1' n1 c1', .slice B1' m1 d1'] 27) = w2 at *
  go_wp2_with fail
  refine (awake_h (hT.ext HX.below)).mono ?_
  rintro e w3 ⟨rfl, hb⟩
  replace HX := HX.ext hb
  go_wp2
  go_ret
  exact ⟨rfl, HX.below⟩

set_option maxHeartbeats 4000000 in
set_option maxRecDepth 100000 in
theorem frounds {s1 : Bool} {A1' B1' : Option Addr} {n1 c1' m1 d1' : Nat} {x1 : Int} {a : Rat} (w : World) (hT : Tab w) (hm : Mx w) (Pa : Fr w s1 A1' n1 c1' B1' m1 d1' a 6) (hlens : Hid (∀ x ∈ [(FE.mk s1 A1' n1 c1' B1' m1 d1')], x.n ≤ 9223372036854775807 ∧ x.m ≤ 9223372036854775807)) (hfew : Hid (fewB [(FE.mk s1 A1' n1 c1' B1' m1 d1')] = true)) (b0 : -9223372036854775808 ≤ x1) (b1 : x1 ≤ 9223372036854775807) :
    Calls Tryz.prog 6 #[.agg #[.bool s1, .slice A1' n1 c1', .slice B1' m1 d1'], .int .i64 x1] w (RetB w true) := by
  go_enter Tryz.func6, Tryz.ntmps6
  go_wp2_with fail
  have HX := BL.one w #[.bool s1, .slice A1' n1 c1', .slice B1' m1 d1'] 27
  replace Pa := Pa.ext HX.below
  refine (awake_h (hT.ext HX.below)).mono ?_
  rintro e w1 ⟨rfl, hb⟩
  replace HX := HX.ext hb
  replace Pa := Pa.ext hb
  clear hb
  have hc00 := HX.cell 0 0 rfl rfl
  have hc01 := HX.cell 0 1 rfl rfl
  have hc02 := HX.cell 0 2 rfl rfl
  simp only [] at hc00 hc01 hc02
  go_wp2_with fail
  have hfs := FS.lit w1 27 [(FE.mk s1 A1' n1 c1' B1' m1 d1')] #[.bool s1, .slice A1' n1 c1', .slice B1' m1 d1'] rfl
  refine (few_any _ 1 1 _ _ hfs rfl (by omega) hlens.out).mono ?_
  rintro e w2 ⟨rfl, rfl⟩
  rw [hfew.out]
  have hb := below_alloc w1 (.cells #[.bool s1, .slice A1' n1 c1', .slice B1' m1 d1'] 27)
  clear hfs hc00 hc01 hc02
  replace HX := HX.ext hb
  replace Pa := Pa.ext hb
  clear hb
  generalize w1.alloc (.cells #[.bool s1, .slice A1' n1 c1', .slice B1' m1 d1'] 27) = w2 at *
  clear hlens hfew
  replace hT := hT.ext HX.below
  replace hm := hm.ext HX.below
  go_wp2_with fail
  refine (bmod_any x1 _ b0 b1).mono ?_
  rintro e w3 ⟨kp, hkp, rfl, hb⟩
  clear b0 b1
  replace HX := HX.ext hb
  replace Pa := Pa.ext hb
  replace hT := hT.ext hb
  replace hm := hm.ext hb
  clear hb
  have za : Sz a 7 := Pa.sz.mono (by omega)
  have hlL := round_len za hkp
  have hok := decText_ok (sg a) (half (nu a) a.den kp) kp
  have hbk := half_back (sg a) (half (nu a) a.den kp) kp
  obtain ⟨y, hy⟩ : ∃ y, rv (sg a) (half (nu a) a.den kp) (10 ^ kp) = y := ⟨_, rfl⟩
  obtain ⟨L, hL⟩ : ∃ L, decText (sg a) (half (nu a) a.den kp) kp = L := ⟨_, rfl⟩
  rw [hL] at hlL
  rw [hL, hy] at hok
  rw [hL, hy] at hbk
  have HL := Lib.hid hL
  have HBK := Lib.hid hbk
  have HR : Hid (∀ w e w', RetD w L e w' → RetGE w y 30 e w') := Lib.hid (fun w e w' h => by
    rw [RetD, if_neg (by omega), if_pos hok.1, hok.2] at h; exact h)
  obtain ⟨u, hu⟩ : ∃ u, y - a = u := ⟨_, rfl⟩
  obtain ⟨v, hv⟩ : ∃ v, u + u = v := ⟨_, rfl⟩
  obtain ⟨σ, hσ⟩ : ∃ σ, sgn u = σ := ⟨_, rfl⟩
  obtain ⟨t, ht⟩ : ∃ t, ofs σ = t := ⟨_, rfl⟩
  obtain ⟨z, hz⟩ : ∃ z, v * t = z := ⟨_, rfl⟩
  obtain ⟨c, hc⟩ : ∃ c, cmpQ z (unitq kp) = c := ⟨_, rfl⟩
  obtain ⟨τ, hτ⟩ : ∃ τ, sgn a = τ := ⟨_, rfl⟩
  have hfin := Lib.hid (round_cmp hy hu hv hσ ht hz hc hτ)
  have hsb := sgn_bd2 u
  rw [hσ] at hsb
  have zt : Sz t 1 := ht ▸ ofs_sz σ hsb.1 hsb.2
  have zuv : Sz y 30 → Sz u 40 ∧ Sz v 81 ∧ Sz z 82 := fun zy => by
    have zu : Sz u 40 := by rw [← hu, Rat.sub_eq_add_neg]; exact (zy.add za.neg).mono (by omega)
    have zv : Sz v 81 := hv ▸ zu.add zu
    exact ⟨zu, zv, hz ▸ zv.mul zt (by omega)⟩
  have HU := Lib.hid hu
  have HV := Lib.hid hv
  have Hσ := Lib.hid hσ
  have HTT : Hid (rv (!(decide (σ < 0) == decide ((1 : Int) < 0))) σ.natAbs (1 : Int).natAbs = t) := Lib.hid ht
  have HZ := Lib.hid hz
  have HC := Lib.hid hc
  have Hτ := Lib.hid hτ
  have hself : ((str L).toList != (str L).toList) = false := by rw [bne, beq_self_eq_true]; rfl
  obtain ⟨hσ1, hσ2⟩ := hsb
  clear hy hL hbk hok hu hv hσ ht hz hc hτ
  have hc00 := HX.cell 0 0 rfl rfl
  have hc01 := HX.cell 0 1 rfl rfl
  have hc02 := HX.cell 0 2 rfl rfl
  try simp only [List.getElem_toArray, List.getElem_cons_zero, List.getElem_cons_succ] at hc00 hc01 hc02
  go_wp2_with fail
  refine (fdecimal_any kp _ Pa (by omega) hkp hT).mono ?_
  rw [HL.out]
  rintro e w4 ⟨rfl, hb⟩
  clear hc00 hc01 hc02
  replace HX := HX.ext hb
  replace Pa := Pa.ext hb
  replace hT := hT.ext hb
  replace hm := hm.ext hb
  clear hb
  go_wp2_with fail
  refine (fpoint_any L _ (by omega) hm hT).mono ?_
  intro e w5 h5
  replace h5 := HR.out _ _ _ h5
  obtain ⟨A5, c5, B5, d5, rfl, F5, hb⟩ := h5
  replace HX := HX.ext hb
  replace Pa := Pa.ext hb
  replace hT := hT.ext hb
  replace hm := hm.ext hb
  clear hb
  obtain ⟨zu, zv, zz⟩ := zuv F5.sz
  clear zuv HR
  go_upto_region 6 with fail
  have hltg50 := HX.lt 0 rfl
  simp only [] at hltg50
  have hb := below_alloc w5 (.cells #[.bool (sg y), .slice A5 (dig (nu y)).length c5, .slice B5 (dig y.den).length d5] 27)
  replace HX := HX.new #[.bool (sg y), .slice A5 (dig (nu y)).length c5, .slice B5 (dig y.den).length d5] 27
  simp only [List.cons_append, List.nil_append] at HX
  replace Pa := Pa.ext hb
  replace hT := hT.ext hb
  replace hm := hm.ext hb
  replace F5 := F5.ext hb
  clear hb
  generalize w5.alloc (.cells #[.bool (sg y), .slice A5 (dig (nu y)).length c5, .slice B5 (dig y.den).length d5] 27) = W5 at *
  generalize w5.heap.size = g5 at *
  have hc10 := HX.cell 1 0 rfl rfl
  have hc11 := HX.cell 1 1 rfl rfl
  have hc12 := HX.cell 1 2 rfl rfl
  try simp only [List.getElem_toArray, List.getElem_cons_zero, List.getElem_cons_succ] at hc10 hc11 hc12
  go_wp2_with fail
  refine (fdecimal_any kp _ F5.fr (by omega) hkp hT).mono ?_
  rw [HBK.out]
  rintro e w6 ⟨rfl, hb⟩
  clear hc10 hc11 hc12
  replace HX := HX.ext hb
  replace Pa := Pa.ext hb
  replace hT := hT.ext hb
  replace hm := hm.ext hb
  replace F5 := F5.ext hb
  clear hb
  go_wp2_with fail
  refine (fof_h (x := 1) (y := 1) (j := 3) (u := unitq 0) (Lib.hid unitq_zero) (unitq_sz (by omega)) (by omega) (by omega) (by omega) (by omega)).mono ?_
  rintro e w7 ⟨A7, c7, B7, d7, rfl, F7, hb⟩
  replace HX := HX.ext hb
  replace Pa := Pa.ext hb
  replace hT := hT.ext hb
  replace hm := hm.ext hb
  replace F5 := F5.ext hb
  clear hb
  go_upto_region 12 with fail
  have hltg80 := HX.lt 0 rfl
  simp only [] at hltg80
  have hltg81 := HX.lt 1 rfl
  simp only [] at hltg81
  have hb := below_alloc w7 (.cells #[.bool (sg (unitq 0)), .slice A7 (dig (nu (unitq 0))).length c7, .slice B7 (dig (unitq 0).den).length d7] 27)
  replace HX := HX.new #[.bool (sg (unitq 0)), .slice A7 (dig (nu (unitq 0))).length c7, .slice B7 (dig (unitq 0).den).length d7] 27
  simp only [List.cons_append, List.nil_append] at HX
  replace Pa := Pa.ext hb
  replace hT := hT.ext hb
  replace hm := hm.ext hb
  replace F5 := F5.ext hb
  replace F7 := F7.ext hb
  clear hb
  generalize w7.alloc (.cells #[.bool (sg (unitq 0)), .slice A7 (dig (nu (unitq 0))).length c7, .slice B7 (dig (unitq 0).den).length d7] 27) = W8 at *
  generalize w7.heap.size = g8 at *
  go_wp2
  go_loopg [12] kp (fun kk i wr => ∃ (j : Nat) (A2 : Option Addr) (c2 : Nat) (B2 : Option Addr) (d2 : Nat), j + kk = kp ∧ i = .int .i64 (j : Int) ∧ Fc wr A2 c2 B2 d2 (unitq j) 3 ∧ BL w wr [(w.heap.size, #[.bool s1, .slice A1' n1 c1', .slice B1' m1 d1'], 27), (g5, #[.bool (sg y), .slice A5 (dig (nu y)).length c5, .slice B5 (dig y.den).length d5], 27), (g8, #[.bool (sg (unitq j)), .slice A2 (dig (nu (unitq j))).length c2, .slice B2 (dig (unitq j).den).length d2], 27)] ∧ Fr wr s1 A1' n1 c1' B1' m1 d1' a 6 ∧ Fc wr A5 c5 B5 d5 y 30)
  case atStart => exact ⟨0, A7, c7, B7, d7, by omega, rfl, F7, HX, Pa, F5⟩
  case round =>
    clear HX Pa hT hm F7 F5
    obtain ⟨j, A2, c2, B2, d2, hj, rfl, F2, HX, Pa, F5⟩ := hrel
    by_cases hj0 : j < kp
    · have Hw := Lib.hid (unitq_succ j)
      have zw := unitq_sz (j := j + 1) (by omega)
      obtain ⟨ω, HW⟩ : ∃ ω, Hid (unitq (j + 1) = ω) := ⟨_, Lib.hid rfl⟩
      rw [HW.out] at Hw zw
      generalize unitq j = p at *
      have zx := sz_lit false (a := 1) (b := 10) (by omega) (by omega)
      obtain ⟨X, HX0⟩ : ∃ X, Hid (rv (!(decide ((1 : Int) < 0) == decide ((10 : Int) < 0))) (1 : Int).natAbs (10 : Int).natAbs = X) := ⟨_, Lib.hid rfl⟩
      have hX10 : rv false 1 10 = X := by rw [← HX0.out]; rfl
      rw [hX10] at Hw zx
      clear hX10
      go_upto_region 15 with fail
      refine wp_region_x (al := []) (late := [3]) (dst := fun i => 0) (zt := fun _ => (#[], 0)) (B := wr.heap.size) (n := 3) (r := 1) (by kernel_rfl) (by kernel_rfl) (by decide) ?_ (by kernel_rfl) (by kernel_rfl) (by intro _ _ _ d _ h; cases d <;> exact h) (sz := 4) (by rfl) (by rfl) (Nat.le_refl _) ?_
      · intro i hi; cases hi
      have hE : Ext wr wr.drew := drew_ext wr
      replace HX := HX.ext hE
      replace F2 := F2.ext hE
      replace Pa := Pa.ext hE
      replace F5 := F5.ext hE
      clear hE
      refine wpX_take (i := 0) (v := .agg #[.bool (sg p), .slice A2 (dig (nu p)).length c2, .slice B2 (dig p.den).length d2]) rfl (by kernel_rfl) (by kernel_rfl) (by kernel_rfl) (fun _ _ _ h => h) (Or.inl ⟨by rfl, fun W hW => ?_⟩) ?_
      · have h0 := (HX.ext hW).cell 2 0 rfl rfl
        have h1 := (HX.ext hW).cell 2 1 rfl rfl
        have h2 := (HX.ext hW).cell 2 2 rfl rfl
        simp only [] at h0 h1 h2
        go_simp
        try rfl
      try simp only [Act.put, List.setIfInBounds_toArray, List.set_cons_zero, List.set_cons_succ]
      refine wpX_step (i := 1) (by kernel_rfl) rfl (fun W1 K hE hK => ?_)
      replace HX := HX.ext hE
      replace F2 := F2.ext hE
      replace Pa := Pa.ext hE
      replace F5 := F5.ext hE
      clear hE
      go_simp
      refine (fof_h HX0 zx (by omega) (by omega) (by omega) (by omega)).mono ?_
      rintro e W2 ⟨A8, c8, B8, d8, rfl, F8, hb⟩
      go_wp2_with fail
      refine hK.out _ _ hb ?_
      clear hK K
      replace HX := HX.ext hb
      replace F2 := F2.ext hb
      replace Pa := Pa.ext hb
      replace F5 := F5.ext hb
      clear hb
      try simp only [Act.put, List.setIfInBounds_toArray, List.set_cons_zero, List.set_cons_succ]
      skip
      refine wpX_step (i := 2) (by kernel_rfl) rfl (fun W1 K hE hK => ?_)
      replace HX := HX.ext hE
      replace F2 := F2.ext hE
      replace Pa := Pa.ext hE
      replace F5 := F5.ext hE
      replace F8 := F8.ext hE
      clear hE
      go_simp
      refine (fmul_h Hw zw F2.fr F8.fr (by omega) (by omega)).mono ?_
      rintro e W2 ⟨A9, c9, B9, d9, rfl, F9, hb⟩
      go_wp2_with fail
      refine hK.out _ _ hb ?_
      clear hK K
      replace HX := HX.ext hb
      replace F2 := F2.ext hb
      replace Pa := Pa.ext hb
      replace F5 := F5.ext hb
      replace F8 := F8.ext hb
      clear hb
      try simp only [Act.put, List.setIfInBounds_toArray, List.set_cons_zero, List.set_cons_succ]
      skip
      clear F8 F2
      refine wpX_end (by kernel_rfl) (fun W7 ga m hE hg hm => ?_)
      replace HX := HX.ext hE
      replace Pa := Pa.ext hE
      replace F5 := F5.ext hE
      replace F9 := F9.ext hE
      clear hE
      clear hg
      simp only [putAll, setAll]
      clear ga
      have hc20 := HX.cell 2 0 rfl rfl
      have hf20 := HX.free 2 0 rfl
      have hc21 := HX.cell 2 1 rfl rfl
      have hf21 := HX.free 2 1 rfl
      have hc22 := HX.cell 2 2 rfl rfl
      have hf22 := HX.free 2 2 rfl
      try simp only [List.getElem_toArray, List.getElem_cons_zero, List.getElem_cons_succ] at hc20 hf20 hc21 hf21 hc22 hf22
      refine wpAny_step (i := 3) (by kernel_rfl) rfl (by omega) (fun K hK => ?_)
      go_simp
      refine hK.out _ _ ?_
      clear hK K
      clear hc20 hf20 hc21 hf21 hc22 hf22
      have hk := HX.keep3 2 rfl rfl rfl rfl (by omega) (.bool (sg ω)) (.slice A9 (dig (nu ω)).length c9) (.slice B9 (dig ω.den).length d9)
      replace HX := HX.put3 2 rfl (by omega) (by intro k q hk hne; match k, hk with | 0, hk => (simp at hk; subst hk; simp at hne ⊢; try omega) | 1, hk => (simp at hk; subst hk; simp at hne ⊢; try omega) | 2, hk => (simp at hk; subst hk; simp at hne ⊢; try omega) | k + 3, hk => simp at hk) (.bool (sg ω)) (.slice A9 (dig (nu ω)).length c9) (.slice B9 (dig ω.den).length d9)
      replace Pa := Pa.stay hk
      replace F5 := F5.stay hk
      replace F9 := F9.stay hk
      clear hk
      simp only [List.set_cons_zero, List.set_cons_succ] at HX
      refine wpAny_done (by kernel_rfl) ?_ _
      go_wp2
      go_roundg (kp - (j + 1))
      case measure => omega
      case rel => exact ⟨j + 1, A9, c9, B9, d9, by omega, by go_num, by rw [HW.out]; exact F9, by rw [HW.out]; exact HX, Pa, F5⟩
    · obtain rfl : j = kp := by omega
      generalize unitq j = μ at *
      have hc00 := HX.cell 0 0 rfl rfl
      have hc01 := HX.cell 0 1 rfl rfl
      have hc02 := HX.cell 0 2 rfl rfl
      try simp only [List.getElem_toArray, List.getElem_cons_zero, List.getElem_cons_succ] at hc00 hc01 hc02
      have hc10 := HX.cell 1 0 rfl rfl
      have hc11 := HX.cell 1 1 rfl rfl
      have hc12 := HX.cell 1 2 rfl rfl
      try simp only [List.getElem_toArray, List.getElem_cons_zero, List.getElem_cons_succ] at hc10 hc11 hc12
      go_wp2_with fail
      refine (fsub_h HU zu F5.fr Pa (by omega) (by omega)).mono ?_
      rintro e w20 ⟨A20, c20, B20, d20, rfl, F20, hb⟩
      clear hc00 hc01 hc02 hc10 hc11 hc12
      replace HX := HX.ext hb
      replace Pa := Pa.ext hb
      replace F5 := F5.ext hb
      replace F2 := F2.ext hb
      clear hb
      go_upto_region 17 with fail
      have hltg200 := HX.lt 0 rfl
      simp only [] at hltg200
      have hltg201 := HX.lt 1 rfl
      simp only [] at hltg201
      have hltg202 := HX.lt 2 rfl
      simp only [] at hltg202
      have hb := below_alloc w20 (.cells #[.bool (sg u), .slice A20 (dig (nu u)).length c20, .slice B20 (dig u.den).length d20] 27)
      replace HX := HX.new #[.bool (sg u), .slice A20 (dig (nu u)).length c20, .slice B20 (dig u.den).length d20] 27
      simp only [List.cons_append, List.nil_append] at HX
      replace Pa := Pa.ext hb
      replace F5 := F5.ext hb
      replace F2 := F2.ext hb
      replace F20 := F20.ext hb
      clear hb
      generalize w20.alloc (.cells #[.bool (sg u), .slice A20 (dig (nu u)).length c20, .slice B20 (dig u.den).length d20] 27) = V1 at *
      generalize w20.heap.size = g20 at *
      have hc30 := HX.cell 3 0 rfl rfl
      have hc31 := HX.cell 3 1 rfl rfl
      have hc32 := HX.cell 3 2 rfl rfl
      try simp only [List.getElem_toArray, List.getElem_cons_zero, List.getElem_cons_succ] at hc30 hc31 hc32
      go_wp2_with fail
      refine (fadd_h HV zv F20.fr F20.fr (by omega) (by omega)).mono ?_
      rintro e w21 ⟨A21, c21, B21, d21, rfl, F21, hb⟩
      clear hc30 hc31 hc32
      replace HX := HX.ext hb
      replace Pa := Pa.ext hb
      replace F5 := F5.ext hb
      replace F2 := F2.ext hb
      replace F20 := F20.ext hb
      clear hb
      go_upto_region 18 with fail
      have hltg210 := HX.lt 0 rfl
      simp only [] at hltg210
      have hltg211 := HX.lt 1 rfl
      simp only [] at hltg211
      have hltg212 := HX.lt 2 rfl
      simp only [] at hltg212
      have hltg213 := HX.lt 3 rfl
      simp only [] at hltg213
      have hb := below_alloc w21 (.cells #[.bool (sg v), .slice A21 (dig (nu v)).length c21, .slice B21 (dig v.den).length d21] 27)
      replace HX := HX.new #[.bool (sg v), .slice A21 (dig (nu v)).length c21, .slice B21 (dig v.den).length d21] 27
      simp only [List.cons_append, List.nil_append] at HX
      replace Pa := Pa.ext hb
      replace F5 := F5.ext hb
      replace F2 := F2.ext hb
      replace F20 := F20.ext hb
      replace F21 := F21.ext hb
      clear hb
      generalize w21.alloc (.cells #[.bool (sg v), .slice A21 (dig (nu v)).length c21, .slice B21 (dig v.den).length d21] 27) = V2 at *
      generalize w21.heap.size = g21 at *
      have hltv0 := HX.lt 0 rfl
      simp only [] at hltv0
      have hltv1 := HX.lt 1 rfl
      simp only [] at hltv1
      have hltv2 := HX.lt 2 rfl
      simp only [] at hltv2
      have hltv3 := HX.lt 3 rfl
      simp only [] at hltv3
      have hltv4 := HX.lt 4 rfl
      simp only [] at hltv4
      refine wp_region_x (al := [5]) (late := []) (dst := fun i => 15) (zt := fun _ => (#[.bool false, .slice none 0 0, .slice none 0 0], 27)) (B := V2.heap.size) (n := 5) (r := 1) (by kernel_rfl) (by kernel_rfl) (by decide) ?_ (by kernel_rfl) (by kernel_rfl) (by intro _ _ _ d _ h; cases d <;> exact h) (sz := 7) (by rfl) (by rfl) (Nat.le_refl _) ?_
      · intro i hi
        simp only [List.mem_cons, List.not_mem_nil, or_false] at hi
        subst hi
        exact ⟨_, rfl, rfl, rfl, rfl, fun _ _ => by kernel_rfl⟩
      have hE : Ext V2 V2.drew := drew_ext V2
      replace HX := HX.ext hE
      replace Pa := Pa.ext hE
      replace F5 := F5.ext hE
      replace F2 := F2.ext hE
      replace F20 := F20.ext hE
      replace F21 := F21.ext hE
      clear hE
      refine wpX_take (i := 0) (v := .agg #[.bool (sg v), .slice A21 (dig (nu v)).length c21, .slice B21 (dig v.den).length d21]) rfl (by kernel_rfl) (by kernel_rfl) (by kernel_rfl) (fun _ _ _ h => h) (Or.inl ⟨by rfl, fun W hW => ?_⟩) ?_
      · have h0 := (HX.ext hW).cell 4 0 rfl rfl
        have h1 := (HX.ext hW).cell 4 1 rfl rfl
        have h2 := (HX.ext hW).cell 4 2 rfl rfl
        simp only [] at h0 h1 h2
        go_simp
        try rfl
      try simp only [Act.put, List.setIfInBounds_toArray, List.set_cons_zero, List.set_cons_succ]
      refine wpX_take (i := 1) (v := .agg #[.bool (sg u), .slice A20 (dig (nu u)).length c20, .slice B20 (dig u.den).length d20]) rfl (by kernel_rfl) (by kernel_rfl) (by kernel_rfl) (fun _ _ _ h => h) (Or.inl ⟨by rfl, fun W hW => ?_⟩) ?_
      · have h0 := (HX.ext hW).cell 3 0 rfl rfl
        have h1 := (HX.ext hW).cell 3 1 rfl rfl
        have h2 := (HX.ext hW).cell 3 2 rfl rfl
        simp only [] at h0 h1 h2
        go_simp
        try rfl
      try simp only [Act.put, List.setIfInBounds_toArray, List.set_cons_zero, List.set_cons_succ]
      refine wpX_step (i := 2) (by kernel_rfl) rfl (fun W1 K hE hK => ?_)
      replace HX := HX.ext hE
      replace Pa := Pa.ext hE
      replace F5 := F5.ext hE
      replace F2 := F2.ext hE
      replace F20 := F20.ext hE
      replace F21 := F21.ext hE
      clear hE
      go_simp
      refine (fsign_h Hσ F20.fr (by omega)).mono ?_
      rintro e W2 ⟨rfl, hb⟩
      go_wp2_with fail
      refine hK.out _ _ hb ?_
      clear hK K
      replace HX := HX.ext hb
      replace Pa := Pa.ext hb
      replace F5 := F5.ext hb
      replace F2 := F2.ext hb
      replace F20 := F20.ext hb
      replace F21 := F21.ext hb
      clear hb
      try simp only [Act.put, List.setIfInBounds_toArray, List.set_cons_zero, List.set_cons_succ]
      skip
      refine wpX_step (i := 3) (by kernel_rfl) rfl (fun W1 K hE hK => ?_)
      replace HX := HX.ext hE
      replace Pa := Pa.ext hE
      replace F5 := F5.ext hE
      replace F2 := F2.ext hE
      replace F20 := F20.ext hE
      replace F21 := F21.ext hE
      clear hE
      go_simp
      refine (fof_h HTT zt (by omega) (by omega) (by omega) (by omega)).mono ?_
      rintro e W2 ⟨A22, c22, B22, d22, rfl, F22, hb⟩
      go_wp2_with fail
      refine hK.out _ _ hb ?_
      clear hK K
      replace HX := HX.ext hb
      replace Pa := Pa.ext hb
      replace F5 := F5.ext hb
      replace F2 := F2.ext hb
      replace F20 := F20.ext hb
      replace F21 := F21.ext hb
      clear hb
      try simp only [Act.put, List.setIfInBounds_toArray, List.set_cons_zero, List.set_cons_succ]
      skip
      refine wpX_step (i := 4) (by kernel_rfl) rfl (fun W1 K hE hK => ?_)
      replace HX := HX.ext hE
      replace Pa := Pa.ext hE
      replace F5 := F5.ext hE
      replace F2 := F2.ext hE
      replace F20 := F20.ext hE
      replace F21 := F21.ext hE
      replace F22 := F22.ext hE
      clear hE
      go_simp
      refine (fmul_h HZ zz F21.fr F22.fr (by omega) (by omega)).mono ?_
      rintro e W2 ⟨A23, c23, B23, d23, rfl, F23, hb⟩
      go_wp2_with fail
      refine hK.out _ _ hb ?_
      clear hK K
      replace HX := HX.ext hb
      replace Pa := Pa.ext hb
      replace F5 := F5.ext hb
      replace F2 := F2.ext hb
      replace F20 := F20.ext hb
      replace F21 := F21.ext hb
      replace F22 := F22.ext hb
      clear hb
      try simp only [Act.put, List.setIfInBounds_toArray, List.set_cons_zero, List.set_cons_succ]
      skip
      refine wpX_end (by kernel_rfl) (fun V3 ga m hE hg hm => ?_)
      replace HX := HX.ext hE
      replace Pa := Pa.ext hE
      replace F5 := F5.ext hE
      replace F2 := F2.ext hE
      replace F20 := F20.ext hE
      replace F21 := F21.ext hE
      replace F22 := F22.ext hE
      replace F23 := F23.ext hE
      clear hE
      obtain ⟨hlg23, hkg23⟩ := hg.1 5 (by simp)
      clear hg
      simp only [putAll, Nat.reduceEqDiff, reduceIte]
      try simp only [Act.put, List.setIfInBounds_toArray, List.set_cons_zero, List.set_cons_succ]
      generalize ga 5 = g23 at *
      clear ga
      replace HX := HX.add hkg23
      clear hkg23
      simp only [List.cons_append, List.nil_append] at HX
      skip
      have hc50 := HX.cell 5 0 rfl rfl
      have hf50 := HX.free 5 0 rfl
      have hc51 := HX.cell 5 1 rfl rfl
      have hf51 := HX.free 5 1 rfl
      have hc52 := HX.cell 5 2 rfl rfl
      have hf52 := HX.free 5 2 rfl
      try simp only [List.getElem_toArray, List.getElem_cons_zero, List.getElem_cons_succ] at hc50 hf50 hc51 hf51 hc52 hf52
      refine wpAny_step (i := 6) (by kernel_rfl) rfl (by omega) (fun K hK => ?_)
      go_simp
      refine hK.out _ _ ?_
      clear hK K
      clear hc50 hf50 hc51 hf51 hc52 hf52
      have hk := HX.keep3 5 rfl rfl rfl rfl (by omega) (.bool (sg z)) (.slice A23 (dig (nu z)).length c23) (.slice B23 (dig z.den).length d23)
      replace HX := HX.put3 5 rfl (by omega) (by intro k q hk hne; match k, hk with | 0, hk => (simp at hk; subst hk; simp at hne ⊢; try omega) | 1, hk => (simp at hk; subst hk; simp at hne ⊢; try omega) | 2, hk => (simp at hk; subst hk; simp at hne ⊢; try omega) | 3, hk => (simp at hk; subst hk; simp at hne ⊢; try omega) | 4, hk => (simp at hk; subst hk; simp at hne ⊢; try omega) | 5, hk => (simp at hk; subst hk; simp at hne ⊢; try omega) | k + 6, hk => simp at hk) (.bool (sg z)) (.slice A23 (dig (nu z)).length c23) (.slice B23 (dig z.den).length d23)
      replace Pa := Pa.stay hk
      replace F5 := F5.stay hk
      replace F2 := F2.stay hk
      replace F20 := F20.stay hk
      replace F21 := F21.stay hk
      replace F22 := F22.stay hk
      replace F23 := F23.stay hk
      clear hk
      simp only [List.set_cons_zero, List.set_cons_succ] at HX
      refine wpAny_done (by kernel_rfl) ?_ _
      have hc50 := HX.cell 5 0 rfl rfl
      have hc51 := HX.cell 5 1 rfl rfl
      have hc52 := HX.cell 5 2 rfl rfl
      try simp only [List.getElem_toArray, List.getElem_cons_zero, List.getElem_cons_succ] at hc50 hc51 hc52
      have hc20 := HX.cell 2 0 rfl rfl
      have hc21 := HX.cell 2 1 rfl rfl
      have hc22 := HX.cell 2 2 rfl rfl
      try simp only [List.getElem_toArray, List.getElem_cons_zero, List.getElem_cons_succ] at hc20 hc21 hc22
      go_wp2_with fail
      refine (fcmp_h HC F23.fr F2.fr (by omega) (by omega)).mono ?_
      rintro e w24 ⟨rfl, hb⟩
      clear hc50 hc51 hc52 hc20 hc21 hc22
      replace HX := HX.ext hb
      replace Pa := Pa.ext hb
      replace F5 := F5.ext hb
      replace F2 := F2.ext hb
      replace F20 := F20.ext hb
      replace F21 := F21.ext hb
      replace F23 := F23.ext hb
      clear hb
      have hfi := hfin.out
      simp only [Bool.or_eq_true, Bool.and_eq_true, decide_eq_true_eq, beq_iff_eq] at hfi
      rcases hfi with hneg | ⟨hc0, hst⟩
      · have hcb : decide (c < 0) = true := decide_eq_true hneg
        go_upto_region 20 with fail
        go_quiet (fail)
        replace HX := HX.ext (drew_below (Below.refl _ _) nq)
        go_wp2
        go_ret
        exact ⟨by first | rfl | simp, HX.below⟩
      · subst hc0 hst
        go_upto_region 20 with fail
        clear F5
        clear F2
        clear F21
        clear F23
        have held : ∀ {W' : World}, BL w W' [(w.heap.size, #[.bool s1, .slice A1' n1 c1', .slice B1' m1 d1'], 27), (g5, #[.bool (sg y), .slice A5 (dig (nu y)).length c5, .slice B5 (dig y.den).length d5], 27), (g8, #[.bool (sg μ), .slice A2 (dig (nu μ)).length c2, .slice B2 (dig μ.den).length d2], 27), (g20, #[.bool (sg u), .slice A20 (dig (nu u)).length c20, .slice B20 (dig u.den).length d20], 27), (g21, #[.bool (sg v), .slice A21 (dig (nu v)).length c21, .slice B21 (dig v.den).length d21], 27), (g23, #[.bool (sg z), .slice A23 (dig (nu z)).length c23, .slice B23 (dig z.den).length d23], 27)] → W'.cell? ⟨w.heap.size, 0, none⟩ = some (.bool s1) ∧ W'.cell? ⟨w.heap.size, 1, none⟩ = some (.slice A1' n1 c1') ∧ W'.cell? ⟨w.heap.size, 2, none⟩ = some (.slice B1' m1 d1') ∧ W'.cell? ⟨g5, 0, none⟩ = some (.bool (sg y)) ∧ W'.cell? ⟨g5, 1, none⟩ = some (.slice A5 (dig (nu y)).length c5) ∧ W'.cell? ⟨g5, 2, none⟩ = some (.slice B5 (dig y.den).length d5) ∧ W'.cell? ⟨g8, 0, none⟩ = some (.bool (sg μ)) ∧ W'.cell? ⟨g8, 1, none⟩ = some (.slice A2 (dig (nu μ)).length c2) ∧ W'.cell? ⟨g8, 2, none⟩ = some (.slice B2 (dig μ.den).length d2) ∧ W'.cell? ⟨g20, 0, none⟩ = some (.bool (sg u)) ∧ W'.cell? ⟨g20, 1, none⟩ = some (.slice A20 (dig (nu u)).length c20) ∧ W'.cell? ⟨g20, 2, none⟩ = some (.slice B20 (dig u.den).length d20) ∧ W'.cell? ⟨g21, 0, none⟩ = some (.bool (sg v)) ∧ W'.cell? ⟨g21, 1, none⟩ = some (.slice A21 (dig (nu v)).length c21) ∧ W'.cell? ⟨g21, 2, none⟩ = some (.slice B21 (dig v.den).length d21) ∧ W'.cell? ⟨g23, 0, none⟩ = some (.bool (sg z)) ∧ W'.cell? ⟨g23, 1, none⟩ = some (.slice A23 (dig (nu z)).length c23) ∧ W'.cell? ⟨g23, 2, none⟩ = some (.slice B23 (dig z.den).length d23) := fun h => ⟨h.cell 0 0 rfl rfl, h.cell 0 1 rfl rfl, h.cell 0 2 rfl rfl, h.cell 1 0 rfl rfl, h.cell 1 1 rfl rfl, h.cell 1 2 rfl rfl, h.cell 2 0 rfl rfl, h.cell 2 1 rfl rfl, h.cell 2 2 rfl rfl, h.cell 3 0 rfl rfl, h.cell 3 1 rfl rfl, h.cell 3 2 rfl rfl, h.cell 4 0 rfl rfl, h.cell 4 1 rfl rfl, h.cell 4 2 rfl rfl, h.cell 5 0 rfl rfl, h.cell 5 1 rfl rfl, h.cell 5 2 rfl rfl⟩
        replace HX := HX.ext (drew_ext _)
        replace Pa := Pa.ext (drew_ext _)
        replace F20 := F20.ext (drew_ext _)
        skip
        go_region_held3 (fun W' => W'.cell? ⟨w.heap.size, 0, none⟩ = some (.bool s1) ∧ W'.cell? ⟨w.heap.size, 1, none⟩ = some (.slice A1' n1 c1') ∧ W'.cell? ⟨w.heap.size, 2, none⟩ = some (.slice B1' m1 d1') ∧ W'.cell? ⟨g5, 0, none⟩ = some (.bool (sg y)) ∧ W'.cell? ⟨g5, 1, none⟩ = some (.slice A5 (dig (nu y)).length c5) ∧ W'.cell? ⟨g5, 2, none⟩ = some (.slice B5 (dig y.den).length d5) ∧ W'.cell? ⟨g8, 0, none⟩ = some (.bool (sg μ)) ∧ W'.cell? ⟨g8, 1, none⟩ = some (.slice A2 (dig (nu μ)).length c2) ∧ W'.cell? ⟨g8, 2, none⟩ = some (.slice B2 (dig μ.den).length d2) ∧ W'.cell? ⟨g20, 0, none⟩ = some (.bool (sg u)) ∧ W'.cell? ⟨g20, 1, none⟩ = some (.slice A20 (dig (nu u)).length c20) ∧ W'.cell? ⟨g20, 2, none⟩ = some (.slice B20 (dig u.den).length d20) ∧ W'.cell? ⟨g21, 0, none⟩ = some (.bool (sg v)) ∧ W'.cell? ⟨g21, 1, none⟩ = some (.slice A21 (dig (nu v)).length c21) ∧ W'.cell? ⟨g21, 2, none⟩ = some (.slice B21 (dig v.den).length d21) ∧ W'.cell? ⟨g23, 0, none⟩ = some (.bool (sg z)) ∧ W'.cell? ⟨g23, 1, none⟩ = some (.slice A23 (dig (nu z)).length c23) ∧ W'.cell? ⟨g23, 2, none⟩ = some (.slice B23 (dig z.den).length d23))
          (exact held HX)
          (first
            | (go_at_call_of 26 (Value.slice A20 (dig (nu u)).length c20); refine (fsign_h Hσ F20.fr (by omega)).mono ?_; rintro e w8 ⟨rfl, hb⟩; replace HX := HX.ext hb; replace Pa := Pa.ext hb; replace F20 := F20.ext hb; clear hb)
            | (go_at_call_of 26 (Value.slice A1' n1 c1'); refine (fsign_h Hτ Pa (by omega)).mono ?_; rintro e w9 ⟨rfl, hb⟩; replace HX := HX.ext hb; replace Pa := Pa.ext hb; replace F20 := F20.ext hb; clear hb))
        go_wp2
        go_ret
        exact ⟨by first | rfl | simp, HX.below⟩

theorem frounds_any {s1 : Bool} {A1' B1' : Option Addr} {n1 c1' m1 d1' : Nat} {x1 : Int} (w : World) (hT : Tab w) (hm : Mx w) (b0 : -9223372036854775808 ≤ x1) (b1 : x1 ≤ 9223372036854775807) (Pa : Arg w s1 A1' n1 c1' B1' m1 d1') :
    Calls Tryz.prog 6 #[.agg #[.bool s1, .slice A1' n1 c1', .slice B1' m1 d1'], .int .i64 x1] w (RetB w true) := by
  have hlens : ∀ x ∈ [(FE.mk s1 A1' n1 c1' B1' m1 d1')], x.n ≤ 9223372036854775807 ∧ x.m ≤ 9223372036854775807 := by
    intro x hx
    simp only [List.mem_cons, List.not_mem_nil, or_false] at hx
    subst hx; exact ⟨Pa.hn, Pa.hm⟩
  cases hf : fewB [(FE.mk s1 A1' n1 c1' B1' m1 d1')]
  · exact frounds_few w hT (Lib.hid hlens) (Lib.hid hf)
  · have hf2 := hf
    rw [fewB1] at hf2
    simp only [Bool.and_eq_true, decide_eq_true_eq] at hf2
    obtain ⟨a, Pa'⟩ : ∃ q, Fr w s1 A1' n1 c1' B1' m1 d1' q 6 := Pa.fr (by omega) (by omega)
    exact frounds w hT hm Pa' (Lib.hid hlens) (Lib.hid hf) b0 b1
end Go.Proofs.YtajddhkepbnilaaGreatDoor
