/- Powers of ten and decimal notation: the reference. -/
import Derived.Test.YtfndbmflllmpgaaDoorSum2
import Derived.Test.YtfndbmflllmpgaaDoorRText
namespace Go.Proofs.YtfndbmflllmpgaaDoor
open Go.RowKit Go.Proofs Go

def tenp (j : Nat) : Rat := rv false (10 ^ j) 1
theorem tenp_zero : rv (!(decide ((1 : Int) < 0) == decide ((1 : Int) < 0))) (1 : Int).natAbs (1 : Int).natAbs = tenp 0 := rfl
theorem tenp_succ (j : Nat) : tenp j * rv false 10 1 = tenp (j + 1) := by rw [tenp, rv_mul, tenp, Nat.pow_succ]; rfl
theorem tenp_sz {j : Nat} (h : j ≤ 20) : Sz (tenp j) 3 := by
  have h1 : 10 ^ j ≤ 10 ^ 20 := Nat.pow_le_pow_right (by omega) h
  exact Sz.of_rv (dig_len_le (Nat.lt_of_le_of_lt h1 (by decide))) (Nat.le_trans (dig_len_le (k := 1) (by decide)) (by omega)) (by omega)
set_option maxHeartbeats 1000000 in
set_option maxRecDepth 100000 in
theorem qpower_any (k : Nat) (hk : k ≤ 20) (w : World) :
    Calls Tryd.prog 48 #[.int .i64 (k : Int)] w (RetG w (tenp k) 3) := by
  go_enter Tryd.func48, Tryd.ntmps48
  go_wp2_with fail
  refine (qof_h (x := 1) (y := 1) (j := 3) (u := tenp 0) (Lib.hid tenp_zero) (tenp_sz (by omega)) (by omega) (by omega) (by omega) (by omega)).mono ?_
  rintro e w1 ⟨A1, c1, B1, d1, rfl, F1, hb1⟩
  go_wp2_with fail
  have HX := ((BL.one w #[.bool false, .slice none 0 0, .slice none 0 0] 26).ext hb1).new #[.bool (sg (tenp 0)), .slice A1 (dig (nu (tenp 0))).length c1, .slice B1 (dig (tenp 0).den).length d1] 26
  simp only [List.cons_append, List.nil_append] at HX
  have F1 := F1.ext (below_alloc w1 (.cells #[.bool (sg (tenp 0)), .slice A1 (dig (nu (tenp 0))).length c1, .slice B1 (dig (tenp 0).den).length d1] 26))
  have hg1 : w.heap.size < w1.heap.size := Nat.lt_of_lt_of_le (by simp) hb1.size
  go_loopg [4] k (fun kk i wr => ∃ (j : Nat) (A2 : Option Addr) (c2 : Nat) (B2 : Option Addr) (d2 : Nat), j + kk = k ∧ i = .int .i64 (j : Int) ∧ Fc wr A2 c2 B2 d2 (tenp j) 3 ∧ BL w wr [(w.heap.size, #[.bool false, .slice none 0 0, .slice none 0 0], 26), (w1.heap.size, #[.bool (sg (tenp j)), .slice A2 (dig (nu (tenp j))).length c2, .slice B2 (dig (tenp j).den).length d2], 26)])
  case atStart => exact ⟨0, A1, c1, B1, d1, by omega, rfl, F1, HX⟩
  case round =>
    clear HX F1
    obtain ⟨j, A2, c2, B2, d2, hj, rfl, F2, HX⟩ := hrel
    by_cases hj0 : j < k
    · have Hu := Lib.hid (tenp_succ j)
      have zu := tenp_sz (j := j + 1) (by omega)
      obtain ⟨u, HU⟩ : ∃ u, Hid (tenp (j + 1) = u) := ⟨_, Lib.hid rfl⟩
      rw [HU.out] at Hu zu
      generalize tenp j = p at *
      have zt := sz_lit false (a := 10) (b := 1) (by omega) (by omega)
      obtain ⟨T, HT⟩ : ∃ T, Hid (rv (!(decide ((10 : Int) < 0) == decide ((1 : Int) < 0))) (10 : Int).natAbs (1 : Int).natAbs = T) := ⟨_, Lib.hid rfl⟩
      have hT10 : rv false 10 1 = T := by rw [← HT.out]; rfl
      rw [hT10] at Hu zt
      clear hT10
      go_upto_region 5 with fail
      refine wp_region_x (al := []) (late := [3]) (dst := fun i => 0) (zt := fun _ => (#[], 0)) (B := wr.heap.size) (n := 3) (r := 1) (by kernel_rfl) (by kernel_rfl) (by decide) ?_ (by kernel_rfl) (by kernel_rfl) (by intro _ _ _ d _ h; cases d <;> exact h) (sz := 4) (by rfl) (by rfl) (Nat.le_refl _) ?_
      · intro i hi; cases hi
      have hE : Ext wr wr.drew := drew_ext wr
      replace HX := HX.ext hE
      replace F2 := F2.ext hE
      clear hE
      refine wpX_take (i := 0) (v := .agg #[.bool (sg p), .slice A2 (dig (nu p)).length c2, .slice B2 (dig p.den).length d2]) rfl (by kernel_rfl) (by kernel_rfl) (by kernel_rfl) (fun _ _ _ h => h) (Or.inl ⟨by rfl, fun W hW => ?_⟩) ?_
      · have h0 := (HX.ext hW).cell 1 0 rfl rfl
        have h1 := (HX.ext hW).cell 1 1 rfl rfl
        have h2 := (HX.ext hW).cell 1 2 rfl rfl
        simp only [] at h0 h1 h2
        go_simp
        try rfl
      try simp only [Act.put, List.setIfInBounds_toArray]
      refine wpX_step (i := 1) (by kernel_rfl) rfl (fun W1 K hE hK => ?_)
      replace HX := HX.ext hE
      replace F2 := F2.ext hE
      clear hE
      go_simp
      refine (qof_h HT zt (by omega) (by omega) (by omega) (by omega)).mono ?_
      rintro e W2 ⟨A8, c8, B8, d8, rfl, F8, hb⟩
      go_wp2_with fail
      refine hK.out _ _ hb ?_
      clear hK K
      replace HX := HX.ext hb
      replace F2 := F2.ext hb
      clear hb
      try simp only [Act.put, List.setIfInBounds_toArray, List.set_cons_zero, List.set_cons_succ]
      skip
      refine wpX_step (i := 2) (by kernel_rfl) rfl (fun W1 K hE hK => ?_)
      replace HX := HX.ext hE
      replace F2 := F2.ext hE
      replace F8 := F8.ext hE
      clear hE
      go_simp
      refine (qmul_h Hu zu F2.fr F8.fr (by omega) (by omega)).mono ?_
      rintro e W2 ⟨A9, c9, B9, d9, rfl, F9, hb⟩
      go_wp2_with fail
      refine hK.out _ _ hb ?_
      clear hK K
      replace HX := HX.ext hb
      replace F2 := F2.ext hb
      replace F8 := F8.ext hb
      clear hb
      try simp only [Act.put, List.setIfInBounds_toArray, List.set_cons_zero, List.set_cons_succ]
      skip
      clear F8 F2
      refine wpX_end (by kernel_rfl) (fun W7 ga m hE hg hm => ?_)
      replace HX := HX.ext hE
      replace F9 := F9.ext hE
      clear hE
      clear hg
      simp only [putAll, setAll]
      clear ga
      have hc10 := HX.cell 1 0 rfl rfl
      have hf10 := HX.free 1 0 rfl
      have hc11 := HX.cell 1 1 rfl rfl
      have hf11 := HX.free 1 1 rfl
      have hc12 := HX.cell 1 2 rfl rfl
      have hf12 := HX.free 1 2 rfl
      try simp only [List.getElem_toArray, List.getElem_cons_zero, List.getElem_cons_succ] at hc10 hf10 hc11 hf11 hc12 hf12
      refine wpAny_step (i := 3) (by kernel_rfl) rfl (by omega) (fun K hK => ?_)
      go_simp
      refine hK.out _ _ ?_
      clear hK K
      clear hc10 hf10 hc11 hf11 hc12 hf12
      have hk := HX.keep3 1 rfl rfl rfl rfl (by omega) (.bool (sg u)) (.slice A9 (dig (nu u)).length c9) (.slice B9 (dig u.den).length d9)
      replace HX := HX.put3 1 rfl (by omega) (by intro k q hk hne; match k, hk with | 0, hk => (simp at hk; subst hk; simp at hne ⊢; try omega) | 1, hk => (simp at hk; subst hk; simp at hne ⊢; try omega) | k + 2, hk => simp at hk) (.bool (sg u)) (.slice A9 (dig (nu u)).length c9) (.slice B9 (dig u.den).length d9)
      replace F9 := F9.stay hk
      clear hk
      simp only [List.set_cons_zero, List.set_cons_succ] at HX
      refine wpAny_done (by kernel_rfl) ?_ _
      go_wp2
      go_roundg (k - (j + 1))
      case measure => omega
      case rel => exact ⟨j + 1, A9, c9, B9, d9, by omega, by go_num, by rw [HU.out]; exact F9, by rw [HU.out]; exact HX⟩
    · obtain rfl : j = k := by omega
      have hc00 := HX.cell 0 0 rfl rfl
      have hf00 := HX.free 0 0 rfl
      have hc01 := HX.cell 0 1 rfl rfl
      have hf01 := HX.free 0 1 rfl
      have hc02 := HX.cell 0 2 rfl rfl
      have hf02 := HX.free 0 2 rfl
      try simp only [List.getElem_toArray, List.getElem_cons_zero, List.getElem_cons_succ] at hc00 hf00 hc01 hf01 hc02 hf02
      have hc10 := HX.cell 1 0 rfl rfl
      have hc11 := HX.cell 1 1 rfl rfl
      have hc12 := HX.cell 1 2 rfl rfl
      try simp only [List.getElem_toArray, List.getElem_cons_zero, List.getElem_cons_succ] at hc10 hc11 hc12
      go_wp2_with fail
      clear hc00 hf00 hc01 hf01 hc02 hf02
      clear hc10 hc11 hc12
      have hk := HX.keep3 0 rfl rfl rfl rfl (by omega) (.bool (sg (tenp j))) (.slice A2 (dig (nu (tenp j))).length c2) (.slice B2 (dig (tenp j).den).length d2)
      replace HX := HX.put3 0 rfl (by omega) (by intro k q hk hne; match k, hk with | 0, hk => (simp at hk; subst hk; simp at hne ⊢; try omega) | 1, hk => (simp at hk; subst hk; simp at hne ⊢; try omega) | k + 2, hk => simp at hk) (.bool (sg (tenp j))) (.slice A2 (dig (nu (tenp j))).length c2) (.slice B2 (dig (tenp j).den).length d2)
      replace F2 := F2.stay hk
      clear hk
      simp only [List.set_cons_zero] at HX
      have hc00 := HX.cell 0 0 rfl rfl
      have hc01 := HX.cell 0 1 rfl rfl
      have hc02 := HX.cell 0 2 rfl rfl
      try simp only [List.getElem_toArray, List.getElem_cons_zero, List.getElem_cons_succ] at hc00 hc01 hc02
      exact bodyPost_ret (v := .agg #[.bool (sg (tenp j)), .slice A2 (dig (nu (tenp j))).length c2, .slice B2 (dig (tenp j).den).length d2]) (by simp [results, Tryd.results48, go_sem, hc00, hc01, hc02]) rfl ⟨A2, c2, B2, d2, rfl, F2, HX.below⟩

set_option maxHeartbeats 400000 in
set_option maxRecDepth 100000 in
theorem qdecimal_range {s : Bool} {A B : Option Addr} {n c m d : Nat} (k : Int) (w : World) (hk : k < 0 ∨ 20 < k) :
    Calls Tryd.prog 13 #[.agg #[.bool s, .slice A n c, .slice B m d], .int .i64 k] w (RetSE w [] 2) := by
  by_cases h0 : k < 0
  · clear hk
    go_enter Tryd.func13, Tryd.ntmps13
    go_wp2
    go_ret2
    exact ⟨rfl, below_alloc _ _⟩
  · have h1 : 20 < k := by omega
    clear hk
    go_enter Tryd.func13, Tryd.ntmps13
    go_wp2
    go_ret2
    exact ⟨rfl, below_alloc _ _⟩

theorem flo_half (n k : Nat) {d : Nat} (hd : 0 < d) : flo (rv false n d * tenp k + rv false 1 2) = rv false (half n d k) 1 := by
  rw [flo, tenp, half_floor n k hd, rv_one]; rfl
theorem nu_one (s : Bool) (a : Nat) : nu (rv s a 1) = a := by rw [nu_rv s (by omega)]; simp
theorem sgn_one (a : Nat) : sgn (rv false a 1) = if a = 0 then 0 else 1 := by
  rw [sgn_rv]; by_cases h : a = 0 <;> simp [h]

set_option maxHeartbeats 4000000 in
set_option maxRecDepth 100000 in
theorem qdecimal_any {s : Bool} {A B : Option Addr} {n c m d : Nat} {q : Rat} {k0 : Nat} (kp : Nat) (w : World) (h : Fr w s A n c B m d q k0) (hk0 : k0 ≤ 1000000) (hkp : kp ≤ 20) :
    Calls Tryd.prog 13 #[.agg #[.bool s, .slice A n c, .slice B m d], .int .i64 (kp : Int)] w (RetSE w (decText (sg q) (half (nu q) q.den kp) kp) 0) := by
  have hsz := h.sz
  have hd0 := q.den_pos
  obtain ⟨Q, hQ⟩ : ∃ Q, half (nu q) q.den kp = Q := ⟨_, rfl⟩
  have zp : Sz (rv false (nu q) q.den) (k0 + 1) := Sz.of_rv hsz.1 hsz.2 (by omega)
  have zt := tenp_sz hkp
  have zh := sz_lit false (a := 1) (b := 2) (by omega) (by omega)
  have zm := zp.mul zt (by omega)
  have zs := zm.add zh
  have hfl := flo_half (nu q) kp hd0
  have zf := zs.flo
  rw [hQ] at hfl ⊢
  obtain ⟨f, hf⟩ : ∃ f, flo (rv false (nu q) q.den * tenp kp + rv false 1 2) = f := ⟨_, rfl⟩
  have hnu : nu f = Q := by rw [← hf, hfl, nu_one]
  have hsf : sgn f = if Q = 0 then 0 else 1 := by rw [← hf, hfl, sgn_one]
  rw [hf] at zf
  have HNU := Lib.hid hnu
  have HSF := Lib.hid hsf
  have HF := Lib.hid hf
  obtain ⟨p, hp⟩ : ∃ p, rv false (nu q) q.den = p := ⟨_, rfl⟩
  have HP := Lib.hid hp
  rw [hp] at zp zm zs HF
  obtain ⟨t, ht⟩ : ∃ t, tenp kp = t := ⟨_, rfl⟩
  have HT := Lib.hid ht
  rw [ht] at zt zm zs HF
  obtain ⟨u, hu⟩ : ∃ u, p * t = u := ⟨_, rfl⟩
  have HU := Lib.hid hu
  rw [hu] at zm zs HF
  obtain ⟨hh, eh⟩ : ∃ x, rv false 1 2 = x := ⟨_, rfl⟩
  have HH : Hid (rv (!(decide ((1 : Int) < 0) == decide ((2 : Int) < 0))) (1 : Int).natAbs (2 : Int).natAbs = hh) := Lib.hid (by rw [← eh]; rfl)
  rw [eh] at zh zs HF
  obtain ⟨v, hv⟩ : ∃ v, u + hh = v := ⟨_, rfl⟩
  have HV := Lib.hid hv
  rw [hv] at zs HF
  have hlQ : (dig Q).length ≤ k0 + 20 := by rw [← hnu]; exact Nat.le_trans zf.1 (by omega)
  have hnQ := nDigits_dig hlQ
  have hnQ1 := Lib.nDigits_pos Q
  clear hnu hsf hf hp ht hu eh hv hfl hQ
  go_enter Tryd.func13, Tryd.ntmps13
  go_wp2_with fail
  have HX := BL.one w #[.bool s, .slice A n c, .slice B m d] 26
  have hc00 := HX.cell 0 0 rfl rfl
  have hc01 := HX.cell 0 1 rfl rfl
  have hc02 := HX.cell 0 2 rfl rfl
  try simp only [List.getElem_toArray, List.getElem_cons_zero, List.getElem_cons_succ] at hc00 hc01 hc02
  refine (qnorm_s hsz (h.ext HX.below) (by omega)).mono ?_
  rintro e w1 ⟨A1, c1, B1, d1, rfl, F1, hb⟩
  clear hc00 hc01 hc02
  replace HX := HX.ext hb
  clear hb h
  have hc00 := HX.cell 0 0 rfl rfl
  have hf00 := HX.free 0 0 rfl
  have hc01 := HX.cell 0 1 rfl rfl
  have hf01 := HX.free 0 1 rfl
  have hc02 := HX.cell 0 2 rfl rfl
  have hf02 := HX.free 0 2 rfl
  try simp only [List.getElem_toArray, List.getElem_cons_zero, List.getElem_cons_succ] at hc00 hf00 hc01 hf01 hc02 hf02
  go_upto_region 4 with fail
  clear hc00 hf00 hc01 hf01 hc02 hf02
  have hk := HX.keep3 0 rfl rfl rfl rfl (by omega) (.bool (sg q)) (.slice A1 (dig (nu q)).length c1) (.slice B1 (dig q.den).length d1)
  replace HX := HX.put3 0 rfl (by omega) (by intro k q hk hne; match k, hk with | 0, hk => (simp at hk; subst hk; simp at hne ⊢; try omega) | k + 1, hk => simp at hk) (.bool (sg q)) (.slice A1 (dig (nu q)).length c1) (.slice B1 (dig q.den).length d1)
  replace F1 := F1.stay hk
  clear hk
  simp only [List.set_cons_zero] at HX
  generalize ((w1.setCell ⟨w.heap.size, 0, none⟩ (.bool (sg q))).setCell ⟨w.heap.size, 1, none⟩ (.slice A1 (dig (nu q)).length c1)).setCell ⟨w.heap.size, 2, none⟩ (.slice B1 (dig q.den).length d1) = W2 at *
  have hc00 := HX.cell 0 0 rfl rfl
  have hc01 := HX.cell 0 1 rfl rfl
  have hc02 := HX.cell 0 2 rfl rfl
  try simp only [List.getElem_toArray, List.getElem_cons_zero, List.getElem_cons_succ] at hc00 hc01 hc02
  go_upto_region 5 with fail
  clear hc00 hc01 hc02
  have hg1 : w.heap.size < W2.heap.size := HX.lt 0 rfl
  have hb := below_alloc W2 (.cells #[.bool false, .slice A1 (dig (nu q)).length c1, .slice B1 (dig q.den).length d1] 26)
  replace HX := HX.new #[.bool false, .slice A1 (dig (nu q)).length c1, .slice B1 (dig q.den).length d1] 26
  simp only [List.cons_append, List.nil_append] at HX
  replace F1 := F1.ext hb
  clear hb
  generalize W2.alloc (.cells #[.bool false, .slice A1 (dig (nu q)).length c1, .slice B1 (dig q.den).length d1] 26) = W3 at *
  generalize W2.heap.size = g3 at *
  have FP : Fr W3 false A1 (dig (nu q)).length c1 B1 (dig q.den).length d1 p (k0 + 1) := ⟨⟨_, _, F1.num, F1.den, rfl, rfl, by rw [← HP.out, val_dig, val_dig]⟩, by have := hsz.1; omega, by have := hsz.2; omega⟩
  have hwb := HX.lt 1 rfl
  simp only [] at hwb
  refine wp_region_x (al := [7]) (late := []) (dst := fun i => 7) (zt := fun _ => (#[.bool false, .slice none 0 0, .slice none 0 0], 26)) (B := W3.heap.size) (n := 7) (r := 1) (by kernel_rfl) (by kernel_rfl) (by decide) ?_ (by kernel_rfl) (by kernel_rfl) (by intro _ _ _ d _ h; cases d <;> exact h) (sz := 9) (by rfl) (by rfl) (Nat.le_refl _) ?_
  · intro i hi
    simp only [List.mem_cons, List.not_mem_nil, or_false] at hi
    subst hi
    exact ⟨_, rfl, rfl, rfl, rfl, fun _ _ => by kernel_rfl⟩
  have hE : Ext W3 W3.drew := drew_ext W3
  replace HX := HX.ext hE
  replace FP := FP.ext hE
  clear hE
  refine wpX_take (i := 0) (v := .agg #[.bool false, .slice A1 (dig (nu q)).length c1, .slice B1 (dig q.den).length d1]) rfl (by kernel_rfl) (by kernel_rfl) (by kernel_rfl) (fun _ _ _ h => h) (Or.inl ⟨by rfl, fun W hW => ?_⟩) ?_
  · have h0 := (HX.ext hW).cell 1 0 rfl rfl
    have h1 := (HX.ext hW).cell 1 1 rfl rfl
    have h2 := (HX.ext hW).cell 1 2 rfl rfl
    simp only [] at h0 h1 h2
    go_simp
    try rfl
  try simp only [Act.put, List.setIfInBounds_toArray]
  refine wpX_take (i := 1) (v := .int .i64 (kp : Int)) rfl (by kernel_rfl) (by kernel_rfl) (by kernel_rfl) (fun _ _ _ h => h) (Or.inl ⟨by rfl, fun W hW => ?_⟩) ?_
  · go_simp
    try rfl
  try simp only [Act.put]
  refine wpX_step (i := 2) (by kernel_rfl) rfl (fun W1 K hE hK => ?_)
  replace HX := HX.ext hE
  replace FP := FP.ext hE
  clear hE
  go_simp
  refine ((show Calls Tryd.prog 48 #[.int .i64 (kp : Int)] _ (RetG _ t 3) by rw [← HT.out]; exact qpower_any kp hkp _)).mono ?_
  rintro e W2 ⟨A2, c2, B2, d2, rfl, F2, hb⟩
  go_wp2_with fail
  refine hK.out _ _ hb ?_
  clear hK K
  replace HX := HX.ext hb
  replace FP := FP.ext hb
  clear hb
  try simp only [Act.put, List.setIfInBounds_toArray, List.set_cons_zero, List.set_cons_succ]
  skip
  refine wpX_step (i := 3) (by kernel_rfl) rfl (fun W1 K hE hK => ?_)
  replace HX := HX.ext hE
  replace FP := FP.ext hE
  replace F2 := F2.ext hE
  clear hE
  go_simp
  refine (qmul_h HU zm FP F2.fr (by omega) (by omega)).mono ?_
  rintro e W2 ⟨A4, c4, B4, d4, rfl, F4, hb⟩
  go_wp2_with fail
  refine hK.out _ _ hb ?_
  clear hK K
  replace HX := HX.ext hb
  replace FP := FP.ext hb
  replace F2 := F2.ext hb
  clear hb
  try simp only [Act.put, List.setIfInBounds_toArray, List.set_cons_zero, List.set_cons_succ]
  skip
  clear F2 FP
  refine wpX_step (i := 4) (by kernel_rfl) rfl (fun W1 K hE hK => ?_)
  replace HX := HX.ext hE
  replace F4 := F4.ext hE
  clear hE
  go_simp
  refine (qof_h HH zh (by omega) (by omega) (by omega) (by omega)).mono ?_
  rintro e W2 ⟨A5, c5, B5, d5, rfl, F5, hb⟩
  go_wp2_with fail
  refine hK.out _ _ hb ?_
  clear hK K
  replace HX := HX.ext hb
  replace F4 := F4.ext hb
  clear hb
  try simp only [Act.put, List.setIfInBounds_toArray, List.set_cons_zero, List.set_cons_succ]
  skip
  refine wpX_step (i := 5) (by kernel_rfl) rfl (fun W1 K hE hK => ?_)
  replace HX := HX.ext hE
  replace F4 := F4.ext hE
  replace F5 := F5.ext hE
  clear hE
  go_simp
  refine (qadd_h HV zs F4.fr F5.fr (by omega) (by omega)).mono ?_
  rintro e W2 ⟨A6, c6, B6, d6, rfl, F6, hb⟩
  go_wp2_with fail
  refine hK.out _ _ hb ?_
  clear hK K
  replace HX := HX.ext hb
  replace F4 := F4.ext hb
  replace F5 := F5.ext hb
  clear hb
  try simp only [Act.put, List.setIfInBounds_toArray, List.set_cons_zero, List.set_cons_succ]
  skip
  clear F4 F5
  refine wpX_step (i := 6) (by kernel_rfl) rfl (fun W1 K hE hK => ?_)
  replace HX := HX.ext hE
  replace F6 := F6.ext hE
  clear hE
  go_simp
  refine (qfloor_h HF zf F6.fr (by omega)).mono ?_
  rintro e W2 ⟨A9, c9, B9, d9, rfl, F9, hb⟩
  go_wp2_with fail
  refine hK.out _ _ hb ?_
  clear hK K
  replace HX := HX.ext hb
  replace F6 := F6.ext hb
  clear hb
  try simp only [Act.put, List.setIfInBounds_toArray, List.set_cons_zero, List.set_cons_succ]
  skip
  clear F6
  refine wpX_end (by kernel_rfl) (fun W7 ga m hE hg hm => ?_)
  replace HX := HX.ext hE
  replace F9 := F9.ext hE
  clear hE
  obtain ⟨hlg7, hkg7⟩ := hg.1 7 (by simp)
  clear hg
  simp only [putAll]
  try simp only [Act.put, List.setIfInBounds_toArray, List.set_cons_zero, List.set_cons_succ]
  generalize ga 7 = g7 at *
  clear ga
  replace HX := HX.add hkg7
  clear hkg7
  simp only [List.cons_append, List.nil_append] at HX
  have hc20 := HX.cell 2 0 rfl rfl
  have hf20 := HX.free 2 0 rfl
  have hc21 := HX.cell 2 1 rfl rfl
  have hf21 := HX.free 2 1 rfl
  have hc22 := HX.cell 2 2 rfl rfl
  have hf22 := HX.free 2 2 rfl
  try simp only [List.getElem_toArray, List.getElem_cons_zero, List.getElem_cons_succ] at hc20 hf20 hc21 hf21 hc22 hf22
  refine wpAny_step (i := 8) (by kernel_rfl) rfl (by omega) (fun K hK => ?_)
  go_simp
  refine hK.out _ _ ?_
  clear hK K
  clear hc20 hf20 hc21 hf21 hc22 hf22
  have hk := HX.keep3 2 rfl rfl rfl rfl (by omega) (.bool (sg f)) (.slice A9 (dig (nu f)).length c9) (.slice B9 (dig f.den).length d9)
  replace HX := HX.put3 2 rfl (by omega) (by intro k q hk hne; match k, hk with | 0, hk => (simp at hk; subst hk; simp at hne ⊢; try omega) | 1, hk => (simp at hk; subst hk; simp at hne ⊢; try omega) | 2, hk => (simp at hk; subst hk; simp at hne ⊢; try omega) | k + 3, hk => simp at hk) (.bool (sg f)) (.slice A9 (dig (nu f)).length c9) (.slice B9 (dig f.den).length d9)
  replace F9 := F9.stay hk
  clear hk
  simp only [List.set_cons_zero, List.set_cons_succ] at HX
  refine wpAny_done (by kernel_rfl) ?_ _
  generalize ((W7.setCell ⟨g7, 0, none⟩ (.bool (sg f))).setCell ⟨g7, 1, none⟩ (.slice A9 (dig (nu f)).length c9)).setCell ⟨g7, 2, none⟩ (.slice B9 (dig f.den).length d9) = W8 at *
  have hc20 := HX.cell 2 0 rfl rfl
  have hc21 := HX.cell 2 1 rfl rfl
  have hc22 := HX.cell 2 2 rfl rfl
  try simp only [List.getElem_toArray, List.getElem_cons_zero, List.getElem_cons_succ] at hc20 hc21 hc22
  go_wp2_with fail
  refine (rtext_any A9 _ c9 (dig (nu f)) _ F9.num rfl (by have := F9.sz.1; omega)).mono ?_
  rw [val_dig, HNU.out]
  rintro e w8 ⟨rfl, hb⟩
  clear hc20 hc21 hc22
  replace HX := HX.ext hb
  replace F9 := F9.ext hb
  clear hb
  go_wp2
  go_loopg [8] (kp + 1) (fun kk x wr => ∃ z : Nat, kp + 1 - (z + Lib.nDigits Q) ≤ kk ∧ (z = 0 ∨ z + Lib.nDigits Q ≤ kp + 1) ∧ x = .string (str (zeros z ++ Lib.decDigits Q)) ∧ wr = w8)
  case atStart => exact ⟨0, by omega, .inl rfl, rfl, rfl⟩
  case round =>
    obtain ⟨z, hz, hz2, rfl, rfl⟩ := hrel
    have hsz1 : (str (zeros z ++ Lib.decDigits Q)).size = z + Lib.nDigits Q := by rw [str_size, List.length_append, zeros_len, Lib.decDigits_length]
    by_cases hz3 : z + Lib.nDigits Q ≤ kp
    · have hz0 := Lib.hid (show (⟨#[48]⟩ : ByteArray) ++ str (zeros z ++ Lib.decDigits Q) = str (zeros (z + 1) ++ Lib.decDigits Q) from by rw [show (⟨#[48]⟩ : ByteArray) = str [48] from rfl, str_append, ← zeros_cons]; rfl)
      have hsz2 : (str (zeros z ++ Lib.decDigits Q)).size ≤ 20 := by omega
      go_wp2
      go_roundg (kp + 1 - (z + 1 + Lib.nDigits Q))
      case measure => omega
      case rel => exact ⟨z + 1, Nat.le_refl _, .inr (by omega), by rw [← hz0.out], by first | rfl | trivial⟩
    · have hzz : z = kp + 1 - Lib.nDigits Q := by omega
      subst hzz
      clear hz hz2 hz3 hsz1
      have hdt : decText (sg q) Q kp = (if (sg q && decide (0 < Q)) = true then 45 :: (if kp = 0 then zeros (kp + 1 - Lib.nDigits Q) ++ Lib.decDigits Q else (zeros (kp + 1 - Lib.nDigits Q) ++ Lib.decDigits Q).take ((zeros (kp + 1 - Lib.nDigits Q) ++ Lib.decDigits Q).length - kp) ++ 46 :: (zeros (kp + 1 - Lib.nDigits Q) ++ Lib.decDigits Q).drop ((zeros (kp + 1 - Lib.nDigits Q) ++ Lib.decDigits Q).length - kp)) else (if kp = 0 then zeros (kp + 1 - Lib.nDigits Q) ++ Lib.decDigits Q else (zeros (kp + 1 - Lib.nDigits Q) ++ Lib.decDigits Q).take ((zeros (kp + 1 - Lib.nDigits Q) ++ Lib.decDigits Q).length - kp) ++ 46 :: (zeros (kp + 1 - Lib.nDigits Q) ++ Lib.decDigits Q).drop ((zeros (kp + 1 - Lib.nDigits Q) ++ Lib.decDigits Q).length - kp))) := rfl
      have hsl : kp + 1 ≤ (zeros (kp + 1 - Lib.nDigits Q) ++ Lib.decDigits Q).length ∧ (zeros (kp + 1 - Lib.nDigits Q) ++ Lib.decDigits Q).length ≤ 2000000000 := by rw [List.length_append, zeros_len, Lib.decDigits_length]; omega
      generalize zeros (kp + 1 - Lib.nDigits Q) ++ Lib.decDigits Q = S0 at *
      obtain ⟨S1, hS1⟩ : ∃ S1, (if kp = 0 then S0 else S0.take (S0.length - kp) ++ 46 :: S0.drop (S0.length - kp)) = S1 := ⟨_, rfl⟩
      rw [hS1] at hdt
      obtain ⟨n0, hn0⟩ : ∃ n0, S0.length = n0 := ⟨_, rfl⟩
      rw [hn0] at hsl hS1
      have hS1l : S1.length ≤ 2000000001 := by rw [← hS1]; split; exact Nat.le_trans (Nat.le_of_eq hn0) (by omega); simp; omega
      have hdt := Lib.hid hdt
      have hSn : ((str S0).size : Int) = (n0 : Int) := by rw [str_size, hn0]
      go_upto_if 39 with fail
      go_cut [8] (fun x wx => x = .string (str S1) ∧ Below wr.heap.size wr wx)
      case first =>
        by_cases hkq : kp = 0
        · rw [if_pos hkq] at hS1
          subst hS1 hkq
          go_wp2
          go_meet
          case rel => exact ⟨rfl, Below.refl _ _⟩
        · rw [if_neg hkq] at hS1
          have hS1 := Lib.hid hS1
          obtain ⟨j, hj, hj1, hj2⟩ : ∃ j : Nat, (n0 : Int) - (kp : Int) = (j : Int) ∧ j ≤ n0 ∧ j = n0 - kp := ⟨n0 - kp, by omega, by omega, rfl⟩
          have hj3 := Lib.hid hj2
          clear hj2
          have hSn2 : (str S0).size = n0 := by rw [str_size, hn0]
          have hex1 : (str S0).extract 0 j = str (S0.take j) := str_take S0 j
          have hex2 : (str S0).extract j n0 = str (S0.drop j) := by rw [← hn0]; exact str_drop S0 j
          have hex1s : (str (S0.take j)).size ≤ 2000000000 := by rw [str_size, List.length_take]; omega
          have hex2s : (str (S0.drop j)).size ≤ 2000000000 := by rw [str_size, List.length_drop]; omega
          go_upto_region 10 with fail
          go_quiet (fail)
          go_wp2_with fail
          go_meet
          case rel => exact ⟨by rw [← hS1.out, show (S0.take (n0 - kp) ++ 46 :: S0.drop (n0 - kp)) = (S0.take (n0 - kp) ++ [46]) ++ S0.drop (n0 - kp) by simp, ← hj3.out, ← str_append, ← str_append]; rfl, drew_below (Below.refl _ _) _⟩
      case rest =>
        obtain ⟨rfl, hb11⟩ := hcut
        have HX9 := HX.ext hb11
        have F9 := F9.ext hb11
        have h45 := Lib.hid (str_append [45] S1)
        have hs1s : (str S1).size ≤ 2000000001 := by rw [str_size]; exact hS1l
        have hc00 := HX9.cell 0 0 rfl rfl
        have hc20 := HX9.cell 2 0 rfl rfl
        have hc21 := HX9.cell 2 1 rfl rfl
        have hc22 := HX9.cell 2 2 rfl rfl
        try simp only [List.getElem_toArray, List.getElem_cons_zero, List.getElem_cons_succ] at hc00 hc20 hc21 hc22
        cases hs : sg q
        · have hfin := Lib.hid (show decText (sg q) Q kp = S1 by rw [hdt.out, hs]; rfl)
          have hfin2 := Lib.hid (show decText false Q kp = S1 by rw [← hs, hdt.out, hs]; rfl)
          rw [hs] at hc00
          have hs := Lib.hid hs
          go_wp2
          go_ret2
          exact ⟨by first | (rw [hfin.out]; rfl) | (rw [hfin2.out]; rfl), HX9.below⟩
        · rw [hs] at hc00
          have hs := Lib.hid hs
          go_wp2_with fail
          refine (qsign_h HSF F9.fr (by omega)).mono ?_
          rintro e w10 ⟨rfl, hb10⟩
          by_cases hQ0 : Q = 0
          · have hz := decide_eq_true hQ0
            have hfin := Lib.hid (show decText (sg q) Q kp = S1 by rw [hdt.out, hQ0]; simp)
            simp only [hQ0, if_true]
            go_wp2
            go_ret2
            exact ⟨by rw [hfin.out]; rfl, (HX9.ext hb10).below⟩
          · have hz := decide_eq_false hQ0
            have hfin := Lib.hid (show decText (sg q) Q kp = 45 :: S1 by rw [hdt.out, hs.out, if_pos (by simp; omega)])
            simp only [hQ0, if_false]
            go_wp2
            go_ret2
            exact ⟨by rw [hfin.out]; rw [show (45 :: S1) = [45] ++ S1 from rfl, ← h45.out]; rfl, (HX9.ext hb10).below⟩

end Go.Proofs.YtfndbmflllmpgaaDoor
