/- Powers of ten: the reference. -/
import Derived.Test.YtajddhkepbnilaaGreatDoorROps0
namespace Go.Proofs.YtajddhkepbnilaaGreatDoor
open Go.RowKit Go.Proofs Go

def tenp (j : Nat) : Rat := rv false (10 ^ j) 1
theorem tenp_zero : rv (!(decide ((1 : Int) < 0) == decide ((1 : Int) < 0))) (1 : Int).natAbs (1 : Int).natAbs = tenp 0 := rfl
theorem tenp_succ (j : Nat) : tenp j * rv false 10 1 = tenp (j + 1) := by rw [tenp, rv_mul, tenp, Nat.pow_succ]; rfl
theorem tenp_sz {j : Nat} (h : j ≤ 20) : Sz (tenp j) 3 := by
  have h1 : 10 ^ j ≤ 10 ^ 20 := Nat.pow_le_pow_right (by omega) h
  exact Sz.of_rv (dig_len_le (Nat.lt_of_le_of_lt h1 (by decide))) (Nat.le_trans (dig_len_le (k := 1) (by decide)) (by omega)) (by omega)
set_option maxHeartbeats 1000000 in
set_option maxRecDepth 100000 in
theorem qpower_any (k : Nat) (hk : k ≤ 20) (w : World) :
    Calls Tryz.prog 58 #[.int .i64 (k : Int)] w (RetG w (tenp k) 3) := by
  go_enter Tryz.func58, Tryz.ntmps58
  go_wp2_with fail
  refine (qof_h (x := 1) (y := 1) (j := 3) (u := tenp 0) (Lib.hid tenp_zero) (tenp_sz (by omega)) (by omega) (by omega) (by omega) (by omega)).mono ?_
  rintro e w1 ⟨A1, c1, B1, d1, rfl, F1, hb1⟩
  go_wp2_with fail
  have HX := ((BL.one w #[.bool false, .slice none 0 0, .slice none 0 0] 27).ext hb1).new #[.bool (sg (tenp 0)), .slice A1 (dig (nu (tenp 0))).length c1, .slice B1 (dig (tenp 0).den).length d1] 27
  simp only [List.cons_append, List.nil_append] at HX
  have F1 := F1.ext (below_alloc w1 (.cells #[.bool (sg (tenp 0)), .slice A1 (dig (nu (tenp 0))).length c1, .slice B1 (dig (tenp 0).den).length d1] 27))
  have hg1 : w.heap.size < w1.heap.size := Nat.lt_of_lt_of_le (by simp) hb1.size
  go_loopg [4] k (fun kk i wr => ∃ (j : Nat) (A2 : Option Addr) (c2 : Nat) (B2 : Option Addr) (d2 : Nat), j + kk = k ∧ i = .int .i64 (j : Int) ∧ Fc wr A2 c2 B2 d2 (tenp j) 3 ∧ BL w wr [(w.heap.size, #[.bool false, .slice none 0 0, .slice none 0 0], 27), (w1.heap.size, #[.bool (sg (tenp j)), .slice A2 (dig (nu (tenp j))).length c2, .slice B2 (dig (tenp j).den).length d2], 27)])
  case atStart => exact ⟨0, A1, c1, B1, d1, by omega, rfl, F1, HX⟩
  case round =>
    clear HX F1
    obtain ⟨j, A2, c2, B2, d2, hj, rfl, F2, HX⟩ := hrel
    by_cases hj0 : j < k
    · have Hu := Lib.hid (tenp_succ j)
      have zu := tenp_sz (j := j + 1) (by omega)
      obtain ⟨u, HU⟩ : ∃ u, Hid (tenp (j + 1) = u) := ⟨_, Lib.hid rfl⟩
      rw [HU.out] at Hu zu
      generalize tenp j = p at *
      have zt := sz_lit false (a := 10) (b := 1) (by omega) (by omega)
      obtain ⟨T, HT⟩ : ∃ T, Hid (rv (!(decide ((10 : Int) < 0) == decide ((1 : Int) < 0))) (10 : Int).natAbs (1 : Int).natAbs = T) := ⟨_, Lib.hid rfl⟩
      have hT10 : rv false 10 1 = T := by rw [← HT.out]; rfl
      rw [hT10] at Hu zt
      clear hT10
      go_upto_region 5 with fail
      refine wp_region_x (al := []) (late := [3]) (dst := fun i => 0) (zt := fun _ => (#[], 0)) (B := wr.heap.size) (n := 3) (r := 1) (by kernel_rfl) (by kernel_rfl) (by decide) ?_ (by kernel_rfl) (by kernel_rfl) (by intro _ _ _ d _ h; cases d <;> exact h) (sz := 4) (by rfl) (by rfl) (Nat.le_refl _) ?_
      · intro i hi; cases hi
      have hE : Ext wr wr.drew := drew_ext wr
      replace HX := HX.ext hE
      replace F2 := F2.ext hE
      clear hE
      refine wpX_take (i := 0) (v := .agg #[.bool (sg p), .slice A2 (dig (nu p)).length c2, .slice B2 (dig p.den).length d2]) rfl (by kernel_rfl) (by kernel_rfl) (by kernel_rfl) (fun _ _ _ h => h) (Or.inl ⟨by rfl, fun W hW => ?_⟩) ?_
      · have h0 := (HX.ext hW).cell 1 0 rfl rfl
        have h1 := (HX.ext hW).cell 1 1 rfl rfl
        have h2 := (HX.ext hW).cell 1 2 rfl rfl
        simp only [] at h0 h1 h2
        go_simp
        try rfl
      try simp only [Act.put, List.setIfInBounds_toArray]
      refine wpX_step (i := 1) (by kernel_rfl) rfl (fun W1 K hE hK => ?_)
      replace HX := HX.ext hE
      replace F2 := F2.ext hE
      clear hE
      go_simp
      refine (qof_h HT zt (by omega) (by omega) (by omega) (by omega)).mono ?_
      rintro e W2 ⟨A8, c8, B8, d8, rfl, F8, hb⟩
      go_wp2_with fail
      refine hK.out _ _ hb ?_
      clear hK K
      replace HX := HX.ext hb
      replace F2 := F2.ext hb
      clear hb
      try simp only [Act.put, List.setIfInBounds_toArray, List.set_cons_zero, List.set_cons_succ]
      skip
      refine wpX_step (i := 2) (by kernel_rfl) rfl (fun W1 K hE hK => ?_)
      replace HX := HX.ext hE
      replace F2 := F2.ext hE
      replace F8 := F8.ext hE
      clear hE
      go_simp
      refine (qmul_h Hu zu F2.fr F8.fr (by omega) (by omega)).mono ?_
      rintro e W2 ⟨A9, c9, B9, d9, rfl, F9, hb⟩
      go_wp2_with fail
      refine hK.out _ _ hb ?_
      clear hK K
      replace HX := HX.ext hb
      replace F2 := F2.ext hb
      replace F8 := F8.ext hb
      clear hb
      try simp only [Act.put, List.setIfInBounds_toArray, List.set_cons_zero, List.set_cons_succ]
      skip
      clear F8 F2
      refine wpX_end (by kernel_rfl) (fun W7 ga m hE hg hm => ?_)
      replace HX := HX.ext hE
      replace F9 := F9.ext hE
      clear hE
      clear hg
      simp only [putAll, setAll]
      clear ga
      have hc10 := HX.cell 1 0 rfl rfl
      have hf10 := HX.free 1 0 rfl
      have hc11 := HX.cell 1 1 rfl rfl
      have hf11 := HX.free 1 1 rfl
      have hc12 := HX.cell 1 2 rfl rfl
      have hf12 := HX.free 1 2 rfl
      try simp only [List.getElem_toArray, List.getElem_cons_zero, List.getElem_cons_succ] at hc10 hf10 hc11 hf11 hc12 hf12
      refine wpAny_step (i := 3) (by kernel_rfl) rfl (by omega) (fun K hK => ?_)
      go_simp
      refine hK.out _ _ ?_
      clear hK K
      clear hc10 hf10 hc11 hf11 hc12 hf12
      have hk := HX.keep3 1 rfl rfl rfl rfl (by omega) (.bool (sg u)) (.slice A9 (dig (nu u)).length c9) (.slice B9 (dig u.den).length d9)
      replace HX := HX.put3 1 rfl (by omega) (by intro k q hk hne; match k, hk with | 0, hk => (simp at hk; subst hk; simp at hne ⊢; try omega) | 1, hk => (simp at hk; subst hk; simp at hne ⊢; try omega) | k + 2, hk => simp at hk) (.bool (sg u)) (.slice A9 (dig (nu u)).length c9) (.slice B9 (dig u.den).length d9)
      replace F9 := F9.stay hk
      clear hk
      simp only [List.set_cons_zero, List.set_cons_succ] at HX
      refine wpAny_done (by kernel_rfl) ?_ _
      go_wp2
      go_roundg (k - (j + 1))
      case measure => omega
      case rel => exact ⟨j + 1, A9, c9, B9, d9, by omega, by go_num, by rw [HU.out]; exact F9, by rw [HU.out]; exact HX⟩
    · obtain rfl : j = k := by omega
      have hc00 := HX.cell 0 0 rfl rfl
      have hf00 := HX.free 0 0 rfl
      have hc01 := HX.cell 0 1 rfl rfl
      have hf01 := HX.free 0 1 rfl
      have hc02 := HX.cell 0 2 rfl rfl
      have hf02 := HX.free 0 2 rfl
      try simp only [List.getElem_toArray, List.getElem_cons_zero, List.getElem_cons_succ] at hc00 hf00 hc01 hf01 hc02 hf02
      have hc10 := HX.cell 1 0 rfl rfl
      have hc11 := HX.cell 1 1 rfl rfl
      have hc12 := HX.cell 1 2 rfl rfl
      try simp only [List.getElem_toArray, List.getElem_cons_zero, List.getElem_cons_succ] at hc10 hc11 hc12
      go_wp2_with fail
      clear hc00 hf00 hc01 hf01 hc02 hf02
      clear hc10 hc11 hc12
      have hk := HX.keep3 0 rfl rfl rfl rfl (by omega) (.bool (sg (tenp j))) (.slice A2 (dig (nu (tenp j))).length c2) (.slice B2 (dig (tenp j).den).length d2)
      replace HX := HX.put3 0 rfl (by omega) (by intro k q hk hne; match k, hk with | 0, hk => (simp at hk; subst hk; simp at hne ⊢; try omega) | 1, hk => (simp at hk; subst hk; simp at hne ⊢; try omega) | k + 2, hk => simp at hk) (.bool (sg (tenp j))) (.slice A2 (dig (nu (tenp j))).length c2) (.slice B2 (dig (tenp j).den).length d2)
      replace F2 := F2.stay hk
      clear hk
      simp only [List.set_cons_zero] at HX
      have hc00 := HX.cell 0 0 rfl rfl
      have hc01 := HX.cell 0 1 rfl rfl
      have hc02 := HX.cell 0 2 rfl rfl
      try simp only [List.getElem_toArray, List.getElem_cons_zero, List.getElem_cons_succ] at hc00 hc01 hc02
      exact bodyPost_ret (v := .agg #[.bool (sg (tenp j)), .slice A2 (dig (nu (tenp j))).length c2, .slice B2 (dig (tenp j).den).length d2]) (by simp [results, Tryz.results58, go_sem, hc00, hc01, hc02]) rfl ⟨A2, c2, B2, d2, rfl, F2, HX.below⟩
end Go.Proofs.YtajddhkepbnilaaGreatDoor
