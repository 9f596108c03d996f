/- Sums of lists of fractions: the reference. -/
import Derived.Test.YtfndbmflllmpgaaDoorSum1
namespace Go.Proofs.YtfndbmflllmpgaaDoor
open Go.RowKit Go.Proofs Go

structure At3 (w : World) (p : Addr) (x : FE) : Prop where
  c0 : w.cell? p = some (.bool x.s)
  c1 : w.cell? ⟨p.block, p.off + 1, none⟩ = some (.slice x.A x.n x.c)
  c2 : w.cell? ⟨p.block, p.off + 2, none⟩ = some (.slice x.B x.m x.d)
theorem At3.ext {w w' : World} {p : Addr} {x : FE} (h : At3 w p x) (hb : Below w.heap.size w w') : At3 w' p x :=
  ⟨by rw [hb.cell (cell_lt h.c0)]; exact h.c0, by rw [hb.cell (cell_lt h.c1)]; exact h.c1, by rw [hb.cell (cell_lt h.c2)]; exact h.c2⟩
set_option maxHeartbeats 1000000 in
set_option maxRecDepth 1000000 in
theorem qsum_any (A : Option Addr) (n c : Nat) (fs : List FE) (qs : List Rat) (w : World) (H : FS w A fs) (HF : FA w fs qs) (hn : n = fs.length) (hl : n ≤ 20) :
    Calls Tryd.prog 38 #[.slice A n c] w (RetG w (rsum qs) 161) := by
  subst hn
  go_enter Tryd.func38, Tryd.ntmps38
  go_wp2_with fail
  refine (qof_h (x := 0) (y := 1) (j := 1) (u := rsum (qs.take 0)) (Lib.hid rfl) (rsum_sz HF 0 (by omega)) (by omega) (by omega) (by omega) (by omega)).mono ?_
  rintro e w1 ⟨A1, c1, B1, d1, rfl, F1, hb1⟩
  go_wp2_with fail
  have HX := ((BL.one w #[.bool false, .slice none 0 0, .slice none 0 0] 26).ext hb1).new #[.bool (sg (rsum (qs.take 0))), .slice A1 (dig (nu (rsum (qs.take 0)))).length c1, .slice B1 (dig (rsum (qs.take 0)).den).length d1] 26
  simp only [List.cons_append, List.nil_append] at HX
  have F1 := F1.ext (below_alloc w1 (.cells #[.bool (sg (rsum (qs.take 0))), .slice A1 (dig (nu (rsum (qs.take 0)))).length c1, .slice B1 (dig (rsum (qs.take 0)).den).length d1] 26))
  have hg1 : w.heap.size < w1.heap.size := Nat.lt_of_lt_of_le (by simp) hb1.size
  go_loopg [4] fs.length (fun k i wr => ∃ (j : Nat) (A2 : Option Addr) (c2 : Nat) (B2 : Option Addr) (d2 : Nat), j + k = fs.length ∧ i = .int .i64 (j : Int) ∧ Fc wr A2 c2 B2 d2 (rsum (qs.take j)) (1 + 8 * j) ∧ BL w wr [(w.heap.size, #[.bool false, .slice none 0 0, .slice none 0 0], 26), (w1.heap.size, #[.bool (sg (rsum (qs.take j))), .slice A2 (dig (nu (rsum (qs.take j)))).length c2, .slice B2 (dig (rsum (qs.take j)).den).length d2], 26)])
  case atStart => exact ⟨0, A1, c1, B1, d1, by omega, rfl, F1, HX⟩
  case round =>
    clear HX F1
    obtain ⟨j, A2, c2, B2, d2, hj, rfl, F2, HX⟩ := hrel
    by_cases hj0 : j < fs.length
    · have hjq : j < qs.length := HF.len ▸ hj0
      obtain ⟨ad, rfl, hb, hc⟩ := (H.ext HX.below) (by omega)
      obtain ⟨hc0, hc1, hc2⟩ := hc j _ (List.getElem?_eq_getElem hj0)
      have AT : At3 wr (ad.add (j * 3)) fs[j] := ⟨hc0, hc1, hc2⟩
      have Fx := (HF.ext HX.below).fr j _ _ (List.getElem?_eq_getElem hj0) (List.getElem?_eq_getElem hjq)
      have Hu := Lib.hid (rsum_succ (List.getElem?_eq_getElem hjq))
      have zu := rsum_sz HF (j + 1) hjq
      clear hc hc0 hc1 hc2
      generalize fs[j] = x at *
      generalize qs[j] = q at *
      obtain ⟨u, HU⟩ : ∃ u, Hid (rsum (qs.take (j + 1)) = u) := ⟨_, Lib.hid rfl⟩
      rw [HU.out] at Hu zu
      generalize rsum (qs.take j) = p at *
      clear H
      go_upto_region 5 with fail
      refine wp_region_x (al := []) (late := [6]) (dst := fun i => 0) (zt := fun _ => (#[], 0)) (B := wr.heap.size) (n := 6) (r := 1) (by kernel_rfl) (by kernel_rfl) (by decide) ?_ (by kernel_rfl) (by kernel_rfl) (by intro _ _ _ d _ h; cases d <;> exact h) (sz := 7) (by rfl) (by rfl) (Nat.le_refl _) ?_
      · intro i hi; cases hi
      have hE : Ext wr wr.drew := drew_ext wr
      replace HX := HX.ext hE
      replace AT := AT.ext hE
      replace Fx := Fx.ext hE
      replace F2 := F2.ext hE
      clear hE
      refine wpX_take (i := 0) (v := .agg #[.bool (sg p), .slice A2 (dig (nu p)).length c2, .slice B2 (dig p.den).length d2]) rfl (by kernel_rfl) (by kernel_rfl) (by kernel_rfl) (fun _ _ _ h => h) (Or.inl ⟨by rfl, fun W hW => ?_⟩) ?_
      · have h0 := (HX.ext hW).cell 1 0 rfl rfl
        have h1 := (HX.ext hW).cell 1 1 rfl rfl
        have h2 := (HX.ext hW).cell 1 2 rfl rfl
        simp only [] at h0 h1 h2
        go_simp
        try rfl
      try simp only [Act.put, List.setIfInBounds_toArray]
      refine wpX_take (i := 1) (v := .slice (some ad) fs.length c) rfl (by kernel_rfl) (by kernel_rfl) (by kernel_rfl) (fun _ _ _ h => h) (Or.inl ⟨by rfl, fun W hW => ?_⟩) ?_
      · go_simp
        try rfl
      try simp only [Act.put]
      refine wpX_take (i := 2) (v := .int .i64 (j : Int)) rfl (by kernel_rfl) (by kernel_rfl) (by kernel_rfl) (fun _ _ _ h => h) (Or.inl ⟨by rfl, fun W hW => ?_⟩) ?_
      · go_simp
        try rfl
      try simp only [Act.put]
      refine wpX_take (i := 3) (v := .pointer (some (ad.add (j * 3)))) rfl (by kernel_rfl) (by kernel_rfl) (by kernel_rfl) (fun _ _ _ h => h) (Or.inl ⟨by rfl, fun W hW => ?_⟩) ?_
      · go_simp
        try rfl
      try simp only [Act.put]
      refine wpX_take (i := 4) (v := .agg #[.bool x.s, .slice x.A x.n x.c, .slice x.B x.m x.d]) rfl (by kernel_rfl) (by kernel_rfl) (by kernel_rfl) (fun _ _ _ h => h) (Or.inl ⟨by rfl, fun W hW => ?_⟩) ?_
      · have h0 := (AT.ext hW).c0
        have h1 := (AT.ext hW).c1
        have h2 := (AT.ext hW).c2
        go_simp
        try rfl
      try simp only [Act.put]
      refine wpX_step (i := 5) (by kernel_rfl) rfl (fun W1 K hE hK => ?_)
      replace HX := HX.ext hE
      replace AT := AT.ext hE
      replace Fx := Fx.ext hE
      replace F2 := F2.ext hE
      clear hE
      go_simp
      refine (qadd_h Hu zu F2.fr Fx (by omega) (by omega)).mono ?_
      rintro e W2 ⟨A9, c9, B9, d9, rfl, F9, hb⟩
      go_wp2_with fail
      refine hK.out _ _ hb ?_
      clear hK K
      replace HX := HX.ext hb
      replace AT := AT.ext hb
      replace Fx := Fx.ext hb
      replace F2 := F2.ext hb
      clear hb
      try simp only [Act.put, List.setIfInBounds_toArray, List.set_cons_zero, List.set_cons_succ]
      skip
      clear AT Fx F2
      refine wpX_end (by kernel_rfl) (fun W7 ga m hE hg hm => ?_)
      replace HX := HX.ext hE
      replace F9 := F9.ext hE
      clear hE
      clear hg
      simp only [putAll, setAll]
      clear ga
      have hc10 := HX.cell 1 0 rfl rfl
      have hf10 := HX.free 1 0 rfl
      have hc11 := HX.cell 1 1 rfl rfl
      have hf11 := HX.free 1 1 rfl
      have hc12 := HX.cell 1 2 rfl rfl
      have hf12 := HX.free 1 2 rfl
      try simp only [List.getElem_toArray, List.getElem_cons_zero, List.getElem_cons_succ] at hc10 hf10 hc11 hf11 hc12 hf12
      refine wpAny_step (i := 6) (by kernel_rfl) rfl (by omega) (fun K hK => ?_)
      go_simp
      refine hK.out _ _ ?_
      clear hK K
      clear hc10 hf10 hc11 hf11 hc12 hf12
      have hk := HX.keep3 1 rfl rfl rfl rfl (by omega) (.bool (sg u)) (.slice A9 (dig (nu u)).length c9) (.slice B9 (dig u.den).length d9)
      replace HX := HX.put3 1 rfl (by omega) (by intro k q hk hne; match k, hk with | 0, hk => (simp at hk; subst hk; simp at hne ⊢; try omega) | 1, hk => (simp at hk; subst hk; simp at hne ⊢; try omega) | k + 2, hk => simp at hk) (.bool (sg u)) (.slice A9 (dig (nu u)).length c9) (.slice B9 (dig u.den).length d9)
      replace F9 := F9.stay hk
      clear hk
      simp only [List.set_cons_zero, List.set_cons_succ] at HX
      refine wpAny_done (by kernel_rfl) ?_ _
      go_wp2
      go_roundg (fs.length - (j + 1))
      case measure => omega
      case rel => exact ⟨j + 1, A9, c9, B9, d9, by omega, by go_num, by rw [HU.out]; exact F9, by rw [HU.out]; exact HX⟩
    · have hjj : rsum (qs.take j) = rsum qs := by rw [List.take_of_length_le (by have := HF.len; omega)]
      have zz := F2.sz.mono (show 1 + 8 * j ≤ 161 by omega)
      rw [hjj] at F2 HX zz
      clear hjj
      have hd0 := HX.cell 1 0 rfl rfl
      have hd1 := HX.cell 1 1 rfl rfl
      have hd2 := HX.cell 1 2 rfl rfl
      have he0 := HX.cell 0 0 rfl rfl
      have he1 := HX.cell 0 1 rfl rfl
      have he2 := HX.cell 0 2 rfl rfl
      simp only [List.getElem_toArray, List.getElem_cons_zero, List.getElem_cons_succ] at hd0 hd1 hd2 he0 he1 he2
      have hf0 := HX.free 0 0 rfl
      have hf1 := HX.free 0 1 rfl
      have hf2 := HX.free 0 2 rfl
      go_wp2_with fail
      have hk := HX.keep3 0 rfl rfl rfl rfl (by omega) (.bool (sg (rsum qs))) (.slice A2 (dig (nu (rsum qs))).length c2) (.slice B2 (dig (rsum qs).den).length d2)
      replace HX := HX.put3 0 rfl (by omega) (by intro k q hk hne; match k, hk with | 0, hk => (simp at hk; subst hk; simp at hne ⊢; try omega) | 1, hk => (simp at hk; subst hk; simp at hne ⊢; try omega) | k + 2, hk => simp at hk) (.bool (sg (rsum qs))) (.slice A2 (dig (nu (rsum qs))).length c2) (.slice B2 (dig (rsum qs).den).length d2)
      replace F2 := F2.stay hk
      clear hk hd0 hd1 hd2 he0 he1 he2 hf0 hf1 hf2
      have hd0 := HX.cell 0 0 rfl rfl
      have hd1 := HX.cell 0 1 rfl rfl
      have hd2 := HX.cell 0 2 rfl rfl
      simp only [List.getElem_toArray, List.getElem_cons_zero, List.getElem_cons_succ] at hd0 hd1 hd2
      generalize ((wr.setCell ⟨w.heap.size, 0, none⟩ (.bool (sg (rsum qs)))).setCell ⟨w.heap.size, 1, none⟩ (.slice A2 (dig (nu (rsum qs))).length c2)).setCell ⟨w.heap.size, 2, none⟩ (.slice B2 (dig (rsum qs).den).length d2) = W9 at *
      exact bodyPost_ret (v := .agg #[.bool (sg (rsum qs)), .slice A2 (dig (nu (rsum qs))).length c2, .slice B2 (dig (rsum qs).den).length d2]) (by simp [results, Tryd.results38, go_sem, hd0, hd1, hd2]) rfl ⟨A2, c2, B2, d2, rfl, ⟨F2.num, F2.den, zz⟩, HX.below⟩
end Go.Proofs.YtfndbmflllmpgaaDoor
