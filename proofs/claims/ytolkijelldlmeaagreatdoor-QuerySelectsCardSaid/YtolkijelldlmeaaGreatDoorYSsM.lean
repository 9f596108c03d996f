/- The statement QuerySelects, walked. -/
import Derived.Test.YtolkijelldlmeaaGreatDoorYRsM
import Derived.Test.YtolkijelldlmeaaGreatDoorYAwM
namespace Go.Proofs.YtolkijelldlmeaaGreatDoor
open Go.RowKit Go.Proofs Go

set_option maxHeartbeats 1000000 in
set_option maxRecDepth 100000 in
theorem rholds50_any {b : Bool} (n o v : Int) (w : World) (h1 : 1 ≤ o) (h2 : o ≤ 6) (hb : Hid (Tm.cmpH n o v = b)) :
    Calls Tryz.prog 189 #[.int .i64 n, .int .i64 o, .int .i64 v] w (RetB w b) := by
  obtain rfl | rfl | rfl | rfl | rfl | rfl : o = 1 ∨ o = 2 ∨ o = 3 ∨ o = 4 ∨ o = 5 ∨ o = 6 := by omega
  · have hb2 := Lib.hid (show b = (n == v) by
      rw [← hb.out]; show Tm.cmpH n 1 v = _; unfold Tm.cmpH
      rw [Bool.eq_iff_iff]; simp)
    go_enter Tryz.func189, Tryz.ntmps189
    go_wp2
    go_ret
    exact ⟨by rw [hb2.out]; rfl, Below.refl _ _⟩
  · have hb2 := Lib.hid (show b = (n != v) by
      rw [← hb.out]; show Tm.cmpH n 2 v = _; unfold Tm.cmpH
      rw [Bool.eq_iff_iff]; simp)
    go_enter Tryz.func189, Tryz.ntmps189
    go_wp2
    go_ret
    exact ⟨by rw [hb2.out]; rfl, Below.refl _ _⟩
  · have hb2 := Lib.hid (show b = decide (n < v) by
      rw [← hb.out]; show Tm.cmpH n 3 v = _; unfold Tm.cmpH
      simp)
    go_enter Tryz.func189, Tryz.ntmps189
    go_wp2
    go_ret
    exact ⟨by rw [hb2.out]; rfl, Below.refl _ _⟩
  · have hb2 := Lib.hid (show b = decide (n ≤ v) by
      rw [← hb.out]; show Tm.cmpH n 4 v = _; unfold Tm.cmpH
      simp)
    go_enter Tryz.func189, Tryz.ntmps189
    go_wp2
    go_ret
    exact ⟨by rw [hb2.out]; rfl, Below.refl _ _⟩
  · have hb2 := Lib.hid (show b = decide (v < n) by
      rw [← hb.out]; show Tm.cmpH n 5 v = _; unfold Tm.cmpH
      simp)
    go_enter Tryz.func189, Tryz.ntmps189
    go_wp2
    go_ret
    exact ⟨by rw [hb2.out]; rfl, Below.refl _ _⟩
  · have hb2 := Lib.hid (show b = decide (v ≤ n) by
      rw [← hb.out]; show Tm.cmpH n 6 v = _; unfold Tm.cmpH
      simp)
    go_enter Tryz.func189, Tryz.ntmps189
    go_wp2
    go_ret
    exact ⟨by rw [hb2.out]; rfl, Below.refl _ _⟩
/-- how many of the first kids hold -/
def TT.cntH (s : Sp) (ks : List TT) (j : Nat) : Nat := (ks.take j).countP fun x => Tm.holds s.fld x.tm
theorem TT.cntH_succ {s : Sp} {ks : List TT} {j : Nat} {x : TT} (h : ks[j]? = some x) : TT.cntH s ks (j + 1) = TT.cntH s ks j + if Tm.holds s.fld x.tm = true then 1 else 0 := by
  obtain ⟨hi, rfl⟩ := List.getElem?_eq_some_iff.1 h
  rw [TT.cntH, TT.cntH, List.take_succ_eq_append_getElem hi, List.countP_append, List.countP_cons, List.countP_nil, Nat.zero_add]
theorem TT.cntH_le (s : Sp) (ks : List TT) (j : Nat) : TT.cntH s ks j ≤ j := Nat.le_trans List.countP_le_length (List.length_take_le _ _)
theorem TT.cntH_all {s : Sp} {ks : List TT} : TT.cntH s ks ks.length = ks.length ↔ (ks.map TT.tm).all (Tm.holds s.fld) = true := by
  rw [TT.cntH, List.take_length, List.countP_eq_length, List.all_eq_true]
  simp
theorem TT.cntH_any {s : Sp} {ks : List TT} : 0 < TT.cntH s ks ks.length ↔ (ks.map TT.tm).any (Tm.holds s.fld) = true := by
  rw [TT.cntH, List.take_length, List.countP_pos_iff, List.any_eq_true]
  constructor
  · rintro ⟨x, h1, h2⟩
    exact ⟨x.tm, List.mem_map_of_mem h1, h2⟩
  · rintro ⟨y, h1, h2⟩
    obtain ⟨x, h3, rfl⟩ := List.mem_map.1 h1
    exact ⟨x, h3, h2⟩
set_option maxHeartbeats 8000000 in
set_option maxRecDepth 100000 in
theorem rsat_any (s : Sp) : ∀ (t : TT) (w : World), t.tm.wf → t.Mem w →
    Calls Tryz.prog 104 #[s.val, t.val] w (RetB w (Tm.holds s.fld t.tm)) := by
  refine fun t => TT.ind (P := fun t => ∀ (w : World), t.tm.wf → t.Mem w → Calls Tryz.prog 104 #[s.val, t.val] w (RetB w (Tm.holds s.fld t.tm))) (fun t ih0 w hw HM0 => ?_) t
  obtain ⟨k, f, o, v, A, c, ks⟩ := t
  obtain ⟨HK, hl, HM⟩ := HM0.kids
  clear HM0
  have ih : ∀ x ∈ ks, ∀ (w : World), x.tm.wf → x.Mem w → Calls Tryz.prog 104 #[s.val, x.val] w (RetB w (Tm.holds s.fld x.tm)) := ih0
  clear ih0
  show Calls _ _ #[.agg #[.int .i64 s.id, .int .i64 s.ob, .int .i64 s.rv, .int .i64 s.os, .int .i64 s.rs, .int .i64 s.ax, .int .i64 s.wt], .agg #[.int .i64 k, .int .i64 f, .int .i64 o, .int .i64 v, .slice A ks.length c]] w _
  have hw2 := hw
  rw [TT.tm_mk, Tm.wf, Tm.wfL_iff] at hw2
  have hwk := Lib.hid (show ∀ x ∈ ks, x.tm.wf from fun x hx => hw2.2 _ (List.mem_map_of_mem hx))
  have hsh := hw2.1
  clear hw2 hw
  obtain ⟨b, hb⟩ : ∃ b, Hid (Tm.holds s.fld (TT.mk k f o v A c ks).tm = b) := ⟨_, Lib.hid rfl⟩
  rw [hb.out]
  have HX := BL.two w #[.int .i64 s.id, .int .i64 s.ob, .int .i64 s.rv, .int .i64 s.os, .int .i64 s.rs, .int .i64 s.ax, .int .i64 s.wt] #[.int .i64 k, .int .i64 f, .int .i64 o, .int .i64 v, .slice A ks.length c] 40 55
  have HKV := HK.ext HX.below
  rcases hsh with ⟨rfl, hf1, hf2, ho1, ho2, hv1, hv2, hks⟩ | ⟨hk, rfl, rfl, rfl, h2, _⟩ | ⟨rfl, rfl, rfl, rfl, h1⟩
  · obtain ⟨u, hu⟩ : ∃ u, Hid (s.fld f = u) := ⟨_, Lib.hid rfl⟩
    have hb0 := Lib.hid (show Tm.cmpH u o v = b by rw [← hb.out, TT.tm_mk, Tm.holds_cmp, hu.out])
    obtain ⟨fm, rfl⟩ := Int.eq_ofNat_of_zero_le (show 0 ≤ f by omega)
    have hf8 : (fm : Int) < 8 := by omega
    have hf8n : fm < 8 := by omega
    have hfu := Lib.hid (show ([0, s.id, s.ob, s.rv, s.os, s.rs, s.ax, s.wt] : List Int)[fm]? = some u by
      rw [← hu.out]
      obtain rfl | rfl | rfl | rfl | rfl | rfl | rfl : fm = 1 ∨ fm = 2 ∨ fm = 3 ∨ fm = 4 ∨ fm = 5 ∨ fm = 6 ∨ fm = 7 := by omega
      all_goals rfl)
    go_enter Tryz.func104, Tryz.ntmps104
    go_upto_region 1 with fail
    generalize (w.alloc (.cells #[.int .i64 s.id, .int .i64 s.ob, .int .i64 s.rv, .int .i64 s.os, .int .i64 s.rs, .int .i64 s.ax, .int .i64 s.wt] 40)).alloc (.cells #[.int .i64 1, .int .i64 (fm : Int), .int .i64 o, .int .i64 v, .slice A ks.length c] 55) = V at *
    have hc10 := HX.cell 1 0 rfl rfl
    have hc11 := HX.cell 1 1 rfl rfl
    have hc12 := HX.cell 1 2 rfl rfl
    have hc13 := HX.cell 1 3 rfl rfl
    have hc14 := HX.cell 1 4 rfl rfl
    try simp only [List.getElem_toArray, List.getElem_cons_zero, List.getElem_cons_succ] at hc10 hc11 hc12 hc13 hc14
    go_upto_region 3 with fail
    clear hc10 hc11 hc12 hc13 hc14
    clear HKV
    refine wp_region_x (al := []) (late := [24]) (dst := fun i => 0) (zt := fun _ => (#[], 0)) (B := V.heap.size) (n := 24) (r := 1) (by kernel_rfl) (by kernel_rfl) (by decide) ?_ (by kernel_rfl) (by kernel_rfl) (by intro _ _ _ d _ h; cases d <;> exact h) (sz := 25) (by rfl) (by rfl) (Nat.le_refl _) ?_
    · intro i hi; cases hi
    have hE : Ext V V.drew := drew_ext V
    replace HX := HX.ext hE
    clear hE
    refine wpX_take (i := 0) (v := ?_) (by simp only [List.getElem?_toArray, List.getElem?_cons_zero]; rfl) (by kernel_rfl) (by kernel_rfl) (by kernel_rfl) (by exact fun _ _ _ h => h) (Or.inl ⟨by rfl, fun W hW => ?_⟩) ?_
    rotate_left
    · go_simp <;> (try with_reducible rfl)
    try simp only [Act.put, List.setIfInBounds_toArray, List.set_cons_zero, List.set_cons_succ]
    refine wpX_take (i := 1) (v := ?_) (by simp only [List.getElem?_toArray, List.getElem?_cons_succ, List.getElem?_cons_zero]; rfl) (by kernel_rfl) (by kernel_rfl) (by kernel_rfl) (by exact fun _ _ _ h => h) (Or.inl ⟨by rfl, fun W hW => ?_⟩) ?_
    rotate_left
    · have h0 := (HX.ext hW).cell 0 0 rfl rfl
      simp only [List.getElem_toArray, List.getElem_cons_zero, List.getElem_cons_succ] at h0
      go_simp <;> (try with_reducible rfl)
    try simp only [Act.put, List.setIfInBounds_toArray, List.set_cons_zero, List.set_cons_succ]
    refine wpX_take (i := 2) (v := ?_) (by simp only [List.getElem?_toArray, List.getElem?_cons_succ, List.getElem?_cons_zero]; rfl) (by kernel_rfl) (by kernel_rfl) (by kernel_rfl) (by exact fun _ _ _ h => h) (Or.inl ⟨by rfl, fun W hW => ?_⟩) ?_
    rotate_left
    · go_simp <;> (try with_reducible rfl)
    try simp only [Act.put, List.setIfInBounds_toArray, List.set_cons_zero, List.set_cons_succ]
    refine wpX_take (i := 3) (v := ?_) (by simp only [List.getElem?_toArray, List.getElem?_cons_succ, List.getElem?_cons_zero]; rfl) (by kernel_rfl) (by kernel_rfl) (by kernel_rfl) (by exact fun _ _ _ h => h) (Or.inl ⟨by rfl, fun W hW => ?_⟩) ?_
    rotate_left
    · have h1 := (HX.ext hW).cell 0 1 rfl rfl
      simp only [List.getElem_toArray, List.getElem_cons_zero, List.getElem_cons_succ] at h1
      go_simp <;> (try with_reducible rfl)
    try simp only [Act.put, List.setIfInBounds_toArray, List.set_cons_zero, List.set_cons_succ]
    refine wpX_take (i := 4) (v := ?_) (by simp only [List.getElem?_toArray, List.getElem?_cons_succ, List.getElem?_cons_zero]; rfl) (by kernel_rfl) (by kernel_rfl) (by kernel_rfl) (by exact fun _ _ _ h => h) (Or.inl ⟨by rfl, fun W hW => ?_⟩) ?_
    rotate_left
    · go_simp <;> (try with_reducible rfl)
    try simp only [Act.put, List.setIfInBounds_toArray, List.set_cons_zero, List.set_cons_succ]
    refine wpX_take (i := 5) (v := ?_) (by simp only [List.getElem?_toArray, List.getElem?_cons_succ, List.getElem?_cons_zero]; rfl) (by kernel_rfl) (by kernel_rfl) (by kernel_rfl) (by exact fun _ _ _ h => h) (Or.inl ⟨by rfl, fun W hW => ?_⟩) ?_
    rotate_left
    · have h2 := (HX.ext hW).cell 0 2 rfl rfl
      simp only [List.getElem_toArray, List.getElem_cons_zero, List.getElem_cons_succ] at h2
      go_simp <;> (try with_reducible rfl)
    try simp only [Act.put, List.setIfInBounds_toArray, List.set_cons_zero, List.set_cons_succ]
    refine wpX_take (i := 6) (v := ?_) (by simp only [List.getElem?_toArray, List.getElem?_cons_succ, List.getElem?_cons_zero]; rfl) (by kernel_rfl) (by kernel_rfl) (by kernel_rfl) (by exact fun _ _ _ h => h) (Or.inl ⟨by rfl, fun W hW => ?_⟩) ?_
    rotate_left
    · go_simp <;> (try with_reducible rfl)
    try simp only [Act.put, List.setIfInBounds_toArray, List.set_cons_zero, List.set_cons_succ]
    refine wpX_take (i := 7) (v := ?_) (by simp only [List.getElem?_toArray, List.getElem?_cons_succ, List.getElem?_cons_zero]; rfl) (by kernel_rfl) (by kernel_rfl) (by kernel_rfl) (by exact fun _ _ _ h => h) (Or.inl ⟨by rfl, fun W hW => ?_⟩) ?_
    rotate_left
    · have h3 := (HX.ext hW).cell 0 3 rfl rfl
      simp only [List.getElem_toArray, List.getElem_cons_zero, List.getElem_cons_succ] at h3
      go_simp <;> (try with_reducible rfl)
    try simp only [Act.put, List.setIfInBounds_toArray, List.set_cons_zero, List.set_cons_succ]
    refine wpX_take (i := 8) (v := ?_) (by simp only [List.getElem?_toArray, List.getElem?_cons_succ, List.getElem?_cons_zero]; rfl) (by kernel_rfl) (by kernel_rfl) (by kernel_rfl) (by exact fun _ _ _ h => h) (Or.inl ⟨by rfl, fun W hW => ?_⟩) ?_
    rotate_left
    · go_simp <;> (try with_reducible rfl)
    try simp only [Act.put, List.setIfInBounds_toArray, List.set_cons_zero, List.set_cons_succ]
    refine wpX_take (i := 9) (v := ?_) (by simp only [List.getElem?_toArray, List.getElem?_cons_succ, List.getElem?_cons_zero]; rfl) (by kernel_rfl) (by kernel_rfl) (by kernel_rfl) (by exact fun _ _ _ h => h) (Or.inl ⟨by rfl, fun W hW => ?_⟩) ?_
    rotate_left
    · have h4 := (HX.ext hW).cell 0 4 rfl rfl
      simp only [List.getElem_toArray, List.getElem_cons_zero, List.getElem_cons_succ] at h4
      go_simp <;> (try with_reducible rfl)
    try simp only [Act.put, List.setIfInBounds_toArray, List.set_cons_zero, List.set_cons_succ]
    refine wpX_take (i := 10) (v := ?_) (by simp only [List.getElem?_toArray, List.getElem?_cons_succ, List.getElem?_cons_zero]; rfl) (by kernel_rfl) (by kernel_rfl) (by kernel_rfl) (by exact fun _ _ _ h => h) (Or.inl ⟨by rfl, fun W hW => ?_⟩) ?_
    rotate_left
    · go_simp <;> (try with_reducible rfl)
    try simp only [Act.put, List.setIfInBounds_toArray, List.set_cons_zero, List.set_cons_succ]
    refine wpX_take (i := 11) (v := ?_) (by simp only [List.getElem?_toArray, List.getElem?_cons_succ, List.getElem?_cons_zero]; rfl) (by kernel_rfl) (by kernel_rfl) (by kernel_rfl) (by exact fun _ _ _ h => h) (Or.inl ⟨by rfl, fun W hW => ?_⟩) ?_
    rotate_left
    · have h5 := (HX.ext hW).cell 0 5 rfl rfl
      simp only [List.getElem_toArray, List.getElem_cons_zero, List.getElem_cons_succ] at h5
      go_simp <;> (try with_reducible rfl)
    try simp only [Act.put, List.setIfInBounds_toArray, List.set_cons_zero, List.set_cons_succ]
    refine wpX_take (i := 12) (v := ?_) (by simp only [List.getElem?_toArray, List.getElem?_cons_succ, List.getElem?_cons_zero]; rfl) (by kernel_rfl) (by kernel_rfl) (by kernel_rfl) (by exact fun _ _ _ h => h) (Or.inl ⟨by rfl, fun W hW => ?_⟩) ?_
    rotate_left
    · go_simp <;> (try with_reducible rfl)
    try simp only [Act.put, List.setIfInBounds_toArray, List.set_cons_zero, List.set_cons_succ]
    refine wpX_take (i := 13) (v := ?_) (by simp only [List.getElem?_toArray, List.getElem?_cons_succ, List.getElem?_cons_zero]; rfl) (by kernel_rfl) (by kernel_rfl) (by kernel_rfl) (by exact fun _ _ _ h => h) (Or.inl ⟨by rfl, fun W hW => ?_⟩) ?_
    rotate_left
    · have h6 := (HX.ext hW).cell 0 6 rfl rfl
      simp only [List.getElem_toArray, List.getElem_cons_zero, List.getElem_cons_succ] at h6
      go_simp <;> (try with_reducible rfl)
    try simp only [Act.put, List.setIfInBounds_toArray, List.set_cons_zero, List.set_cons_succ]
    refine wpX_take (i := 15) (v := ?_) (by simp only [List.getElem?_toArray, List.getElem?_cons_succ, List.getElem?_cons_zero]; rfl) (by kernel_rfl) (by kernel_rfl) (by kernel_rfl) (by exact fun _ _ _ h => h) (Or.inl ⟨by rfl, fun W hW => ?_⟩) ?_
    rotate_left
    · go_simp <;> (try with_reducible rfl)
    try simp only [Act.put, List.setIfInBounds_toArray, List.set_cons_zero, List.set_cons_succ]
    refine wpX_take (i := 16) (v := ?_) (by simp only [List.getElem?_toArray, List.getElem?_cons_succ, List.getElem?_cons_zero]; rfl) (by kernel_rfl) (by kernel_rfl) (by kernel_rfl) (by exact fun _ _ _ h => h) (Or.inl ⟨by rfl, fun W hW => ?_⟩) ?_
    rotate_left
    · have h1 := (HX.ext hW).cell 1 1 rfl rfl
      simp only [List.getElem_toArray, List.getElem_cons_zero, List.getElem_cons_succ] at h1
      go_simp <;> (try with_reducible rfl)
    try simp only [Act.put, List.setIfInBounds_toArray, List.set_cons_zero, List.set_cons_succ]
    refine wpX_take (i := 19) (v := ?_) (by simp only [List.getElem?_toArray, List.getElem?_cons_succ, List.getElem?_cons_zero]; rfl) (by kernel_rfl) (by kernel_rfl) (by kernel_rfl) (by exact fun _ _ _ h => h) (Or.inl ⟨by rfl, fun W hW => ?_⟩) ?_
    rotate_left
    · go_simp <;> (try with_reducible rfl)
    try simp only [Act.put, List.setIfInBounds_toArray, List.set_cons_zero, List.set_cons_succ]
    refine wpX_take (i := 20) (v := ?_) (by simp only [List.getElem?_toArray, List.getElem?_cons_succ, List.getElem?_cons_zero]; rfl) (by kernel_rfl) (by kernel_rfl) (by kernel_rfl) (by exact fun _ _ _ h => h) (Or.inl ⟨by rfl, fun W hW => ?_⟩) ?_
    rotate_left
    · have h2 := (HX.ext hW).cell 1 2 rfl rfl
      simp only [List.getElem_toArray, List.getElem_cons_zero, List.getElem_cons_succ] at h2
      go_simp <;> (try with_reducible rfl)
    try simp only [Act.put, List.setIfInBounds_toArray, List.set_cons_zero, List.set_cons_succ]
    refine wpX_take (i := 21) (v := ?_) (by simp only [List.getElem?_toArray, List.getElem?_cons_succ, List.getElem?_cons_zero]; rfl) (by kernel_rfl) (by kernel_rfl) (by kernel_rfl) (by exact fun _ _ _ h => h) (Or.inl ⟨by rfl, fun W hW => ?_⟩) ?_
    rotate_left
    · go_simp <;> (try with_reducible rfl)
    try simp only [Act.put, List.setIfInBounds_toArray, List.set_cons_zero, List.set_cons_succ]
    refine wpX_take (i := 22) (v := ?_) (by simp only [List.getElem?_toArray, List.getElem?_cons_succ, List.getElem?_cons_zero]; rfl) (by kernel_rfl) (by kernel_rfl) (by kernel_rfl) (by exact fun _ _ _ h => h) (Or.inl ⟨by rfl, fun W hW => ?_⟩) ?_
    rotate_left
    · have h3 := (HX.ext hW).cell 1 3 rfl rfl
      simp only [List.getElem_toArray, List.getElem_cons_zero, List.getElem_cons_succ] at h3
      go_simp <;> (try with_reducible rfl)
    try simp only [Act.put, List.setIfInBounds_toArray, List.set_cons_zero, List.set_cons_succ]
    refine wpX_step (i := 14) (by kernel_rfl) (by simp only [List.getElem?_toArray, List.getElem?_cons_succ, List.getElem?_cons_zero]; rfl) (fun W1 K hE hK => ?_)
    replace HX := HX.ext hE
    clear hE
    go_simp
    refine hK.out _ _ (below_alloc _ _) ?_
    clear hK K
    have HL := IEs.lit W1 3 [0, s.id, s.ob, s.rv, s.os, s.rs, s.ax, s.wt] #[.int .i64 0, .int .i64 s.id, .int .i64 s.ob, .int .i64 s.rv, .int .i64 s.os, .int .i64 s.rs, .int .i64 s.ax, .int .i64 s.wt] rfl
    have hb := below_alloc W1 (.cells #[.int .i64 0, .int .i64 s.id, .int .i64 s.ob, .int .i64 s.rv, .int .i64 s.os, .int .i64 s.rs, .int .i64 s.ax, .int .i64 s.wt] 3)
    replace HX := HX.ext hb
    clear hb
    try simp only [Act.put, List.setIfInBounds_toArray, List.set_cons_zero, List.set_cons_succ]
    generalize W1.alloc (.cells #[.int .i64 0, .int .i64 s.id, .int .i64 s.ob, .int .i64 s.rv, .int .i64 s.os, .int .i64 s.rs, .int .i64 s.ax, .int .i64 s.wt] 3) = W2 at *
    generalize W1.heap.size = gL at *
    refine wpX_take (i := 17) (v := ?_) (by simp only [List.getElem?_toArray, List.getElem?_cons_succ, List.getElem?_cons_zero]; rfl) (by kernel_rfl) (by kernel_rfl) (by kernel_rfl) (by exact fun _ _ _ h => h) (Or.inl ⟨by rfl, fun W hW => ?_⟩) ?_
    rotate_left
    · go_simp <;> (try with_reducible rfl)
    try simp only [Act.put, List.setIfInBounds_toArray, List.set_cons_zero, List.set_cons_succ]
    refine wpX_take (i := 18) (v := ?_) (by simp only [List.getElem?_toArray, List.getElem?_cons_succ, List.getElem?_cons_zero]; rfl) (by kernel_rfl) (by kernel_rfl) (by kernel_rfl) (by exact fun _ _ _ h => h) (Or.inl ⟨by rfl, fun W hW => ?_⟩) ?_
    rotate_left
    · obtain ⟨ad2, e2, _, h3⟩ := (HL.ext hW) (by simp)
      obtain rfl := Option.some.inj e2
      have h0 := h3 fm u hfu.out
      rw [Addr.add_lit, Nat.zero_add] at h0
      clear h3
      go_simp <;> (try with_reducible rfl)
    try simp only [Act.put, List.setIfInBounds_toArray, List.set_cons_zero, List.set_cons_succ]
    refine wpX_step (i := 23) (by kernel_rfl) (by simp only [List.getElem?_toArray, List.getElem?_cons_succ, List.getElem?_cons_zero]; rfl) (fun W1 K hE hK => ?_)
    replace HX := HX.ext hE
    replace HL := HL.ext hE
    clear hE
    go_simp
    refine (rholds50_any u o v _ ho1 ho2 hb0).mono ?_
    rintro e W2 ⟨rfl, hb⟩
    go_wp2_with fail
    refine hK.out _ _ hb ?_
    clear hK K
    replace HX := HX.ext hb
    replace HL := HL.ext hb
    clear hb
    try simp only [Act.put, List.setIfInBounds_toArray, List.set_cons_zero, List.set_cons_succ]
    skip
    refine wpX_end (by kernel_rfl) (fun W12 ga m hE hg hm => ?_)
    replace HX := HX.ext hE
    replace HL := HL.ext hE
    clear hE
    clear hg
    simp only [putAll, setAll]
    try clear ga
    refine wpAny_step (i := 24) (by kernel_rfl) (by simp only [List.getElem?_toArray, List.getElem?_cons_succ, List.getElem?_cons_zero]; rfl) (by omega) (fun K hK => ?_)
    go_simp
    refine hK.out _ _ ?_
    clear hK K
    refine wpAny_done (by kernel_rfl) ?_ _
    go_wp2
    go_ret
    exact ⟨rfl, HX.below⟩
  · rw [List.length_map] at h2
    rcases hk with rfl | rfl
    · go_enter Tryz.func104, Tryz.ntmps104
      go_upto_region 1 with fail
      generalize (w.alloc (.cells #[.int .i64 s.id, .int .i64 s.ob, .int .i64 s.rv, .int .i64 s.os, .int .i64 s.rs, .int .i64 s.ax, .int .i64 s.wt] 40)).alloc (.cells #[.int .i64 2, .int .i64 0, .int .i64 0, .int .i64 0, .slice A ks.length c] 55) = V at *
      have hc10 := HX.cell 1 0 rfl rfl
      have hc14 := HX.cell 1 4 rfl rfl
      try simp only [List.getElem_toArray, List.getElem_cons_zero, List.getElem_cons_succ] at hc10 hc14
      go_wp2
      go_loopg [5, 6] ks.length (fun g n i wr => ∃ (j m : Nat), j + g = ks.length ∧ i = .int .i64 (j : Int) ∧ n = .int .i64 (m : Int) ∧ Hid (TT.cntH s ks j = m) ∧ BL w wr [(w.heap.size, #[.int .i64 s.id, .int .i64 s.ob, .int .i64 s.rv, .int .i64 s.os, .int .i64 s.rs, .int .i64 s.ax, .int .i64 s.wt], 40), (w.heap.size + 1, #[.int .i64 2, .int .i64 0, .int .i64 0, .int .i64 0, .slice A ks.length c], 55)])
      case atStart => exact ⟨0, 0, by omega, rfl, rfl, Lib.hid rfl, HX⟩
      case round =>
        clear HX hc10 hc14 HKV
        obtain ⟨j, m, hj, rfl, rfl, hm, HX⟩ := hrel
        have hml : m ≤ j := by rw [← hm.out]; exact TT.cntH_le s ks j
        have HKr := HK.ext HX.below
        have hc10 := HX.cell 1 0 rfl rfl
        have hc14 := HX.cell 1 4 rfl rfl
        try simp only [List.getElem_toArray, List.getElem_cons_zero, List.getElem_cons_succ] at hc10 hc14
        by_cases hj0 : j < ks.length
        · have hjI : (j : Int) < (ks.length : Int) := by omega
          obtain ⟨x, hx⟩ : ∃ x, Hid (ks[j]? = some x) := ⟨_, Lib.hid (List.getElem?_eq_getElem hj0)⟩
          have hxm := List.mem_of_getElem? hx.out
          have hxM := (HM x hxm).ext HX.below
          have hcall := fun W => ih x hxm W (hwk.out x hxm)
          obtain ⟨z, hz⟩ : ∃ z, Hid (Tm.holds s.fld x.tm = z) := ⟨_, Lib.hid rfl⟩
          have hms := Lib.hid (TT.cntH_succ (s := s) hx.out)
          rw [hz.out] at hcall
          obtain ⟨ad, rfl, hadb, e0, e1, e2, e3, e4⟩ := HKr.at_ hx.out
          clear hadb HKr
          go_upto_region 10 with fail
          clear hc10 hc14
          obtain ⟨wq, rfl⟩ : ∃ V, V = wr := ⟨_, rfl⟩
          have HE := And.intro e0 (And.intro e1 (And.intro e2 (And.intro e3 e4)))
          clear e0 e1 e2 e3 e4
          have held : ∀ {W' : World}, BL w W' [(w.heap.size, #[.int .i64 s.id, .int .i64 s.ob, .int .i64 s.rv, .int .i64 s.os, .int .i64 s.rs, .int .i64 s.ax, .int .i64 s.wt], 40), (w.heap.size + 1, #[.int .i64 2, .int .i64 0, .int .i64 0, .int .i64 0, .slice (some ad) ks.length c], 55)] → Below wq.heap.size wq W' → W'.cell? ⟨w.heap.size, 0, none⟩ = some (.int .i64 s.id) ∧ W'.cell? ⟨w.heap.size, 1, none⟩ = some (.int .i64 s.ob) ∧ W'.cell? ⟨w.heap.size, 2, none⟩ = some (.int .i64 s.rv) ∧ W'.cell? ⟨w.heap.size, 3, none⟩ = some (.int .i64 s.os) ∧ W'.cell? ⟨w.heap.size, 4, none⟩ = some (.int .i64 s.rs) ∧ W'.cell? ⟨w.heap.size, 5, none⟩ = some (.int .i64 s.ax) ∧ W'.cell? ⟨w.heap.size, 6, none⟩ = some (.int .i64 s.wt) ∧ W'.cell? ⟨w.heap.size + 1, 4, none⟩ = some (.slice (some ad) ks.length c) ∧ W'.cell? (ad.add (j * 5)) = some (.int .i64 x.k) ∧ W'.cell? ⟨((ad.add (j * 5))).block, ((ad.add (j * 5))).off + 1, none⟩ = some (.int .i64 x.f) ∧ W'.cell? ⟨((ad.add (j * 5))).block, ((ad.add (j * 5))).off + 2, none⟩ = some (.int .i64 x.o) ∧ W'.cell? ⟨((ad.add (j * 5))).block, ((ad.add (j * 5))).off + 3, none⟩ = some (.int .i64 x.v) ∧ W'.cell? ⟨((ad.add (j * 5))).block, ((ad.add (j * 5))).off + 4, none⟩ = some (.slice x.A x.ks.length x.c) := fun h hb => ⟨h.cell 0 0 rfl rfl, h.cell 0 1 rfl rfl, h.cell 0 2 rfl rfl, h.cell 0 3 rfl rfl, h.cell 0 4 rfl rfl, h.cell 0 5 rfl rfl, h.cell 0 6 rfl rfl, h.cell 1 4 rfl rfl, cellup hb HE.1, cellup hb HE.2.1, cellup hb HE.2.2.1, cellup hb HE.2.2.2.1, cellup hb HE.2.2.2.2⟩
          have HD := Below.refl wq.heap.size wq
          replace HX := HX.ext (drew_ext _)
          replace HD := drew_below HD 1
          replace hxM := hxM.ext (drew_ext wq)
          go_region_held3 (fun W' => W'.cell? ⟨w.heap.size, 0, none⟩ = some (.int .i64 s.id) ∧ W'.cell? ⟨w.heap.size, 1, none⟩ = some (.int .i64 s.ob) ∧ W'.cell? ⟨w.heap.size, 2, none⟩ = some (.int .i64 s.rv) ∧ W'.cell? ⟨w.heap.size, 3, none⟩ = some (.int .i64 s.os) ∧ W'.cell? ⟨w.heap.size, 4, none⟩ = some (.int .i64 s.rs) ∧ W'.cell? ⟨w.heap.size, 5, none⟩ = some (.int .i64 s.ax) ∧ W'.cell? ⟨w.heap.size, 6, none⟩ = some (.int .i64 s.wt) ∧ W'.cell? ⟨w.heap.size + 1, 4, none⟩ = some (.slice (some ad) ks.length c) ∧ W'.cell? (ad.add (j * 5)) = some (.int .i64 x.k) ∧ W'.cell? ⟨((ad.add (j * 5))).block, ((ad.add (j * 5))).off + 1, none⟩ = some (.int .i64 x.f) ∧ W'.cell? ⟨((ad.add (j * 5))).block, ((ad.add (j * 5))).off + 2, none⟩ = some (.int .i64 x.o) ∧ W'.cell? ⟨((ad.add (j * 5))).block, ((ad.add (j * 5))).off + 3, none⟩ = some (.int .i64 x.v) ∧ W'.cell? ⟨((ad.add (j * 5))).block, ((ad.add (j * 5))).off + 4, none⟩ = some (.slice x.A x.ks.length x.c))
            (exact held HX HD)
            (first
              | (go_at_call 104; refine (hcall _ hxM).mono ?_; rintro e wz ⟨rfl, hb⟩; replace HX := HX.ext hb; replace HD := bel_trans HD hb; replace hxM := hxM.ext hb; clear hb))
          all_goals (
            cases z with
            | true =>
              have hm2 := Lib.hid (show TT.cntH s ks (j + 1) = m + 1 by rw [hms.out, hm.out, hz.out]; rfl)
              go_wp2
              go_roundg (ks.length - (j + 1))
              case measure => omega
              case rel => exact ⟨j + 1, m + 1, by omega, by go_num, by go_num, hm2, HX⟩
            | false =>
              have hm2 := Lib.hid (show TT.cntH s ks (j + 1) = m by rw [hms.out, hm.out, hz.out]; rfl)
              go_wp2
              go_roundg (ks.length - (j + 1))
              case measure => omega
              case rel => exact ⟨j + 1, m, by omega, by go_num, rfl, hm2, HX⟩)
        · obtain rfl : j = ks.length := by omega
          have hall := TT.cntH_all (s := s) (ks := ks)
          have hany := TT.cntH_any (s := s) (ks := ks)
          rw [hm.out] at hall hany
          by_cases hme : m = ks.length
          · have hbt : b = true := by
              rw [← hb.out, TT.tm_mk, Tm.holds_and]
              exact hall.1 hme
            have q1 : ((m : Int) == (ks.length : Int)) = true := by rw [beq_iff_eq]; omega
            clear hall hany hm hme
            go_wp2
            go_ret
            exact ⟨by rw [hbt]; rfl, HX.below⟩
          · have q1 : ((m : Int) == (ks.length : Int)) = false := by rw [beq_eq_false_iff_ne]; omega
            have hbt : b = false := by
              rw [← hb.out, TT.tm_mk, Tm.holds_and]
              cases h : (ks.map TT.tm).all (Tm.holds s.fld) with
              | false => rfl
              | true => exact absurd (hall.2 h) hme
            by_cases hm0 : 0 < m
            · have q2 : decide ((0 : Int) < (m : Int)) = true := decide_eq_true (by omega)
              clear hall hany hm hme
              go_wp2
              go_ret
              exact ⟨by rw [hbt]; rfl, HX.below⟩
            · have q2 : decide ((0 : Int) < (m : Int)) = false := decide_eq_false (by omega)
              clear hall hany hm hme
              go_wp2
              go_ret
              exact ⟨by rw [hbt]; rfl, HX.below⟩
    · go_enter Tryz.func104, Tryz.ntmps104
      go_upto_region 1 with fail
      generalize (w.alloc (.cells #[.int .i64 s.id, .int .i64 s.ob, .int .i64 s.rv, .int .i64 s.os, .int .i64 s.rs, .int .i64 s.ax, .int .i64 s.wt] 40)).alloc (.cells #[.int .i64 3, .int .i64 0, .int .i64 0, .int .i64 0, .slice A ks.length c] 55) = V at *
      have hc10 := HX.cell 1 0 rfl rfl
      have hc14 := HX.cell 1 4 rfl rfl
      try simp only [List.getElem_toArray, List.getElem_cons_zero, List.getElem_cons_succ] at hc10 hc14
      go_wp2
      go_loopg [5, 6] ks.length (fun g n i wr => ∃ (j m : Nat), j + g = ks.length ∧ i = .int .i64 (j : Int) ∧ n = .int .i64 (m : Int) ∧ Hid (TT.cntH s ks j = m) ∧ BL w wr [(w.heap.size, #[.int .i64 s.id, .int .i64 s.ob, .int .i64 s.rv, .int .i64 s.os, .int .i64 s.rs, .int .i64 s.ax, .int .i64 s.wt], 40), (w.heap.size + 1, #[.int .i64 3, .int .i64 0, .int .i64 0, .int .i64 0, .slice A ks.length c], 55)])
      case atStart => exact ⟨0, 0, by omega, rfl, rfl, Lib.hid rfl, HX⟩
      case round =>
        clear HX hc10 hc14 HKV
        obtain ⟨j, m, hj, rfl, rfl, hm, HX⟩ := hrel
        have hml : m ≤ j := by rw [← hm.out]; exact TT.cntH_le s ks j
        have HKr := HK.ext HX.below
        have hc10 := HX.cell 1 0 rfl rfl
        have hc14 := HX.cell 1 4 rfl rfl
        try simp only [List.getElem_toArray, List.getElem_cons_zero, List.getElem_cons_succ] at hc10 hc14
        by_cases hj0 : j < ks.length
        · have hjI : (j : Int) < (ks.length : Int) := by omega
          obtain ⟨x, hx⟩ : ∃ x, Hid (ks[j]? = some x) := ⟨_, Lib.hid (List.getElem?_eq_getElem hj0)⟩
          have hxm := List.mem_of_getElem? hx.out
          have hxM := (HM x hxm).ext HX.below
          have hcall := fun W => ih x hxm W (hwk.out x hxm)
          obtain ⟨z, hz⟩ : ∃ z, Hid (Tm.holds s.fld x.tm = z) := ⟨_, Lib.hid rfl⟩
          have hms := Lib.hid (TT.cntH_succ (s := s) hx.out)
          rw [hz.out] at hcall
          obtain ⟨ad, rfl, hadb, e0, e1, e2, e3, e4⟩ := HKr.at_ hx.out
          clear hadb HKr
          go_upto_region 10 with fail
          clear hc10 hc14
          obtain ⟨wq, rfl⟩ : ∃ V, V = wr := ⟨_, rfl⟩
          have HE := And.intro e0 (And.intro e1 (And.intro e2 (And.intro e3 e4)))
          clear e0 e1 e2 e3 e4
          have held : ∀ {W' : World}, BL w W' [(w.heap.size, #[.int .i64 s.id, .int .i64 s.ob, .int .i64 s.rv, .int .i64 s.os, .int .i64 s.rs, .int .i64 s.ax, .int .i64 s.wt], 40), (w.heap.size + 1, #[.int .i64 3, .int .i64 0, .int .i64 0, .int .i64 0, .slice (some ad) ks.length c], 55)] → Below wq.heap.size wq W' → W'.cell? ⟨w.heap.size, 0, none⟩ = some (.int .i64 s.id) ∧ W'.cell? ⟨w.heap.size, 1, none⟩ = some (.int .i64 s.ob) ∧ W'.cell? ⟨w.heap.size, 2, none⟩ = some (.int .i64 s.rv) ∧ W'.cell? ⟨w.heap.size, 3, none⟩ = some (.int .i64 s.os) ∧ W'.cell? ⟨w.heap.size, 4, none⟩ = some (.int .i64 s.rs) ∧ W'.cell? ⟨w.heap.size, 5, none⟩ = some (.int .i64 s.ax) ∧ W'.cell? ⟨w.heap.size, 6, none⟩ = some (.int .i64 s.wt) ∧ W'.cell? ⟨w.heap.size + 1, 4, none⟩ = some (.slice (some ad) ks.length c) ∧ W'.cell? (ad.add (j * 5)) = some (.int .i64 x.k) ∧ W'.cell? ⟨((ad.add (j * 5))).block, ((ad.add (j * 5))).off + 1, none⟩ = some (.int .i64 x.f) ∧ W'.cell? ⟨((ad.add (j * 5))).block, ((ad.add (j * 5))).off + 2, none⟩ = some (.int .i64 x.o) ∧ W'.cell? ⟨((ad.add (j * 5))).block, ((ad.add (j * 5))).off + 3, none⟩ = some (.int .i64 x.v) ∧ W'.cell? ⟨((ad.add (j * 5))).block, ((ad.add (j * 5))).off + 4, none⟩ = some (.slice x.A x.ks.length x.c) := fun h hb => ⟨h.cell 0 0 rfl rfl, h.cell 0 1 rfl rfl, h.cell 0 2 rfl rfl, h.cell 0 3 rfl rfl, h.cell 0 4 rfl rfl, h.cell 0 5 rfl rfl, h.cell 0 6 rfl rfl, h.cell 1 4 rfl rfl, cellup hb HE.1, cellup hb HE.2.1, cellup hb HE.2.2.1, cellup hb HE.2.2.2.1, cellup hb HE.2.2.2.2⟩
          have HD := Below.refl wq.heap.size wq
          replace HX := HX.ext (drew_ext _)
          replace HD := drew_below HD 1
          replace hxM := hxM.ext (drew_ext wq)
          go_region_held3 (fun W' => W'.cell? ⟨w.heap.size, 0, none⟩ = some (.int .i64 s.id) ∧ W'.cell? ⟨w.heap.size, 1, none⟩ = some (.int .i64 s.ob) ∧ W'.cell? ⟨w.heap.size, 2, none⟩ = some (.int .i64 s.rv) ∧ W'.cell? ⟨w.heap.size, 3, none⟩ = some (.int .i64 s.os) ∧ W'.cell? ⟨w.heap.size, 4, none⟩ = some (.int .i64 s.rs) ∧ W'.cell? ⟨w.heap.size, 5, none⟩ = some (.int .i64 s.ax) ∧ W'.cell? ⟨w.heap.size, 6, none⟩ = some (.int .i64 s.wt) ∧ W'.cell? ⟨w.heap.size + 1, 4, none⟩ = some (.slice (some ad) ks.length c) ∧ W'.cell? (ad.add (j * 5)) = some (.int .i64 x.k) ∧ W'.cell? ⟨((ad.add (j * 5))).block, ((ad.add (j * 5))).off + 1, none⟩ = some (.int .i64 x.f) ∧ W'.cell? ⟨((ad.add (j * 5))).block, ((ad.add (j * 5))).off + 2, none⟩ = some (.int .i64 x.o) ∧ W'.cell? ⟨((ad.add (j * 5))).block, ((ad.add (j * 5))).off + 3, none⟩ = some (.int .i64 x.v) ∧ W'.cell? ⟨((ad.add (j * 5))).block, ((ad.add (j * 5))).off + 4, none⟩ = some (.slice x.A x.ks.length x.c))
            (exact held HX HD)
            (first
              | (go_at_call 104; refine (hcall _ hxM).mono ?_; rintro e wz ⟨rfl, hb⟩; replace HX := HX.ext hb; replace HD := bel_trans HD hb; replace hxM := hxM.ext hb; clear hb))
          all_goals (
            cases z with
            | true =>
              have hm2 := Lib.hid (show TT.cntH s ks (j + 1) = m + 1 by rw [hms.out, hm.out, hz.out]; rfl)
              go_wp2
              go_roundg (ks.length - (j + 1))
              case measure => omega
              case rel => exact ⟨j + 1, m + 1, by omega, by go_num, by go_num, hm2, HX⟩
            | false =>
              have hm2 := Lib.hid (show TT.cntH s ks (j + 1) = m by rw [hms.out, hm.out, hz.out]; rfl)
              go_wp2
              go_roundg (ks.length - (j + 1))
              case measure => omega
              case rel => exact ⟨j + 1, m, by omega, by go_num, rfl, hm2, HX⟩)
        · obtain rfl : j = ks.length := by omega
          have hall := TT.cntH_all (s := s) (ks := ks)
          have hany := TT.cntH_any (s := s) (ks := ks)
          rw [hm.out] at hall hany
          by_cases hme : m = ks.length
          · have hbt : b = true := by
              rw [← hb.out, TT.tm_mk, Tm.holds_or]
              exact hany.1 (by omega)
            have q1 : ((m : Int) == (ks.length : Int)) = true := by rw [beq_iff_eq]; omega
            clear hall hany hm hme
            go_wp2
            go_ret
            exact ⟨by rw [hbt]; rfl, HX.below⟩
          · have q1 : ((m : Int) == (ks.length : Int)) = false := by rw [beq_eq_false_iff_ne]; omega
            by_cases hm0 : 0 < m
            · have hbt : b = true := by
                rw [← hb.out, TT.tm_mk, Tm.holds_or]
                exact hany.1 hm0
              have q2 : decide ((0 : Int) < (m : Int)) = true := decide_eq_true (by omega)
              clear hall hany hm hme
              go_wp2
              go_ret
              exact ⟨by rw [hbt]; rfl, HX.below⟩
            · have hbt : b = false := by
                rw [← hb.out, TT.tm_mk, Tm.holds_or]
                cases h : (ks.map TT.tm).any (Tm.holds s.fld) with
                | false => rfl
                | true => exact absurd (hany.2 h) hm0
              have q2 : decide ((0 : Int) < (m : Int)) = false := decide_eq_false (by omega)
              clear hall hany hm hme
              go_wp2
              go_ret
              exact ⟨by rw [hbt]; rfl, HX.below⟩
  · rw [List.length_map] at h1
    obtain ⟨x, rfl⟩ := List.length_eq_one_iff.1 h1
    have hxm : x ∈ [x] := List.mem_singleton_self x
    have hxM := (HM x hxm).ext HX.below
    obtain ⟨ad, rfl, hadb, e0, e1, e2, e3, e4⟩ := HKV.at_ (i := 0) rfl
    rw [Nat.zero_mul, show ad.add 0 = ad from rfl] at e0 e1 e2 e3 e4
    have hres := Lib.hid (show (!Tm.holds s.fld x.tm) = b by rw [← hb.out, TT.tm_mk, List.map_cons, List.map_nil, Tm.holds_not])
    have hcall := fun W => ih x hxm W (hwk.out x hxm)
    obtain ⟨z, hz⟩ : ∃ z, Hid (Tm.holds s.fld x.tm = z) := ⟨_, Lib.hid rfl⟩
    rw [hz.out] at hres hcall
    go_enter Tryz.func104, Tryz.ntmps104
    go_upto_region 1 with fail
    simp only [List.length_cons, List.length_nil, Nat.zero_add] at HX e0 e1 e2 e3 e4 hxM hadb HKV ⊢
    generalize (w.alloc (.cells #[.int .i64 s.id, .int .i64 s.ob, .int .i64 s.rv, .int .i64 s.os, .int .i64 s.rs, .int .i64 s.ax, .int .i64 s.wt] 40)).alloc (.cells #[.int .i64 4, .int .i64 0, .int .i64 0, .int .i64 0, .slice (some ad) 1 c] 55) = V at *
    have hc10 := HX.cell 1 0 rfl rfl
    try simp only [List.getElem_toArray, List.getElem_cons_zero, List.getElem_cons_succ] at hc10
    go_upto_region 5 with fail
    clear hc10 hadb HKV
    have HE := And.intro e0 (And.intro e1 (And.intro e2 (And.intro e3 e4)))
    clear e0 e1 e2 e3 e4
    have held : ∀ {W' : World}, BL w W' [(w.heap.size, #[.int .i64 s.id, .int .i64 s.ob, .int .i64 s.rv, .int .i64 s.os, .int .i64 s.rs, .int .i64 s.ax, .int .i64 s.wt], 40), (w.heap.size + 1, #[.int .i64 4, .int .i64 0, .int .i64 0, .int .i64 0, .slice (some ad) 1 c], 55)] → Below V.heap.size V W' → W'.cell? ⟨w.heap.size, 0, none⟩ = some (.int .i64 s.id) ∧ W'.cell? ⟨w.heap.size, 1, none⟩ = some (.int .i64 s.ob) ∧ W'.cell? ⟨w.heap.size, 2, none⟩ = some (.int .i64 s.rv) ∧ W'.cell? ⟨w.heap.size, 3, none⟩ = some (.int .i64 s.os) ∧ W'.cell? ⟨w.heap.size, 4, none⟩ = some (.int .i64 s.rs) ∧ W'.cell? ⟨w.heap.size, 5, none⟩ = some (.int .i64 s.ax) ∧ W'.cell? ⟨w.heap.size, 6, none⟩ = some (.int .i64 s.wt) ∧ W'.cell? ⟨w.heap.size + 1, 4, none⟩ = some (.slice (some ad) 1 c) ∧ W'.cell? ad = some (.int .i64 x.k) ∧ W'.cell? ⟨(ad).block, (ad).off + 1, none⟩ = some (.int .i64 x.f) ∧ W'.cell? ⟨(ad).block, (ad).off + 2, none⟩ = some (.int .i64 x.o) ∧ W'.cell? ⟨(ad).block, (ad).off + 3, none⟩ = some (.int .i64 x.v) ∧ W'.cell? ⟨(ad).block, (ad).off + 4, none⟩ = some (.slice x.A x.ks.length x.c) := fun h hb => ⟨h.cell 0 0 rfl rfl, h.cell 0 1 rfl rfl, h.cell 0 2 rfl rfl, h.cell 0 3 rfl rfl, h.cell 0 4 rfl rfl, h.cell 0 5 rfl rfl, h.cell 0 6 rfl rfl, h.cell 1 4 rfl rfl, cellup hb HE.1, cellup hb HE.2.1, cellup hb HE.2.2.1, cellup hb HE.2.2.2.1, cellup hb HE.2.2.2.2⟩
    have HD := Below.refl V.heap.size V
    replace HX := HX.ext (drew_ext _)
    replace HD := drew_below HD 1
    replace hxM := hxM.ext (drew_ext V)
    go_region_held3 (fun W' => W'.cell? ⟨w.heap.size, 0, none⟩ = some (.int .i64 s.id) ∧ W'.cell? ⟨w.heap.size, 1, none⟩ = some (.int .i64 s.ob) ∧ W'.cell? ⟨w.heap.size, 2, none⟩ = some (.int .i64 s.rv) ∧ W'.cell? ⟨w.heap.size, 3, none⟩ = some (.int .i64 s.os) ∧ W'.cell? ⟨w.heap.size, 4, none⟩ = some (.int .i64 s.rs) ∧ W'.cell? ⟨w.heap.size, 5, none⟩ = some (.int .i64 s.ax) ∧ W'.cell? ⟨w.heap.size, 6, none⟩ = some (.int .i64 s.wt) ∧ W'.cell? ⟨w.heap.size + 1, 4, none⟩ = some (.slice (some ad) 1 c) ∧ W'.cell? ad = some (.int .i64 x.k) ∧ W'.cell? ⟨(ad).block, (ad).off + 1, none⟩ = some (.int .i64 x.f) ∧ W'.cell? ⟨(ad).block, (ad).off + 2, none⟩ = some (.int .i64 x.o) ∧ W'.cell? ⟨(ad).block, (ad).off + 3, none⟩ = some (.int .i64 x.v) ∧ W'.cell? ⟨(ad).block, (ad).off + 4, none⟩ = some (.slice x.A x.ks.length x.c))
      (exact held HX HD)
      (first
        | (go_at_call 104; refine (hcall _ hxM).mono ?_; rintro e wz ⟨rfl, hb⟩; replace HX := HX.ext hb; replace HD := bel_trans HD hb; replace hxM := hxM.ext hb; clear hb))
    all_goals (
      go_wp2
      go_ret
      exact ⟨by rw [← hres.out]; rfl, HX.below⟩)
set_option maxHeartbeats 1000000 in
set_option maxRecDepth 100000 in
theorem bhas_any {b : Bool} {x : Int} (A : Option Addr) (c : Nat) (l : List Int) (w : World) (H : IEs w A l) (hl : l.length ≤ 9223372036854775807) (hb : Tells b (x ∈ l)) :
    Calls Tryz.prog 30 #[.slice A l.length c, .int .i64 x] w (RetB w b) := by
  have HB := Lib.hid hb
  clear hb
  go_enter Tryz.func30, Tryz.ntmps30
  go_wp2
  go_loopg [5] l.length (fun k i wr => ∃ j : Nat, j + k = l.length ∧ i = .int .i64 (j : Int) ∧ Hid (∀ i y, i < j → l[i]? = some y → y ≠ x) ∧ Below w.heap.size w wr)
  case atStart => exact ⟨0, by omega, rfl, Lib.hid (fun i x h => absurd h (by omega)), Below.refl _ _⟩
  case round =>
    obtain ⟨j, hj, rfl, hok, hbw⟩ := hrel
    by_cases hj0 : j < l.length
    · have hx := Lib.hid (List.getElem?_eq_getElem hj0)
      obtain ⟨ad, rfl, hbk, c0⟩ := (H.ext hbw).at_ hx.out
      generalize l[j] = y at *
      by_cases hk : y = x
      · obtain rfl : b = true := HB.out.t (hk ▸ List.mem_of_getElem? hx.out)
        have hd : (y == x) = true := beq_iff_eq.2 hk
        clear hk
        go_wp2
        go_ret
        exact ⟨by first | rfl | simp, hbw⟩
      · have hd : (y == x) = false := beq_eq_false_iff_ne.2 hk
        have hnx := Lib.hid (show ∀ i z, i < j + 1 → l[i]? = some z → z ≠ x from fun i z hi hz => by
          by_cases hij : i < j
          · exact hok.out i z hij hz
          · obtain rfl : i = j := by omega
            rw [hx.out] at hz
            obtain rfl := Option.some.inj hz
            exact hk)
        clear hk
        go_wp2
        go_roundg (l.length - (j + 1))
        case measure => omega
        case rel => exact ⟨j + 1, by omega, by go_num, hnx, hbw⟩
    · obtain rfl : b = false := HB.out.f (fun hx => by
        obtain ⟨i, hi, e⟩ := List.mem_iff_getElem.1 hx
        exact hok.out i x (by omega) (by rw [List.getElem?_eq_getElem hi, e]) rfl)
      go_wp2
      go_ret
      exact ⟨by first | rfl | simp, hbw⟩
set_option maxHeartbeats 4000000 in
set_option maxRecDepth 100000 in
theorem rhas50_any {b : Bool} (s : Sp) (t : TT) (w : World) (HM : t.Mem w) (hb : Tells b (s.V ∧ t.tm.Ok ∧ Tm.holds s.fld t.tm = true)) : Calls Tryz.prog 42 #[s.val, t.val] w (RetB w b) := by
  have HX := BL.two w #[.int .i64 s.id, .int .i64 s.ob, .int .i64 s.rv, .int .i64 s.os, .int .i64 s.rs, .int .i64 s.ax, .int .i64 s.wt] #[.int .i64 t.k, .int .i64 t.f, .int .i64 t.o, .int .i64 t.v, .slice t.A t.ks.length t.c] 40 55
  replace HM := HM.ext HX.below
  have HB := Lib.hid hb
  clear hb
  show Calls _ _ #[.agg #[.int .i64 s.id, .int .i64 s.ob, .int .i64 s.rv, .int .i64 s.os, .int .i64 s.rs, .int .i64 s.ax, .int .i64 s.wt], .agg #[.int .i64 t.k, .int .i64 t.f, .int .i64 t.o, .int .i64 t.v, .slice t.A t.ks.length t.c]] w _
  go_enter Tryz.func42, Tryz.ntmps42
  go_upto_region 1 with fail
  generalize (w.alloc (.cells #[.int .i64 s.id, .int .i64 s.ob, .int .i64 s.rv, .int .i64 s.os, .int .i64 s.rs, .int .i64 s.ax, .int .i64 s.wt] 40)).alloc (.cells #[.int .i64 t.k, .int .i64 t.f, .int .i64 t.o, .int .i64 t.v, .slice t.A t.ks.length t.c] 55) = W0 at *
  by_cases hv : s.V
  · have yv := yes hv
    replace hv := Lib.hid hv
    have hc00 := HX.cell 0 0 rfl rfl
    have hc01 := HX.cell 0 1 rfl rfl
    have hc02 := HX.cell 0 2 rfl rfl
    have hc03 := HX.cell 0 3 rfl rfl
    have hc04 := HX.cell 0 4 rfl rfl
    have hc05 := HX.cell 0 5 rfl rfl
    have hc06 := HX.cell 0 6 rfl rfl
    simp only [List.getElem_toArray, List.getElem_cons_zero, List.getElem_cons_succ] at hc00 hc01 hc02 hc03 hc04 hc05 hc06
    go_wp2_with fail
    refine (rspec_any (b := true) s W0 yv).mono ?_
    rintro e w1 ⟨rfl, hb⟩
    replace HX := HX.ext hb
    replace HM := HM.ext hb
    clear hb hc00 hc01 hc02 hc03 hc04 hc05 hc06
    by_cases ho : t.tm.Ok
    · have yo := yes ho
      replace ho := Lib.hid ho
      have hc10 := HX.cell 1 0 rfl rfl
      have hc11 := HX.cell 1 1 rfl rfl
      have hc12 := HX.cell 1 2 rfl rfl
      have hc13 := HX.cell 1 3 rfl rfl
      have hc14 := HX.cell 1 4 rfl rfl
      try simp only [List.getElem_toArray, List.getElem_cons_zero, List.getElem_cons_succ] at hc10 hc11 hc12 hc13 hc14
      go_wp2_with fail
      refine (rvalid50_any (b := true) t w1 HM yo).mono ?_
      rintro e w2 ⟨rfl, hb⟩
      replace HX := HX.ext hb
      replace HM := HM.ext hb
      clear hb hc10 hc11 hc12 hc13 hc14
      have hbb := Lib.hid (show Tm.holds s.fld t.tm = b by
        cases b with
        | true => exact (HB.out.1 rfl).2.2
        | false =>
          cases h : Tm.holds s.fld t.tm with
          | false => rfl
          | true => exact absurd (HB.out.2 ⟨hv.out, ho.out, h⟩) (by decide))
      have hcall := rsat_any s t w2 ho.out.1 HM
      rw [hbb.out] at hcall
      have hc00 := HX.cell 0 0 rfl rfl
      have hc01 := HX.cell 0 1 rfl rfl
      have hc02 := HX.cell 0 2 rfl rfl
      have hc03 := HX.cell 0 3 rfl rfl
      have hc04 := HX.cell 0 4 rfl rfl
      have hc05 := HX.cell 0 5 rfl rfl
      have hc06 := HX.cell 0 6 rfl rfl
      simp only [List.getElem_toArray, List.getElem_cons_zero, List.getElem_cons_succ] at hc00 hc01 hc02 hc03 hc04 hc05 hc06
      have hc10 := HX.cell 1 0 rfl rfl
      have hc11 := HX.cell 1 1 rfl rfl
      have hc12 := HX.cell 1 2 rfl rfl
      have hc13 := HX.cell 1 3 rfl rfl
      have hc14 := HX.cell 1 4 rfl rfl
      try simp only [List.getElem_toArray, List.getElem_cons_zero, List.getElem_cons_succ] at hc10 hc11 hc12 hc13 hc14
      go_wp2_with fail
      refine (hcall).mono ?_
      rintro e w3 ⟨rfl, hb⟩
      replace HX := HX.ext hb
      replace HM := HM.ext hb
      clear hb hc00 hc01 hc02 hc03 hc04 hc05 hc06 hc10 hc11 hc12 hc13 hc14
      go_wp2
      go_ret
      exact ⟨rfl, HX.below⟩
    · have yo := no ho
      obtain rfl : b = false := HB.out.f fun h => ho h.2.1
      clear ho
      have hc10 := HX.cell 1 0 rfl rfl
      have hc11 := HX.cell 1 1 rfl rfl
      have hc12 := HX.cell 1 2 rfl rfl
      have hc13 := HX.cell 1 3 rfl rfl
      have hc14 := HX.cell 1 4 rfl rfl
      try simp only [List.getElem_toArray, List.getElem_cons_zero, List.getElem_cons_succ] at hc10 hc11 hc12 hc13 hc14
      go_wp2_with fail
      refine (rvalid50_any (b := false) t w1 HM yo).mono ?_
      rintro e w2 ⟨rfl, hb⟩
      replace HX := HX.ext hb
      replace HM := HM.ext hb
      clear hb hc10 hc11 hc12 hc13 hc14
      go_wp2
      go_ret
      exact ⟨rfl, HX.below⟩
  · have yv := no hv
    obtain rfl : b = false := HB.out.f fun h => hv h.1
    clear hv
    have hc00 := HX.cell 0 0 rfl rfl
    have hc01 := HX.cell 0 1 rfl rfl
    have hc02 := HX.cell 0 2 rfl rfl
    have hc03 := HX.cell 0 3 rfl rfl
    have hc04 := HX.cell 0 4 rfl rfl
    have hc05 := HX.cell 0 5 rfl rfl
    have hc06 := HX.cell 0 6 rfl rfl
    simp only [List.getElem_toArray, List.getElem_cons_zero, List.getElem_cons_succ] at hc00 hc01 hc02 hc03 hc04 hc05 hc06
    go_wp2_with fail
    refine (rspec_any (b := false) s W0 yv).mono ?_
    rintro e w1 ⟨rfl, hb⟩
    replace HX := HX.ext hb
    replace HM := HM.ext hb
    clear hb hc00 hc01 hc02 hc03 hc04 hc05 hc06
    go_wp2
    go_ret
    exact ⟨rfl, HX.below⟩
theorem sel_srt {o l : List Sp} {t : Tm} (hp : o.Perm l) (hs : (o.map Sp.id).Pairwise (· ≤ ·)) : selI t o = srt (selI t l) := by
  refine srt_unique ((hp.filter _).map _) ?_
  exact hs.sublist (List.Sublist.map _ List.filter_sublist)
set_option maxHeartbeats 8000000 in
set_option maxRecDepth 100000 in
theorem rselect_any {L : List Int} {E : Int} (A : Option Addr) (c : Nat) (l : List Sp) (t : TT) (w : World) (H : SpS w A l) (hl : l.length ≤ 9223372036854775807) (HM : t.Mem w) (hS : Hid (PSel l t.tm L E)) :
    Calls Tryz.prog 40 #[.slice A l.length c, t.val] w (RetLw w L E) := by
  have HX := BL.one w #[.int .i64 t.k, .int .i64 t.f, .int .i64 t.o, .int .i64 t.v, .slice t.A t.ks.length t.c] 55
  replace H := H.ext HX.below
  replace HM := HM.ext HX.below
  obtain ⟨E0, hE0⟩ := ChkS.ex l
  have hsort := fun W (h : SpS W A l) => rsort09_any A c l W h hl (Lib.hid hE0)
  show Calls _ _ #[.slice A l.length c, .agg #[.int .i64 t.k, .int .i64 t.f, .int .i64 t.o, .int .i64 t.v, .slice t.A t.ks.length t.c]] w _
  go_enter Tryz.func40, Tryz.ntmps40
  go_upto_region 1 with fail
  generalize w.alloc (.cells #[.int .i64 t.k, .int .i64 t.f, .int .i64 t.o, .int .i64 t.v, .slice t.A t.ks.length t.c] 55) = V at *
  go_wp2_with fail
  refine (hsort V H).mono ?_
  rintro e w2 ⟨A2, c2, o, rfl, HO, hol, ho0, hon, hb⟩
  replace HX := HX.ext hb
  replace HM := HM.ext hb
  clear hb hsort H
  by_cases he : E0 = 0
  · subst he
    have hop := Lib.hid (ho0.out rfl)
    clear ho0 hon
    by_cases hv : t.tm.Ok
    · obtain ⟨rfl, rfl⟩ := hS.out.uniq (.inr (.inr ⟨hE0, hv, rfl, rfl⟩))
      have hl64 : o.length ≤ 64 := by
        rw [hop.out.1.length_eq]
        rcases hE0 with ⟨_, h⟩ | ⟨_, _, h⟩ | ⟨_, _, _, h⟩ | ⟨h1, h2, _, _⟩
        · cases h
        · cases h
        · cases h
        · exact h1
      have hwf := Lib.hid hv.1
      have yo := yes hv
      clear hS hE0 hv
      have hc00 := HX.cell 0 0 rfl rfl
      have hc01 := HX.cell 0 1 rfl rfl
      have hc02 := HX.cell 0 2 rfl rfl
      have hc03 := HX.cell 0 3 rfl rfl
      have hc04 := HX.cell 0 4 rfl rfl
      try simp only [List.getElem_toArray, List.getElem_cons_zero, List.getElem_cons_succ] at hc00 hc01 hc02 hc03 hc04
      go_wp2_with fail
      refine (rvalid50_any t w2 HM yo).mono ?_
      rintro e w3 ⟨rfl, hb⟩
      replace HX := HX.ext hb
      replace HM := HM.ext hb
      replace HO := HO.ext hb
      clear hb hc00 hc01 hc02 hc03 hc04
      have hb0 := HX.below
      have hlt := HX.lt 0 rfl
      simp only [] at hlt
      obtain ⟨B, hB⟩ : ∃ B, Hid (w3.heap.size = B) := ⟨_, Lib.hid rfl⟩
      have hBw : w.heap.size < B := by rw [← hB.out]; exact hlt
      have hB3 : w3.heap.size ≤ B := Nat.le_of_eq hB.out
      have hB4 : B ≤ w3.heap.size := Nat.le_of_eq hB.out.symm
      have HX3 : BL w3 w3 [(w.heap.size, #[.int .i64 t.k, .int .i64 t.f, .int .i64 t.o, .int .i64 t.v, .slice t.A t.ks.length t.c], 55)] := ⟨Below.refl _ _, HX.blk⟩
      have HM0 := Lib.hid HM
      have HO0 := Lib.hid HO
      clear HX HM HO hlt
      go_wp2
      go_loopg [8, 9] o.length (fun g u i wr => ∃ (k : Nat) (A8 : Option Addr) (c8 : Nat) (out : List Int), k + g = o.length ∧ i = .int .i64 (k : Int) ∧ u = .slice A8 out.length c8 ∧ IOwn wr B A8 c8 out ∧ Hid (out = selI t.tm (o.take k)) ∧ out.length ≤ k ∧ BL w3 wr [(w.heap.size, #[.int .i64 t.k, .int .i64 t.f, .int .i64 t.o, .int .i64 t.v, .slice t.A t.ks.length t.c], 55)] ∧ B ≤ wr.heap.size)
      case atStart => exact ⟨0, none, 0, [], by omega, rfl, rfl, IOwn.nil _ _, Lib.hid rfl, Nat.le_refl _, HX3, hB4⟩
      case round =>
        clear HX3
        obtain ⟨k, A8, c8, out, hk, rfl, rfl, HOWN, hout, hol2, HX, hbs⟩ := hrel
        have H := HO0.out.ext HX.below
        have HM := HM0.out.ext HX.below
        by_cases hk0 : k < o.length
        · have hkI : (k : Int) < (o.length : Int) := by omega
          obtain ⟨x, hx⟩ : ∃ x, Hid (o[k]? = some x) := ⟨_, Lib.hid (List.getElem?_eq_getElem hk0)⟩
          have htk := Lib.hid (show o.take (k + 1) = o.take k ++ [x] by
            obtain ⟨hi, h2⟩ := List.getElem?_eq_some_iff.1 hx.out
            rw [List.take_succ_eq_append_getElem hi, h2])
          obtain ⟨ad, rfl, hbk, e0, e1, e2, e3, e4, e5, e6⟩ := H.at_ hx.out
          obtain ⟨q, hq⟩ : ∃ q, Hid (Tm.holds x.fld t.tm = q) := ⟨_, Lib.hid rfl⟩
          have hcall := fun W h => rsat_any x t W hwf.out h
          rw [hq.out] at hcall
          have HE := And.intro e0 (And.intro e1 (And.intro e2 (And.intro e3 (And.intro e4 (And.intro e5 e6)))))
          clear e0 e1 e2 e3 e4 e5 e6 hbk
          go_upto_region 10 with fail
          obtain ⟨wq, rfl⟩ : ∃ V, V = wr := ⟨_, rfl⟩
          have held : ∀ {W' : World}, BL w3 W' [(w.heap.size, #[.int .i64 t.k, .int .i64 t.f, .int .i64 t.o, .int .i64 t.v, .slice t.A t.ks.length t.c], 55)] → Below wq.heap.size wq W' → W'.cell? (ad.add (k * 7)) = some (.int .i64 x.id) ∧ W'.cell? ⟨(ad.add (k * 7)).block, (ad.add (k * 7)).off + 1, none⟩ = some (.int .i64 x.ob) ∧ W'.cell? ⟨(ad.add (k * 7)).block, (ad.add (k * 7)).off + 2, none⟩ = some (.int .i64 x.rv) ∧ W'.cell? ⟨(ad.add (k * 7)).block, (ad.add (k * 7)).off + 3, none⟩ = some (.int .i64 x.os) ∧ W'.cell? ⟨(ad.add (k * 7)).block, (ad.add (k * 7)).off + 4, none⟩ = some (.int .i64 x.rs) ∧ W'.cell? ⟨(ad.add (k * 7)).block, (ad.add (k * 7)).off + 5, none⟩ = some (.int .i64 x.ax) ∧ W'.cell? ⟨(ad.add (k * 7)).block, (ad.add (k * 7)).off + 6, none⟩ = some (.int .i64 x.wt) ∧ W'.cell? ⟨w.heap.size, 0, none⟩ = some (.int .i64 t.k) ∧ W'.cell? ⟨w.heap.size, 1, none⟩ = some (.int .i64 t.f) ∧ W'.cell? ⟨w.heap.size, 2, none⟩ = some (.int .i64 t.o) ∧ W'.cell? ⟨w.heap.size, 3, none⟩ = some (.int .i64 t.v) ∧ W'.cell? ⟨w.heap.size, 4, none⟩ = some (.slice t.A t.ks.length t.c) := fun h hb => ⟨cellup hb HE.1, cellup hb HE.2.1, cellup hb HE.2.2.1, cellup hb HE.2.2.2.1, cellup hb HE.2.2.2.2.1, cellup hb HE.2.2.2.2.2.1, cellup hb HE.2.2.2.2.2.2, h.cell 0 0 rfl rfl, h.cell 0 1 rfl rfl, h.cell 0 2 rfl rfl, h.cell 0 3 rfl rfl, h.cell 0 4 rfl rfl⟩
          have HD := Below.refl wq.heap.size wq
          replace HX := HX.ext (drew_ext _)
          replace HD := drew_below HD 1
          replace HM := HM.ext (drew_ext wq)
          replace HOWN := HOWN.ext (drew_ext wq)
          replace hbs : B ≤ wq.drew.heap.size := hbs
          go_region_held3 (fun W' => W'.cell? (ad.add (k * 7)) = some (.int .i64 x.id) ∧ W'.cell? ⟨(ad.add (k * 7)).block, (ad.add (k * 7)).off + 1, none⟩ = some (.int .i64 x.ob) ∧ W'.cell? ⟨(ad.add (k * 7)).block, (ad.add (k * 7)).off + 2, none⟩ = some (.int .i64 x.rv) ∧ W'.cell? ⟨(ad.add (k * 7)).block, (ad.add (k * 7)).off + 3, none⟩ = some (.int .i64 x.os) ∧ W'.cell? ⟨(ad.add (k * 7)).block, (ad.add (k * 7)).off + 4, none⟩ = some (.int .i64 x.rs) ∧ W'.cell? ⟨(ad.add (k * 7)).block, (ad.add (k * 7)).off + 5, none⟩ = some (.int .i64 x.ax) ∧ W'.cell? ⟨(ad.add (k * 7)).block, (ad.add (k * 7)).off + 6, none⟩ = some (.int .i64 x.wt) ∧ W'.cell? ⟨w.heap.size, 0, none⟩ = some (.int .i64 t.k) ∧ W'.cell? ⟨w.heap.size, 1, none⟩ = some (.int .i64 t.f) ∧ W'.cell? ⟨w.heap.size, 2, none⟩ = some (.int .i64 t.o) ∧ W'.cell? ⟨w.heap.size, 3, none⟩ = some (.int .i64 t.v) ∧ W'.cell? ⟨w.heap.size, 4, none⟩ = some (.slice t.A t.ks.length t.c))
            (exact held HX HD)
            (first
              | (go_at_call 104; refine (hcall _ HM).mono ?_; rintro e wz ⟨rfl, hb⟩; replace HX := HX.ext hb; replace HD := bel_trans HD hb; replace HM := HM.ext hb; replace HOWN := HOWN.ext hb; replace hbs := Nat.le_trans hbs hb.size; clear hb))
          all_goals (
            have hid := (held HX HD).1
            clear held
            cases q with
            | true =>
              have hout2 := Lib.hid (show out ++ [x.id] = selI t.tm (o.take (k + 1)) by rw [htk.out, selI, List.filter_append, List.map_append, ← selI, ← hout.out]; simp [hq.out])
              go_wp2_with (at_builtin; refine wp_push EI _ rfl _ _ rfl rfl rfl HOWN (by rfl) (by omega) (by omega) hbs ?_; intro A7 c7 w7 hown7 hgr hbl hlt)
              replace hown7 := IOwn.snoc hown7 rfl
              have HX7 := HX.low (B := B) hB3 (by intro i p hp; match i, hp with | 0, hp => (simp at hp; subst hp; simp; omega) | i + 1, hp => simp at hp) hbl
              go_roundg (o.length - (k + 1))
              case measure => omega
              case rel => exact ⟨k + 1, A7, c7, out ++ [x.id], by omega, by go_num, by rw [List.length_append]; rfl, hown7, hout2, by rw [List.length_append, List.length_singleton]; omega, HX7, by omega⟩
            | false =>
              have hout2 := Lib.hid (show out = selI t.tm (o.take (k + 1)) by rw [htk.out, selI, List.filter_append, List.map_append, ← selI, ← hout.out]; simp [hq.out])
              go_wp2
              go_roundg (o.length - (k + 1))
              case measure => omega
              case rel => exact ⟨k + 1, A8, c8, out, by omega, by go_num, rfl, HOWN, hout2, by omega, HX, hbs⟩)
        · obtain rfl : k = o.length := by omega
          rw [List.take_length] at hout
          have hfin := Lib.hid (show out = srt (selI t.tm l) by rw [hout.out]; exact sel_srt hop.out.1 hop.out.2)
          have hes := HOWN.es
          rw [hfin.out] at hes
          go_wp2
          go_ret2
          exact ⟨A8, c8, by rw [hfin.out]; rfl, hes, bel_trans hb0 HX.below⟩
    · obtain ⟨rfl, rfl⟩ := hS.out.uniq (.inr (.inl ⟨hE0, hv, rfl, rfl⟩))
      have yo := no hv
      clear hS hE0 hv
      have hc00 := HX.cell 0 0 rfl rfl
      have hc01 := HX.cell 0 1 rfl rfl
      have hc02 := HX.cell 0 2 rfl rfl
      have hc03 := HX.cell 0 3 rfl rfl
      have hc04 := HX.cell 0 4 rfl rfl
      try simp only [List.getElem_toArray, List.getElem_cons_zero, List.getElem_cons_succ] at hc00 hc01 hc02 hc03 hc04
      go_wp2_with fail
      refine (rvalid50_any t w2 HM yo).mono ?_
      rintro e w3 ⟨rfl, hb⟩
      replace HX := HX.ext hb
      go_wp2
      go_ret2
      exact ⟨none, 0, rfl, IEs.nil _ _, HX.below⟩
  · obtain ⟨rfl, rfl⟩ := hS.out.uniq (.inl ⟨hE0, he, rfl⟩)
    have he2 : (E != 0) = true := bne_iff_ne.2 he
    clear hS hE0 he ho0 hon
    go_wp2
    go_ret2
    exact ⟨none, 0, rfl, IEs.nil _ _, HX.below⟩
end Go.Proofs.YtolkijelldlmeaaGreatDoor

namespace Go.Proofs.YtolkijelldlmeaaGreatDoor
open Go.RowKit Go.Proofs Go

theorem tells_ex (p : Prop) : ∃ b : Bool, Tells b p := by
  by_cases h : p
  · exact ⟨true, yes h⟩
  · exact ⟨false, no h⟩
theorem sel_mem {l : List Sp} {t : Tm} {L : List Int} {x : Sp} (h : PSel l t L 0) (hx : x ∈ l) : (x.V ∧ t.Ok ∧ Tm.holds x.fld t = true) ↔ x.id ∈ L := by
  rcases h with ⟨_, h, _⟩ | ⟨_, _, _, h⟩ | ⟨hc, ho, rfl, _⟩
  · exact absurd rfl h
  · cases h
  · have hcc : (∀ x ∈ l, x.V) ∧ (l.map Sp.id).Nodup := by
      rcases hc with ⟨_, h⟩ | ⟨_, _, h⟩ | ⟨_, _, _, h⟩ | ⟨_, h2, h3, _⟩
      · cases h
      · cases h
      · cases h
      · exact ⟨h2, h3⟩
    rw [(srt_perm _).mem_iff, selI, List.mem_map]
    constructor
    · exact fun h => ⟨x, List.mem_filter.2 ⟨hx, h.2.2⟩, rfl⟩
    · rintro ⟨y, hy, he⟩
      obtain ⟨hyl, hyh⟩ := List.mem_filter.1 hy
      have hyx : y = x := by
        have hp : l.Pairwise (fun a b => a.id ≠ b.id) := List.pairwise_map.1 hcc.2
        refine Classical.byContradiction fun hne => ?_
        obtain ⟨i, hi, rfl⟩ := List.mem_iff_getElem.1 hyl
        obtain ⟨j, hj, rfl⟩ := List.mem_iff_getElem.1 hx
        rcases Nat.lt_trichotomy i j with hij | hij | hij
        · exact List.pairwise_iff_getElem.1 hp i j hi hj hij he
        · subst hij; exact hne rfl
        · exact List.pairwise_iff_getElem.1 hp j i hj hi hij he.symm
      subst hyx
      exact ⟨hcc.1 _ hx, ho, hyh⟩
theorem psel_len {l : List Sp} {t : Tm} {L : List Int} {E : Int} (h : PSel l t L E) : L.length ≤ l.length := by
  rcases h with ⟨_, _, rfl⟩ | ⟨_, _, rfl, _⟩ | ⟨_, _, rfl, _⟩
  · simp
  · simp
  · rw [srt_len, selI, List.length_map]; exact List.length_filter_le _ _
set_option maxHeartbeats 40000000 in
set_option maxRecDepth 100000 in
theorem selects_any (A : Option Addr) (c : Nat) (l : List Sp) (t : TT) (w : World) (hE : Env w) (H : SpS w A l) (hl : l.length ≤ 9223372036854775807) (HM : t.Mem w) :
    Calls Tryz.prog 7 #[.slice A l.length c, t.val] w (RetB w true) := by
  obtain ⟨L, E, hS0⟩ := PSel.ex l t.tm
  have hS := Lib.hid hS0
  have hLl : L.length ≤ 9223372036854775807 := Nat.le_trans (psel_len hS0) hl
  clear hS0
  have HX := BL.one w #[.int .i64 t.k, .int .i64 t.f, .int .i64 t.o, .int .i64 t.v, .slice t.A t.ks.length t.c] 55
  replace HM := HM.ext HX.below
  replace H := H.ext HX.below
  replace hE := hE.ext HX.below
  show Calls _ _ #[.slice A l.length c, .agg #[.int .i64 t.k, .int .i64 t.f, .int .i64 t.o, .int .i64 t.v, .slice t.A t.ks.length t.c]] w _
  go_enter Tryz.func7, Tryz.ntmps7
  go_upto_region 1 with fail
  generalize w.alloc (.cells #[.int .i64 t.k, .int .i64 t.f, .int .i64 t.o, .int .i64 t.v, .slice t.A t.ks.length t.c] 55) = W0 at *
  go_wp2_with fail
  refine (qawake_any W0 hE).mono ?_
  rintro e w1 ⟨rfl, hb⟩
  replace HX := HX.ext hb
  replace hE := hE.ext hb
  replace HM := HM.ext hb
  replace H := H.ext hb
  clear hb
  have hc00 := HX.cell 0 0 rfl rfl
  have hc01 := HX.cell 0 1 rfl rfl
  have hc02 := HX.cell 0 2 rfl rfl
  have hc03 := HX.cell 0 3 rfl rfl
  have hc04 := HX.cell 0 4 rfl rfl
  try simp only [List.getElem_toArray, List.getElem_cons_zero, List.getElem_cons_succ] at hc00 hc01 hc02 hc03 hc04
  by_cases hf : t.tm.size ≤ 60
  · have yf := yes hf
    clear hf
    go_wp2_with fail
    refine (rfew_any (b := true) t w1 HM yf).mono ?_
    rintro e w2 ⟨rfl, hb⟩
    replace HX := HX.ext hb
    replace hE := hE.ext hb
    replace HM := HM.ext hb
    replace H := H.ext hb
    clear hb yf hc00 hc01 hc02 hc03 hc04
    by_cases h100 : l.length ≤ 100
    · have hd : decide ((100 : Int) < (l.length : Int)) = false := decide_eq_false (by omega)
      have hEE : (E != E) = false := by simp
      have hc00 := HX.cell 0 0 rfl rfl
      have hc01 := HX.cell 0 1 rfl rfl
      have hc02 := HX.cell 0 2 rfl rfl
      have hc03 := HX.cell 0 3 rfl rfl
      have hc04 := HX.cell 0 4 rfl rfl
      try simp only [List.getElem_toArray, List.getElem_cons_zero, List.getElem_cons_succ] at hc00 hc01 hc02 hc03 hc04
      go_wp2_with fail
      refine (qselect_any A c l t w2 H hl HM hS).mono ?_
      rintro e w3 ⟨A1, c1, rfl, HI, hb⟩
      replace HX := HX.ext hb
      replace hE := hE.ext hb
      replace HM := HM.ext hb
      replace H := H.ext hb
      clear hb hc00 hc01 hc02 hc03 hc04
      have hc00 := HX.cell 0 0 rfl rfl
      have hc01 := HX.cell 0 1 rfl rfl
      have hc02 := HX.cell 0 2 rfl rfl
      have hc03 := HX.cell 0 3 rfl rfl
      have hc04 := HX.cell 0 4 rfl rfl
      try simp only [List.getElem_toArray, List.getElem_cons_zero, List.getElem_cons_succ] at hc00 hc01 hc02 hc03 hc04
      go_wp2_with fail
      refine (rselect_any A c l t w3 H hl HM hS).mono ?_
      rintro e w4 ⟨A2, c2, rfl, HI2, hb⟩
      replace HX := HX.ext hb
      replace hE := hE.ext hb
      replace HM := HM.ext hb
      replace H := H.ext hb
      replace HI := HI.ext hb
      clear hb hc00 hc01 hc02 hc03 hc04
      go_wp2_with fail
      refine (bints_any (b := true) A1 A2 c1 c2 L L w4 HI HI2 hLl hLl (yes rfl)).mono ?_
      rintro e w6 ⟨rfl, hb⟩
      replace HX := HX.ext hb
      replace hE := hE.ext hb
      replace HM := HM.ext hb
      replace H := H.ext hb
      replace HI := HI.ext hb
      have hb0 := HX.below
      have HX0 : BL w6 w6 [(w.heap.size, #[.int .i64 t.k, .int .i64 t.f, .int .i64 t.o, .int .i64 t.v, .slice t.A t.ks.length t.c], 55)] := ⟨Below.refl _ _, HX.blk⟩
      have HM0 := Lib.hid HM
      have HS0 := Lib.hid H
      have HI0 := Lib.hid HI
      clear hb HI2 HM H HI HX hE
      by_cases hE0 : E = 0
      · subst hE0
        go_wp2
        go_loopg [9] l.length (fun g i wr => ∃ k : Nat, k + g = l.length ∧ i = .int .i64 (k : Int) ∧ BL w6 wr [(w.heap.size, #[.int .i64 t.k, .int .i64 t.f, .int .i64 t.o, .int .i64 t.v, .slice t.A t.ks.length t.c], 55)])
        case atStart => exact ⟨0, by omega, rfl, HX0⟩
        case round =>
          clear HX0
          obtain ⟨k, hk, rfl, HX⟩ := hrel
          have HM := HM0.out.ext HX.below
          have HSx := HS0.out.ext HX.below
          have HI := HI0.out.ext HX.below
          by_cases hk0 : k < l.length
          · have hkI : (k : Int) < (l.length : Int) := by omega
            obtain ⟨x, hx⟩ : ∃ x, Hid (l[k]? = some x) := ⟨_, Lib.hid (List.getElem?_eq_getElem hk0)⟩
            obtain ⟨ad, rfl, _⟩ := HSx.at_ hx.out
            obtain ⟨p, tp⟩ := tells_ex (x.V ∧ t.tm.Ok ∧ Tm.holds x.fld t.tm = true)
            have tq : Tells p (x.id ∈ L) := tp.trans (sel_mem hS.out (List.mem_of_getElem? hx.out))
            go_upto_region 10 with fail
            obtain ⟨wq, rfl⟩ : ∃ V, V = wr := ⟨_, rfl⟩
            cases p with
            | true =>
              refine wp_region_x (al := []) (late := [32]) (dst := fun i => 0) (zt := fun _ => (#[], 0)) (B := wq.heap.size) (n := 32) (r := 1) (by kernel_rfl) (by kernel_rfl) (by decide) ?_ (by kernel_rfl) (by kernel_rfl) (by intro _ _ _ d _ h; cases d <;> exact h) (sz := 33) (by rfl) (by rfl) (Nat.le_refl _) ?_
              · intro i hi; cases hi
              have hE : Ext wq wq.drew := drew_ext wq
              replace HX := HX.ext hE
              replace HM := HM.ext hE
              replace HSx := HSx.ext hE
              replace HI := HI.ext hE
              clear hE
              refine wpX_take (i := 0) (v := ?_) (by simp only [List.getElem?_toArray, List.getElem?_cons_zero]; rfl) (by kernel_rfl) (by kernel_rfl) (by kernel_rfl) (by exact fun _ _ _ h => h) (Or.inl ⟨by rfl, fun W hW => ?_⟩) ?_
              rotate_left
              · go_simp <;> (try with_reducible rfl)
              try simp only [Act.put, List.setIfInBounds_toArray, List.set_cons_zero, List.set_cons_succ]
              refine wpX_take (i := 1) (v := ?_) (by simp only [List.getElem?_toArray, List.getElem?_cons_succ, List.getElem?_cons_zero]; rfl) (by kernel_rfl) (by kernel_rfl) (by kernel_rfl) (by exact fun _ _ _ h => h) (Or.inl ⟨by rfl, fun W hW => ?_⟩) ?_
              rotate_left
              · go_simp <;> (try with_reducible rfl)
              try simp only [Act.put, List.setIfInBounds_toArray, List.set_cons_zero, List.set_cons_succ]
              refine wpX_take (i := 2) (v := ?_) (by simp only [List.getElem?_toArray, List.getElem?_cons_succ, List.getElem?_cons_zero]; rfl) (by kernel_rfl) (by kernel_rfl) (by kernel_rfl) (by exact fun _ _ _ h => h) (Or.inl ⟨by rfl, fun W hW => ?_⟩) ?_
              rotate_left
              · go_simp <;> (try with_reducible rfl)
              try simp only [Act.put, List.setIfInBounds_toArray, List.set_cons_zero, List.set_cons_succ]
              refine wpX_take (i := 3) (v := ?_) (by simp only [List.getElem?_toArray, List.getElem?_cons_succ, List.getElem?_cons_zero]; rfl) (by kernel_rfl) (by kernel_rfl) (by kernel_rfl) (by exact fun _ _ _ h => h) (Or.inl ⟨by rfl, fun W hW => ?_⟩) ?_
              rotate_left
              · have HZ := HSx.ext hW
                obtain ⟨ad2, hade, hbk, c0, c1, c2, c3, c4, c5, c6⟩ := HZ.at_ hx.out
                obtain rfl := Option.some.inj hade
                go_simp <;> (try with_reducible rfl)
              try simp only [Act.put, List.setIfInBounds_toArray, List.set_cons_zero, List.set_cons_succ]
              refine wpX_take (i := 4) (v := ?_) (by simp only [List.getElem?_toArray, List.getElem?_cons_succ, List.getElem?_cons_zero]; rfl) (by kernel_rfl) (by kernel_rfl) (by kernel_rfl) (by exact fun _ _ _ h => h) (Or.inl ⟨by rfl, fun W hW => ?_⟩) ?_
              rotate_left
              · have h0 := (HX.ext hW).cell 0 0 rfl rfl
                have h1 := (HX.ext hW).cell 0 1 rfl rfl
                have h2 := (HX.ext hW).cell 0 2 rfl rfl
                have h3 := (HX.ext hW).cell 0 3 rfl rfl
                have h4 := (HX.ext hW).cell 0 4 rfl rfl
                simp only [List.getElem_toArray, List.getElem_cons_zero, List.getElem_cons_succ] at h0 h1 h2 h3 h4
                go_simp <;> (try with_reducible rfl)
              try simp only [Act.put, List.setIfInBounds_toArray, List.set_cons_zero, List.set_cons_succ]
              refine wpX_take (i := 6) (v := ?_) (by simp only [List.getElem?_toArray, List.getElem?_cons_succ, List.getElem?_cons_zero]; rfl) (by kernel_rfl) (by kernel_rfl) (by kernel_rfl) (by exact fun _ _ _ h => h) (Or.inl ⟨by rfl, fun W hW => ?_⟩) ?_
              rotate_left
              · go_simp <;> (try with_reducible rfl)
              try simp only [Act.put, List.setIfInBounds_toArray, List.set_cons_zero, List.set_cons_succ]
              refine wpX_take (i := 7) (v := ?_) (by simp only [List.getElem?_toArray, List.getElem?_cons_succ, List.getElem?_cons_zero]; rfl) (by kernel_rfl) (by kernel_rfl) (by kernel_rfl) (by exact fun _ _ _ h => h) (Or.inl ⟨by rfl, fun W hW => ?_⟩) ?_
              rotate_left
              · go_simp <;> (try with_reducible rfl)
              try simp only [Act.put, List.setIfInBounds_toArray, List.set_cons_zero, List.set_cons_succ]
              refine wpX_take (i := 8) (v := ?_) (by simp only [List.getElem?_toArray, List.getElem?_cons_succ, List.getElem?_cons_zero]; rfl) (by kernel_rfl) (by kernel_rfl) (by kernel_rfl) (by exact fun _ _ _ h => h) (Or.inl ⟨by rfl, fun W hW => ?_⟩) ?_
              rotate_left
              · go_simp <;> (try with_reducible rfl)
              try simp only [Act.put, List.setIfInBounds_toArray, List.set_cons_zero, List.set_cons_succ]
              refine wpX_take (i := 9) (v := ?_) (by simp only [List.getElem?_toArray, List.getElem?_cons_succ, List.getElem?_cons_zero]; rfl) (by kernel_rfl) (by kernel_rfl) (by kernel_rfl) (by exact fun _ _ _ h => h) (Or.inl ⟨by rfl, fun W hW => ?_⟩) ?_
              rotate_left
              · have HZ := HSx.ext hW
                obtain ⟨ad2, hade, hbk, c0, c1, c2, c3, c4, c5, c6⟩ := HZ.at_ hx.out
                obtain rfl := Option.some.inj hade
                go_simp <;> (try with_reducible rfl)
              try simp only [Act.put, List.setIfInBounds_toArray, List.set_cons_zero, List.set_cons_succ]
              refine wpX_take (i := 10) (v := ?_) (by simp only [List.getElem?_toArray, List.getElem?_cons_succ, List.getElem?_cons_zero]; rfl) (by kernel_rfl) (by kernel_rfl) (by kernel_rfl) (by exact fun _ _ _ h => h) (Or.inl ⟨by rfl, fun W hW => ?_⟩) ?_
              rotate_left
              · have h0 := (HX.ext hW).cell 0 0 rfl rfl
                have h1 := (HX.ext hW).cell 0 1 rfl rfl
                have h2 := (HX.ext hW).cell 0 2 rfl rfl
                have h3 := (HX.ext hW).cell 0 3 rfl rfl
                have h4 := (HX.ext hW).cell 0 4 rfl rfl
                simp only [List.getElem_toArray, List.getElem_cons_zero, List.getElem_cons_succ] at h0 h1 h2 h3 h4
                go_simp <;> (try with_reducible rfl)
              try simp only [Act.put, List.setIfInBounds_toArray, List.set_cons_zero, List.set_cons_succ]
              refine wpX_step (i := 5) (by kernel_rfl) (by simp only [List.getElem?_toArray, List.getElem?_cons_succ, List.getElem?_cons_zero]; rfl) (fun W1 K hE hK => ?_)
              replace HX := HX.ext hE
              replace HM := HM.ext hE
              replace HSx := HSx.ext hE
              replace HI := HI.ext hE
              clear hE
              go_simp
              refine (qhas_any (b := true) x t _ HM tp).mono ?_
              rintro e W2 ⟨rfl, hb⟩
              go_wp2_with fail
              refine hK.out _ _ hb ?_
              clear hK K
              replace HX := HX.ext hb
              replace HM := HM.ext hb
              replace HSx := HSx.ext hb
              replace HI := HI.ext hb
              clear hb
              try simp only [Act.put, List.setIfInBounds_toArray, List.set_cons_zero, List.set_cons_succ]
              skip
              refine wpX_step (i := 11) (by kernel_rfl) (by simp only [List.getElem?_toArray, List.getElem?_cons_succ, List.getElem?_cons_zero]; rfl) (fun W1 K hE hK => ?_)
              replace HX := HX.ext hE
              replace HM := HM.ext hE
              replace HSx := HSx.ext hE
              replace HI := HI.ext hE
              clear hE
              go_simp
              refine (rhas50_any (b := true) x t _ HM tp).mono ?_
              rintro e W2 ⟨rfl, hb⟩
              go_wp2_with fail
              refine hK.out _ _ hb ?_
              clear hK K
              replace HX := HX.ext hb
              replace HM := HM.ext hb
              replace HSx := HSx.ext hb
              replace HI := HI.ext hb
              clear hb
              try simp only [Act.put, List.setIfInBounds_toArray, List.set_cons_zero, List.set_cons_succ]
              skip
              refine wpX_take (i := 12) (v := ?_) (by simp only [List.getElem?_toArray, List.getElem?_cons_succ, List.getElem?_cons_zero]; rfl) (by kernel_rfl) (by kernel_rfl) (by kernel_rfl) (by exact fun _ _ _ h => h) (Or.inl ⟨by rfl, fun W hW => ?_⟩) ?_
              rotate_left
              · go_simp <;> (try with_reducible rfl)
              try simp only [Act.put, List.setIfInBounds_toArray, List.set_cons_zero, List.set_cons_succ]
              refine wpX_take (i := 13) (v := ?_) (by simp only [List.getElem?_toArray, List.getElem?_cons_succ, List.getElem?_cons_zero]; rfl) (by kernel_rfl) (by kernel_rfl) (by kernel_rfl) (by exact fun _ _ _ h => h) (Or.inl ⟨by rfl, fun W hW => ?_⟩) ?_
              rotate_left
              · go_simp <;> (try with_reducible rfl)
              try simp only [Act.put, List.setIfInBounds_toArray, List.set_cons_zero, List.set_cons_succ]
              refine wpX_take (i := 14) (v := ?_) (by simp only [List.getElem?_toArray, List.getElem?_cons_succ, List.getElem?_cons_zero]; rfl) (by kernel_rfl) (by kernel_rfl) (by kernel_rfl) (by exact fun _ _ _ h => h) (Or.inl ⟨by rfl, fun W hW => ?_⟩) ?_
              rotate_left
              · go_simp <;> (try with_reducible rfl)
              try simp only [Act.put, List.setIfInBounds_toArray, List.set_cons_zero, List.set_cons_succ]
              refine wpX_take (i := 15) (v := ?_) (by simp only [List.getElem?_toArray, List.getElem?_cons_succ, List.getElem?_cons_zero]; rfl) (by kernel_rfl) (by kernel_rfl) (by kernel_rfl) (by exact fun _ _ _ h => h) (Or.inl ⟨by rfl, fun W hW => ?_⟩) ?_
              rotate_left
              · go_simp <;> (try with_reducible rfl)
              try simp only [Act.put, List.setIfInBounds_toArray, List.set_cons_zero, List.set_cons_succ]
              refine wpX_take (i := 16) (v := ?_) (by simp only [List.getElem?_toArray, List.getElem?_cons_succ, List.getElem?_cons_zero]; rfl) (by kernel_rfl) (by kernel_rfl) (by kernel_rfl) (by exact fun _ _ _ h => h) (Or.inl ⟨by rfl, fun W hW => ?_⟩) ?_
              rotate_left
              · go_simp <;> (try with_reducible rfl)
              try simp only [Act.put, List.setIfInBounds_toArray, List.set_cons_zero, List.set_cons_succ]
              refine wpX_take (i := 17) (v := ?_) (by simp only [List.getElem?_toArray, List.getElem?_cons_succ, List.getElem?_cons_zero]; rfl) (by kernel_rfl) (by kernel_rfl) (by kernel_rfl) (by exact fun _ _ _ h => h) (Or.inl ⟨by rfl, fun W hW => ?_⟩) ?_
              rotate_left
              · go_simp <;> (try with_reducible rfl)
              try simp only [Act.put, List.setIfInBounds_toArray, List.set_cons_zero, List.set_cons_succ]
              refine wpX_take (i := 18) (v := ?_) (by simp only [List.getElem?_toArray, List.getElem?_cons_succ, List.getElem?_cons_zero]; rfl) (by kernel_rfl) (by kernel_rfl) (by kernel_rfl) (by exact fun _ _ _ h => h) (Or.inl ⟨by rfl, fun W hW => ?_⟩) ?_
              rotate_left
              · go_simp <;> (try with_reducible rfl)
              try simp only [Act.put, List.setIfInBounds_toArray, List.set_cons_zero, List.set_cons_succ]
              refine wpX_take (i := 19) (v := ?_) (by simp only [List.getElem?_toArray, List.getElem?_cons_succ, List.getElem?_cons_zero]; rfl) (by kernel_rfl) (by kernel_rfl) (by kernel_rfl) (by exact fun _ _ _ h => h) (Or.inl ⟨by rfl, fun W hW => ?_⟩) ?_
              rotate_left
              · go_simp <;> (try with_reducible rfl)
              try simp only [Act.put, List.setIfInBounds_toArray, List.set_cons_zero, List.set_cons_succ]
              refine wpX_take (i := 20) (v := ?_) (by simp only [List.getElem?_toArray, List.getElem?_cons_succ, List.getElem?_cons_zero]; rfl) (by kernel_rfl) (by kernel_rfl) (by kernel_rfl) (by exact fun _ _ _ h => h) (Or.inl ⟨by rfl, fun W hW => ?_⟩) ?_
              rotate_left
              · go_simp <;> (try with_reducible rfl)
              try simp only [Act.put, List.setIfInBounds_toArray, List.set_cons_zero, List.set_cons_succ]
              refine wpX_take (i := 21) (v := ?_) (by simp only [List.getElem?_toArray, List.getElem?_cons_succ, List.getElem?_cons_zero]; rfl) (by kernel_rfl) (by kernel_rfl) (by kernel_rfl) (by exact fun _ _ _ h => h) (Or.inl ⟨by rfl, fun W hW => ?_⟩) ?_
              rotate_left
              · go_simp <;> (try with_reducible rfl)
              try simp only [Act.put, List.setIfInBounds_toArray, List.set_cons_zero, List.set_cons_succ]
              refine wpX_take (i := 22) (v := ?_) (by simp only [List.getElem?_toArray, List.getElem?_cons_succ, List.getElem?_cons_zero]; rfl) (by kernel_rfl) (by kernel_rfl) (by kernel_rfl) (by exact fun _ _ _ h => h) (Or.inl ⟨by rfl, fun W hW => ?_⟩) ?_
              rotate_left
              · have HZ := HSx.ext hW
                obtain ⟨ad2, hade, hbk, c0, c1, c2, c3, c4, c5, c6⟩ := HZ.at_ hx.out
                obtain rfl := Option.some.inj hade
                go_simp <;> (try with_reducible rfl)
              try simp only [Act.put, List.setIfInBounds_toArray, List.set_cons_zero, List.set_cons_succ]
              refine wpX_take (i := 24) (v := ?_) (by simp only [List.getElem?_toArray, List.getElem?_cons_succ, List.getElem?_cons_zero]; rfl) (by kernel_rfl) (by kernel_rfl) (by kernel_rfl) (by exact fun _ _ _ h => h) (Or.inl ⟨by rfl, fun W hW => ?_⟩) ?_
              rotate_left
              · go_simp <;> (try with_reducible rfl)
              try simp only [Act.put, List.setIfInBounds_toArray, List.set_cons_zero, List.set_cons_succ]
              refine wpX_take (i := 25) (v := ?_) (by simp only [List.getElem?_toArray, List.getElem?_cons_succ, List.getElem?_cons_zero]; rfl) (by kernel_rfl) (by kernel_rfl) (by kernel_rfl) (by exact fun _ _ _ h => h) (Or.inl ⟨by rfl, fun W hW => ?_⟩) ?_
              rotate_left
              · go_simp <;> (try with_reducible rfl)
              try simp only [Act.put, List.setIfInBounds_toArray, List.set_cons_zero, List.set_cons_succ]
              refine wpX_take (i := 26) (v := ?_) (by simp only [List.getElem?_toArray, List.getElem?_cons_succ, List.getElem?_cons_zero]; rfl) (by kernel_rfl) (by kernel_rfl) (by kernel_rfl) (by exact fun _ _ _ h => h) (Or.inl ⟨by rfl, fun W hW => ?_⟩) ?_
              rotate_left
              · go_simp <;> (try with_reducible rfl)
              try simp only [Act.put, List.setIfInBounds_toArray, List.set_cons_zero, List.set_cons_succ]
              refine wpX_take (i := 27) (v := ?_) (by simp only [List.getElem?_toArray, List.getElem?_cons_succ, List.getElem?_cons_zero]; rfl) (by kernel_rfl) (by kernel_rfl) (by kernel_rfl) (by exact fun _ _ _ h => h) (Or.inl ⟨by rfl, fun W hW => ?_⟩) ?_
              rotate_left
              · have HZ := HSx.ext hW
                obtain ⟨ad2, hade, hbk, c0, c1, c2, c3, c4, c5, c6⟩ := HZ.at_ hx.out
                obtain rfl := Option.some.inj hade
                go_simp <;> (try with_reducible rfl)
              try simp only [Act.put, List.setIfInBounds_toArray, List.set_cons_zero, List.set_cons_succ]
              refine wpX_take (i := 28) (v := ?_) (by simp only [List.getElem?_toArray, List.getElem?_cons_succ, List.getElem?_cons_zero]; rfl) (by kernel_rfl) (by kernel_rfl) (by kernel_rfl) (by exact fun _ _ _ h => h) (Or.inl ⟨by rfl, fun W hW => ?_⟩) ?_
              rotate_left
              · have h0 := (HX.ext hW).cell 0 0 rfl rfl
                have h1 := (HX.ext hW).cell 0 1 rfl rfl
                have h2 := (HX.ext hW).cell 0 2 rfl rfl
                have h3 := (HX.ext hW).cell 0 3 rfl rfl
                have h4 := (HX.ext hW).cell 0 4 rfl rfl
                simp only [List.getElem_toArray, List.getElem_cons_zero, List.getElem_cons_succ] at h0 h1 h2 h3 h4
                go_simp <;> (try with_reducible rfl)
              try simp only [Act.put, List.setIfInBounds_toArray, List.set_cons_zero, List.set_cons_succ]
              refine wpX_step (i := 23) (by kernel_rfl) (by simp only [List.getElem?_toArray, List.getElem?_cons_succ, List.getElem?_cons_zero]; rfl) (fun W1 K hE hK => ?_)
              replace HX := HX.ext hE
              replace HM := HM.ext hE
              replace HSx := HSx.ext hE
              replace HI := HI.ext hE
              clear hE
              go_simp
              refine (bhas_any (b := true) A1 c1 L _ HI hLl tq).mono ?_
              rintro e W2 ⟨rfl, hb⟩
              go_wp2_with fail
              refine hK.out _ _ hb ?_
              clear hK K
              replace HX := HX.ext hb
              replace HM := HM.ext hb
              replace HSx := HSx.ext hb
              replace HI := HI.ext hb
              clear hb
              try simp only [Act.put, List.setIfInBounds_toArray, List.set_cons_zero, List.set_cons_succ]
              skip
              refine wpX_step (i := 29) (by kernel_rfl) (by simp only [List.getElem?_toArray, List.getElem?_cons_succ, List.getElem?_cons_zero]; rfl) (fun W1 K hE hK => ?_)
              replace HX := HX.ext hE
              replace HM := HM.ext hE
              replace HSx := HSx.ext hE
              replace HI := HI.ext hE
              clear hE
              go_simp
              refine (rhas50_any (b := true) x t _ HM tp).mono ?_
              rintro e W2 ⟨rfl, hb⟩
              go_wp2_with fail
              refine hK.out _ _ hb ?_
              clear hK K
              replace HX := HX.ext hb
              replace HM := HM.ext hb
              replace HSx := HSx.ext hb
              replace HI := HI.ext hb
              clear hb
              try simp only [Act.put, List.setIfInBounds_toArray, List.set_cons_zero, List.set_cons_succ]
              skip
              refine wpX_take (i := 30) (v := ?_) (by simp only [List.getElem?_toArray, List.getElem?_cons_succ, List.getElem?_cons_zero]; rfl) (by kernel_rfl) (by kernel_rfl) (by kernel_rfl) (by exact fun _ _ _ h => h) (Or.inl ⟨by rfl, fun W hW => ?_⟩) ?_
              rotate_left
              · go_simp <;> (try with_reducible rfl)
              try simp only [Act.put, List.setIfInBounds_toArray, List.set_cons_zero, List.set_cons_succ]
              refine wpX_take (i := 31) (v := ?_) (by simp only [List.getElem?_toArray, List.getElem?_cons_succ, List.getElem?_cons_zero]; rfl) (by kernel_rfl) (by kernel_rfl) (by kernel_rfl) (by exact fun _ _ _ h => h) (Or.inl ⟨by rfl, fun W hW => ?_⟩) ?_
              rotate_left
              · go_simp <;> (try with_reducible rfl)
              try simp only [Act.put, List.setIfInBounds_toArray, List.set_cons_zero, List.set_cons_succ]
              refine wpX_end (by kernel_rfl) (fun wq2 ga m hE hg hm => ?_)
              replace HX := HX.ext hE
              replace HM := HM.ext hE
              replace HSx := HSx.ext hE
              replace HI := HI.ext hE
              clear hE
              clear hg
              simp only [putAll, setAll]
              try clear ga
              refine wpAny_step (i := 32) (by kernel_rfl) (by simp only [List.getElem?_toArray, List.getElem?_cons_succ, List.getElem?_cons_zero]; rfl) (by omega) (fun K hK => ?_)
              go_simp
              refine hK.out _ _ ?_
              clear hK K
              refine wpAny_done (by kernel_rfl) ?_ _
              go_wp2
              go_roundg (l.length - (k + 1))
              case measure => omega
              case rel => exact ⟨k + 1, by omega, by go_num, HX⟩
            | false =>
              refine wp_region_x (al := []) (late := [32]) (dst := fun i => 0) (zt := fun _ => (#[], 0)) (B := wq.heap.size) (n := 32) (r := 1) (by kernel_rfl) (by kernel_rfl) (by decide) ?_ (by kernel_rfl) (by kernel_rfl) (by intro _ _ _ d _ h; cases d <;> exact h) (sz := 33) (by rfl) (by rfl) (Nat.le_refl _) ?_
              · intro i hi; cases hi
              have hE : Ext wq wq.drew := drew_ext wq
              replace HX := HX.ext hE
              replace HM := HM.ext hE
              replace HSx := HSx.ext hE
              replace HI := HI.ext hE
              clear hE
              refine wpX_take (i := 0) (v := ?_) (by simp only [List.getElem?_toArray, List.getElem?_cons_zero]; rfl) (by kernel_rfl) (by kernel_rfl) (by kernel_rfl) (by exact fun _ _ _ h => h) (Or.inl ⟨by rfl, fun W hW => ?_⟩) ?_
              rotate_left
              · go_simp <;> (try with_reducible rfl)
              try simp only [Act.put, List.setIfInBounds_toArray, List.set_cons_zero, List.set_cons_succ]
              refine wpX_take (i := 1) (v := ?_) (by simp only [List.getElem?_toArray, List.getElem?_cons_succ, List.getElem?_cons_zero]; rfl) (by kernel_rfl) (by kernel_rfl) (by kernel_rfl) (by exact fun _ _ _ h => h) (Or.inl ⟨by rfl, fun W hW => ?_⟩) ?_
              rotate_left
              · go_simp <;> (try with_reducible rfl)
              try simp only [Act.put, List.setIfInBounds_toArray, List.set_cons_zero, List.set_cons_succ]
              refine wpX_take (i := 2) (v := ?_) (by simp only [List.getElem?_toArray, List.getElem?_cons_succ, List.getElem?_cons_zero]; rfl) (by kernel_rfl) (by kernel_rfl) (by kernel_rfl) (by exact fun _ _ _ h => h) (Or.inl ⟨by rfl, fun W hW => ?_⟩) ?_
              rotate_left
              · go_simp <;> (try with_reducible rfl)
              try simp only [Act.put, List.setIfInBounds_toArray, List.set_cons_zero, List.set_cons_succ]
              refine wpX_take (i := 3) (v := ?_) (by simp only [List.getElem?_toArray, List.getElem?_cons_succ, List.getElem?_cons_zero]; rfl) (by kernel_rfl) (by kernel_rfl) (by kernel_rfl) (by exact fun _ _ _ h => h) (Or.inl ⟨by rfl, fun W hW => ?_⟩) ?_
              rotate_left
              · have HZ := HSx.ext hW
                obtain ⟨ad2, hade, hbk, c0, c1, c2, c3, c4, c5, c6⟩ := HZ.at_ hx.out
                obtain rfl := Option.some.inj hade
                go_simp <;> (try with_reducible rfl)
              try simp only [Act.put, List.setIfInBounds_toArray, List.set_cons_zero, List.set_cons_succ]
              refine wpX_take (i := 4) (v := ?_) (by simp only [List.getElem?_toArray, List.getElem?_cons_succ, List.getElem?_cons_zero]; rfl) (by kernel_rfl) (by kernel_rfl) (by kernel_rfl) (by exact fun _ _ _ h => h) (Or.inl ⟨by rfl, fun W hW => ?_⟩) ?_
              rotate_left
              · have h0 := (HX.ext hW).cell 0 0 rfl rfl
                have h1 := (HX.ext hW).cell 0 1 rfl rfl
                have h2 := (HX.ext hW).cell 0 2 rfl rfl
                have h3 := (HX.ext hW).cell 0 3 rfl rfl
                have h4 := (HX.ext hW).cell 0 4 rfl rfl
                simp only [List.getElem_toArray, List.getElem_cons_zero, List.getElem_cons_succ] at h0 h1 h2 h3 h4
                go_simp <;> (try with_reducible rfl)
              try simp only [Act.put, List.setIfInBounds_toArray, List.set_cons_zero, List.set_cons_succ]
              refine wpX_take (i := 6) (v := ?_) (by simp only [List.getElem?_toArray, List.getElem?_cons_succ, List.getElem?_cons_zero]; rfl) (by kernel_rfl) (by kernel_rfl) (by kernel_rfl) (by exact fun _ _ _ h => h) (Or.inl ⟨by rfl, fun W hW => ?_⟩) ?_
              rotate_left
              · go_simp <;> (try with_reducible rfl)
              try simp only [Act.put, List.setIfInBounds_toArray, List.set_cons_zero, List.set_cons_succ]
              refine wpX_take (i := 7) (v := ?_) (by simp only [List.getElem?_toArray, List.getElem?_cons_succ, List.getElem?_cons_zero]; rfl) (by kernel_rfl) (by kernel_rfl) (by kernel_rfl) (by exact fun _ _ _ h => h) (Or.inl ⟨by rfl, fun W hW => ?_⟩) ?_
              rotate_left
              · go_simp <;> (try with_reducible rfl)
              try simp only [Act.put, List.setIfInBounds_toArray, List.set_cons_zero, List.set_cons_succ]
              refine wpX_take (i := 8) (v := ?_) (by simp only [List.getElem?_toArray, List.getElem?_cons_succ, List.getElem?_cons_zero]; rfl) (by kernel_rfl) (by kernel_rfl) (by kernel_rfl) (by exact fun _ _ _ h => h) (Or.inl ⟨by rfl, fun W hW => ?_⟩) ?_
              rotate_left
              · go_simp <;> (try with_reducible rfl)
              try simp only [Act.put, List.setIfInBounds_toArray, List.set_cons_zero, List.set_cons_succ]
              refine wpX_take (i := 9) (v := ?_) (by simp only [List.getElem?_toArray, List.getElem?_cons_succ, List.getElem?_cons_zero]; rfl) (by kernel_rfl) (by kernel_rfl) (by kernel_rfl) (by exact fun _ _ _ h => h) (Or.inl ⟨by rfl, fun W hW => ?_⟩) ?_
              rotate_left
              · have HZ := HSx.ext hW
                obtain ⟨ad2, hade, hbk, c0, c1, c2, c3, c4, c5, c6⟩ := HZ.at_ hx.out
                obtain rfl := Option.some.inj hade
                go_simp <;> (try with_reducible rfl)
              try simp only [Act.put, List.setIfInBounds_toArray, List.set_cons_zero, List.set_cons_succ]
              refine wpX_take (i := 10) (v := ?_) (by simp only [List.getElem?_toArray, List.getElem?_cons_succ, List.getElem?_cons_zero]; rfl) (by kernel_rfl) (by kernel_rfl) (by kernel_rfl) (by exact fun _ _ _ h => h) (Or.inl ⟨by rfl, fun W hW => ?_⟩) ?_
              rotate_left
              · have h0 := (HX.ext hW).cell 0 0 rfl rfl
                have h1 := (HX.ext hW).cell 0 1 rfl rfl
                have h2 := (HX.ext hW).cell 0 2 rfl rfl
                have h3 := (HX.ext hW).cell 0 3 rfl rfl
                have h4 := (HX.ext hW).cell 0 4 rfl rfl
                simp only [List.getElem_toArray, List.getElem_cons_zero, List.getElem_cons_succ] at h0 h1 h2 h3 h4
                go_simp <;> (try with_reducible rfl)
              try simp only [Act.put, List.setIfInBounds_toArray, List.set_cons_zero, List.set_cons_succ]
              refine wpX_step (i := 5) (by kernel_rfl) (by simp only [List.getElem?_toArray, List.getElem?_cons_succ, List.getElem?_cons_zero]; rfl) (fun W1 K hE hK => ?_)
              replace HX := HX.ext hE
              replace HM := HM.ext hE
              replace HSx := HSx.ext hE
              replace HI := HI.ext hE
              clear hE
              go_simp
              refine (qhas_any (b := false) x t _ HM tp).mono ?_
              rintro e W2 ⟨rfl, hb⟩
              go_wp2_with fail
              refine hK.out _ _ hb ?_
              clear hK K
              replace HX := HX.ext hb
              replace HM := HM.ext hb
              replace HSx := HSx.ext hb
              replace HI := HI.ext hb
              clear hb
              try simp only [Act.put, List.setIfInBounds_toArray, List.set_cons_zero, List.set_cons_succ]
              skip
              refine wpX_step (i := 11) (by kernel_rfl) (by simp only [List.getElem?_toArray, List.getElem?_cons_succ, List.getElem?_cons_zero]; rfl) (fun W1 K hE hK => ?_)
              replace HX := HX.ext hE
              replace HM := HM.ext hE
              replace HSx := HSx.ext hE
              replace HI := HI.ext hE
              clear hE
              go_simp
              refine (rhas50_any (b := false) x t _ HM tp).mono ?_
              rintro e W2 ⟨rfl, hb⟩
              go_wp2_with fail
              refine hK.out _ _ hb ?_
              clear hK K
              replace HX := HX.ext hb
              replace HM := HM.ext hb
              replace HSx := HSx.ext hb
              replace HI := HI.ext hb
              clear hb
              try simp only [Act.put, List.setIfInBounds_toArray, List.set_cons_zero, List.set_cons_succ]
              skip
              refine wpX_take (i := 12) (v := ?_) (by simp only [List.getElem?_toArray, List.getElem?_cons_succ, List.getElem?_cons_zero]; rfl) (by kernel_rfl) (by kernel_rfl) (by kernel_rfl) (by exact fun _ _ _ h => h) (Or.inl ⟨by rfl, fun W hW => ?_⟩) ?_
              rotate_left
              · go_simp <;> (try with_reducible rfl)
              try simp only [Act.put, List.setIfInBounds_toArray, List.set_cons_zero, List.set_cons_succ]
              refine wpX_take (i := 13) (v := ?_) (by simp only [List.getElem?_toArray, List.getElem?_cons_succ, List.getElem?_cons_zero]; rfl) (by kernel_rfl) (by kernel_rfl) (by kernel_rfl) (by exact fun _ _ _ h => h) (Or.inl ⟨by rfl, fun W hW => ?_⟩) ?_
              rotate_left
              · go_simp <;> (try with_reducible rfl)
              try simp only [Act.put, List.setIfInBounds_toArray, List.set_cons_zero, List.set_cons_succ]
              refine wpX_take (i := 14) (v := ?_) (by simp only [List.getElem?_toArray, List.getElem?_cons_succ, List.getElem?_cons_zero]; rfl) (by kernel_rfl) (by kernel_rfl) (by kernel_rfl) (by exact fun _ _ _ h => h) (Or.inl ⟨by rfl, fun W hW => ?_⟩) ?_
              rotate_left
              · go_simp <;> (try with_reducible rfl)
              try simp only [Act.put, List.setIfInBounds_toArray, List.set_cons_zero, List.set_cons_succ]
              refine wpX_take (i := 15) (v := ?_) (by simp only [List.getElem?_toArray, List.getElem?_cons_succ, List.getElem?_cons_zero]; rfl) (by kernel_rfl) (by kernel_rfl) (by kernel_rfl) (by exact fun _ _ _ h => h) (Or.inl ⟨by rfl, fun W hW => ?_⟩) ?_
              rotate_left
              · go_simp <;> (try with_reducible rfl)
              try simp only [Act.put, List.setIfInBounds_toArray, List.set_cons_zero, List.set_cons_succ]
              refine wpX_take (i := 16) (v := ?_) (by simp only [List.getElem?_toArray, List.getElem?_cons_succ, List.getElem?_cons_zero]; rfl) (by kernel_rfl) (by kernel_rfl) (by kernel_rfl) (by exact fun _ _ _ h => h) (Or.inl ⟨by rfl, fun W hW => ?_⟩) ?_
              rotate_left
              · go_simp <;> (try with_reducible rfl)
              try simp only [Act.put, List.setIfInBounds_toArray, List.set_cons_zero, List.set_cons_succ]
              refine wpX_take (i := 17) (v := ?_) (by simp only [List.getElem?_toArray, List.getElem?_cons_succ, List.getElem?_cons_zero]; rfl) (by kernel_rfl) (by kernel_rfl) (by kernel_rfl) (by exact fun _ _ _ h => h) (Or.inl ⟨by rfl, fun W hW => ?_⟩) ?_
              rotate_left
              · go_simp <;> (try with_reducible rfl)
              try simp only [Act.put, List.setIfInBounds_toArray, List.set_cons_zero, List.set_cons_succ]
              refine wpX_take (i := 18) (v := ?_) (by simp only [List.getElem?_toArray, List.getElem?_cons_succ, List.getElem?_cons_zero]; rfl) (by kernel_rfl) (by kernel_rfl) (by kernel_rfl) (by exact fun _ _ _ h => h) (Or.inl ⟨by rfl, fun W hW => ?_⟩) ?_
              rotate_left
              · go_simp <;> (try with_reducible rfl)
              try simp only [Act.put, List.setIfInBounds_toArray, List.set_cons_zero, List.set_cons_succ]
              refine wpX_take (i := 19) (v := ?_) (by simp only [List.getElem?_toArray, List.getElem?_cons_succ, List.getElem?_cons_zero]; rfl) (by kernel_rfl) (by kernel_rfl) (by kernel_rfl) (by exact fun _ _ _ h => h) (Or.inl ⟨by rfl, fun W hW => ?_⟩) ?_
              rotate_left
              · go_simp <;> (try with_reducible rfl)
              try simp only [Act.put, List.setIfInBounds_toArray, List.set_cons_zero, List.set_cons_succ]
              refine wpX_take (i := 20) (v := ?_) (by simp only [List.getElem?_toArray, List.getElem?_cons_succ, List.getElem?_cons_zero]; rfl) (by kernel_rfl) (by kernel_rfl) (by kernel_rfl) (by exact fun _ _ _ h => h) (Or.inl ⟨by rfl, fun W hW => ?_⟩) ?_
              rotate_left
              · go_simp <;> (try with_reducible rfl)
              try simp only [Act.put, List.setIfInBounds_toArray, List.set_cons_zero, List.set_cons_succ]
              refine wpX_take (i := 21) (v := ?_) (by simp only [List.getElem?_toArray, List.getElem?_cons_succ, List.getElem?_cons_zero]; rfl) (by kernel_rfl) (by kernel_rfl) (by kernel_rfl) (by exact fun _ _ _ h => h) (Or.inl ⟨by rfl, fun W hW => ?_⟩) ?_
              rotate_left
              · go_simp <;> (try with_reducible rfl)
              try simp only [Act.put, List.setIfInBounds_toArray, List.set_cons_zero, List.set_cons_succ]
              refine wpX_take (i := 22) (v := ?_) (by simp only [List.getElem?_toArray, List.getElem?_cons_succ, List.getElem?_cons_zero]; rfl) (by kernel_rfl) (by kernel_rfl) (by kernel_rfl) (by exact fun _ _ _ h => h) (Or.inl ⟨by rfl, fun W hW => ?_⟩) ?_
              rotate_left
              · have HZ := HSx.ext hW
                obtain ⟨ad2, hade, hbk, c0, c1, c2, c3, c4, c5, c6⟩ := HZ.at_ hx.out
                obtain rfl := Option.some.inj hade
                go_simp <;> (try with_reducible rfl)
              try simp only [Act.put, List.setIfInBounds_toArray, List.set_cons_zero, List.set_cons_succ]
              refine wpX_take (i := 24) (v := ?_) (by simp only [List.getElem?_toArray, List.getElem?_cons_succ, List.getElem?_cons_zero]; rfl) (by kernel_rfl) (by kernel_rfl) (by kernel_rfl) (by exact fun _ _ _ h => h) (Or.inl ⟨by rfl, fun W hW => ?_⟩) ?_
              rotate_left
              · go_simp <;> (try with_reducible rfl)
              try simp only [Act.put, List.setIfInBounds_toArray, List.set_cons_zero, List.set_cons_succ]
              refine wpX_take (i := 25) (v := ?_) (by simp only [List.getElem?_toArray, List.getElem?_cons_succ, List.getElem?_cons_zero]; rfl) (by kernel_rfl) (by kernel_rfl) (by kernel_rfl) (by exact fun _ _ _ h => h) (Or.inl ⟨by rfl, fun W hW => ?_⟩) ?_
              rotate_left
              · go_simp <;> (try with_reducible rfl)
              try simp only [Act.put, List.setIfInBounds_toArray, List.set_cons_zero, List.set_cons_succ]
              refine wpX_take (i := 26) (v := ?_) (by simp only [List.getElem?_toArray, List.getElem?_cons_succ, List.getElem?_cons_zero]; rfl) (by kernel_rfl) (by kernel_rfl) (by kernel_rfl) (by exact fun _ _ _ h => h) (Or.inl ⟨by rfl, fun W hW => ?_⟩) ?_
              rotate_left
              · go_simp <;> (try with_reducible rfl)
              try simp only [Act.put, List.setIfInBounds_toArray, List.set_cons_zero, List.set_cons_succ]
              refine wpX_take (i := 27) (v := ?_) (by simp only [List.getElem?_toArray, List.getElem?_cons_succ, List.getElem?_cons_zero]; rfl) (by kernel_rfl) (by kernel_rfl) (by kernel_rfl) (by exact fun _ _ _ h => h) (Or.inl ⟨by rfl, fun W hW => ?_⟩) ?_
              rotate_left
              · have HZ := HSx.ext hW
                obtain ⟨ad2, hade, hbk, c0, c1, c2, c3, c4, c5, c6⟩ := HZ.at_ hx.out
                obtain rfl := Option.some.inj hade
                go_simp <;> (try with_reducible rfl)
              try simp only [Act.put, List.setIfInBounds_toArray, List.set_cons_zero, List.set_cons_succ]
              refine wpX_take (i := 28) (v := ?_) (by simp only [List.getElem?_toArray, List.getElem?_cons_succ, List.getElem?_cons_zero]; rfl) (by kernel_rfl) (by kernel_rfl) (by kernel_rfl) (by exact fun _ _ _ h => h) (Or.inl ⟨by rfl, fun W hW => ?_⟩) ?_
              rotate_left
              · have h0 := (HX.ext hW).cell 0 0 rfl rfl
                have h1 := (HX.ext hW).cell 0 1 rfl rfl
                have h2 := (HX.ext hW).cell 0 2 rfl rfl
                have h3 := (HX.ext hW).cell 0 3 rfl rfl
                have h4 := (HX.ext hW).cell 0 4 rfl rfl
                simp only [List.getElem_toArray, List.getElem_cons_zero, List.getElem_cons_succ] at h0 h1 h2 h3 h4
                go_simp <;> (try with_reducible rfl)
              try simp only [Act.put, List.setIfInBounds_toArray, List.set_cons_zero, List.set_cons_succ]
              refine wpX_step (i := 23) (by kernel_rfl) (by simp only [List.getElem?_toArray, List.getElem?_cons_succ, List.getElem?_cons_zero]; rfl) (fun W1 K hE hK => ?_)
              replace HX := HX.ext hE
              replace HM := HM.ext hE
              replace HSx := HSx.ext hE
              replace HI := HI.ext hE
              clear hE
              go_simp
              refine (bhas_any (b := false) A1 c1 L _ HI hLl tq).mono ?_
              rintro e W2 ⟨rfl, hb⟩
              go_wp2_with fail
              refine hK.out _ _ hb ?_
              clear hK K
              replace HX := HX.ext hb
              replace HM := HM.ext hb
              replace HSx := HSx.ext hb
              replace HI := HI.ext hb
              clear hb
              try simp only [Act.put, List.setIfInBounds_toArray, List.set_cons_zero, List.set_cons_succ]
              skip
              refine wpX_step (i := 29) (by kernel_rfl) (by simp only [List.getElem?_toArray, List.getElem?_cons_succ, List.getElem?_cons_zero]; rfl) (fun W1 K hE hK => ?_)
              replace HX := HX.ext hE
              replace HM := HM.ext hE
              replace HSx := HSx.ext hE
              replace HI := HI.ext hE
              clear hE
              go_simp
              refine (rhas50_any (b := false) x t _ HM tp).mono ?_
              rintro e W2 ⟨rfl, hb⟩
              go_wp2_with fail
              refine hK.out _ _ hb ?_
              clear hK K
              replace HX := HX.ext hb
              replace HM := HM.ext hb
              replace HSx := HSx.ext hb
              replace HI := HI.ext hb
              clear hb
              try simp only [Act.put, List.setIfInBounds_toArray, List.set_cons_zero, List.set_cons_succ]
              skip
              refine wpX_take (i := 30) (v := ?_) (by simp only [List.getElem?_toArray, List.getElem?_cons_succ, List.getElem?_cons_zero]; rfl) (by kernel_rfl) (by kernel_rfl) (by kernel_rfl) (by exact fun _ _ _ h => h) (Or.inl ⟨by rfl, fun W hW => ?_⟩) ?_
              rotate_left
              · go_simp <;> (try with_reducible rfl)
              try simp only [Act.put, List.setIfInBounds_toArray, List.set_cons_zero, List.set_cons_succ]
              refine wpX_take (i := 31) (v := ?_) (by simp only [List.getElem?_toArray, List.getElem?_cons_succ, List.getElem?_cons_zero]; rfl) (by kernel_rfl) (by kernel_rfl) (by kernel_rfl) (by exact fun _ _ _ h => h) (Or.inl ⟨by rfl, fun W hW => ?_⟩) ?_
              rotate_left
              · go_simp <;> (try with_reducible rfl)
              try simp only [Act.put, List.setIfInBounds_toArray, List.set_cons_zero, List.set_cons_succ]
              refine wpX_end (by kernel_rfl) (fun wq2 ga m hE hg hm => ?_)
              replace HX := HX.ext hE
              replace HM := HM.ext hE
              replace HSx := HSx.ext hE
              replace HI := HI.ext hE
              clear hE
              clear hg
              simp only [putAll, setAll]
              try clear ga
              refine wpAny_step (i := 32) (by kernel_rfl) (by simp only [List.getElem?_toArray, List.getElem?_cons_succ, List.getElem?_cons_zero]; rfl) (by omega) (fun K hK => ?_)
              go_simp
              refine hK.out _ _ ?_
              clear hK K
              refine wpAny_done (by kernel_rfl) ?_ _
              go_wp2
              go_roundg (l.length - (k + 1))
              case measure => omega
              case rel => exact ⟨k + 1, by omega, by go_num, HX⟩
          · go_wp2
            go_ret
            exact ⟨rfl, bel_trans hb0 HX.below⟩
      · have he0 : (E == 0) = false := beq_eq_false_iff_ne.2 hE0
        clear hE0
        go_wp2
        go_loopg [9] l.length (fun g i wr => ∃ k : Nat, k + g = l.length ∧ i = .int .i64 (k : Int) ∧ BL w6 wr [(w.heap.size, #[.int .i64 t.k, .int .i64 t.f, .int .i64 t.o, .int .i64 t.v, .slice t.A t.ks.length t.c], 55)])
        case atStart => exact ⟨0, by omega, rfl, HX0⟩
        case round =>
          clear HX0
          obtain ⟨k, hk, rfl, HX⟩ := hrel
          have HM := HM0.out.ext HX.below
          have HSx := HS0.out.ext HX.below
          have HI := HI0.out.ext HX.below
          by_cases hk0 : k < l.length
          · have hkI : (k : Int) < (l.length : Int) := by omega
            obtain ⟨x, hx⟩ : ∃ x, Hid (l[k]? = some x) := ⟨_, Lib.hid (List.getElem?_eq_getElem hk0)⟩
            obtain ⟨ad, rfl, _⟩ := HSx.at_ hx.out
            obtain ⟨p, tp⟩ := tells_ex (x.V ∧ t.tm.Ok ∧ Tm.holds x.fld t.tm = true)
            skip
            go_upto_region 10 with fail
            obtain ⟨wq, rfl⟩ : ∃ V, V = wr := ⟨_, rfl⟩
            cases p with
            | true =>
              refine wp_region_x (al := []) (late := [32]) (dst := fun i => 0) (zt := fun _ => (#[], 0)) (B := wq.heap.size) (n := 32) (r := 1) (by kernel_rfl) (by kernel_rfl) (by decide) ?_ (by kernel_rfl) (by kernel_rfl) (by intro _ _ _ d _ h; cases d <;> exact h) (sz := 33) (by rfl) (by rfl) (Nat.le_refl _) ?_
              · intro i hi; cases hi
              have hE : Ext wq wq.drew := drew_ext wq
              replace HX := HX.ext hE
              replace HM := HM.ext hE
              replace HSx := HSx.ext hE
              replace HI := HI.ext hE
              clear hE
              refine wpX_take (i := 0) (v := ?_) (by simp only [List.getElem?_toArray, List.getElem?_cons_zero]; rfl) (by kernel_rfl) (by kernel_rfl) (by kernel_rfl) (by exact fun _ _ _ h => h) (Or.inl ⟨by rfl, fun W hW => ?_⟩) ?_
              rotate_left
              · go_simp <;> (try with_reducible rfl)
              try simp only [Act.put, List.setIfInBounds_toArray, List.set_cons_zero, List.set_cons_succ]
              refine wpX_take (i := 1) (v := ?_) (by simp only [List.getElem?_toArray, List.getElem?_cons_succ, List.getElem?_cons_zero]; rfl) (by kernel_rfl) (by kernel_rfl) (by kernel_rfl) (by exact fun _ _ _ h => h) (Or.inl ⟨by rfl, fun W hW => ?_⟩) ?_
              rotate_left
              · go_simp <;> (try with_reducible rfl)
              try simp only [Act.put, List.setIfInBounds_toArray, List.set_cons_zero, List.set_cons_succ]
              refine wpX_take (i := 2) (v := ?_) (by simp only [List.getElem?_toArray, List.getElem?_cons_succ, List.getElem?_cons_zero]; rfl) (by kernel_rfl) (by kernel_rfl) (by kernel_rfl) (by exact fun _ _ _ h => h) (Or.inl ⟨by rfl, fun W hW => ?_⟩) ?_
              rotate_left
              · go_simp <;> (try with_reducible rfl)
              try simp only [Act.put, List.setIfInBounds_toArray, List.set_cons_zero, List.set_cons_succ]
              refine wpX_take (i := 3) (v := ?_) (by simp only [List.getElem?_toArray, List.getElem?_cons_succ, List.getElem?_cons_zero]; rfl) (by kernel_rfl) (by kernel_rfl) (by kernel_rfl) (by exact fun _ _ _ h => h) (Or.inl ⟨by rfl, fun W hW => ?_⟩) ?_
              rotate_left
              · have HZ := HSx.ext hW
                obtain ⟨ad2, hade, hbk, c0, c1, c2, c3, c4, c5, c6⟩ := HZ.at_ hx.out
                obtain rfl := Option.some.inj hade
                go_simp <;> (try with_reducible rfl)
              try simp only [Act.put, List.setIfInBounds_toArray, List.set_cons_zero, List.set_cons_succ]
              refine wpX_take (i := 4) (v := ?_) (by simp only [List.getElem?_toArray, List.getElem?_cons_succ, List.getElem?_cons_zero]; rfl) (by kernel_rfl) (by kernel_rfl) (by kernel_rfl) (by exact fun _ _ _ h => h) (Or.inl ⟨by rfl, fun W hW => ?_⟩) ?_
              rotate_left
              · have h0 := (HX.ext hW).cell 0 0 rfl rfl
                have h1 := (HX.ext hW).cell 0 1 rfl rfl
                have h2 := (HX.ext hW).cell 0 2 rfl rfl
                have h3 := (HX.ext hW).cell 0 3 rfl rfl
                have h4 := (HX.ext hW).cell 0 4 rfl rfl
                simp only [List.getElem_toArray, List.getElem_cons_zero, List.getElem_cons_succ] at h0 h1 h2 h3 h4
                go_simp <;> (try with_reducible rfl)
              try simp only [Act.put, List.setIfInBounds_toArray, List.set_cons_zero, List.set_cons_succ]
              refine wpX_take (i := 6) (v := ?_) (by simp only [List.getElem?_toArray, List.getElem?_cons_succ, List.getElem?_cons_zero]; rfl) (by kernel_rfl) (by kernel_rfl) (by kernel_rfl) (by exact fun _ _ _ h => h) (Or.inl ⟨by rfl, fun W hW => ?_⟩) ?_
              rotate_left
              · go_simp <;> (try with_reducible rfl)
              try simp only [Act.put, List.setIfInBounds_toArray, List.set_cons_zero, List.set_cons_succ]
              refine wpX_take (i := 7) (v := ?_) (by simp only [List.getElem?_toArray, List.getElem?_cons_succ, List.getElem?_cons_zero]; rfl) (by kernel_rfl) (by kernel_rfl) (by kernel_rfl) (by exact fun _ _ _ h => h) (Or.inl ⟨by rfl, fun W hW => ?_⟩) ?_
              rotate_left
              · go_simp <;> (try with_reducible rfl)
              try simp only [Act.put, List.setIfInBounds_toArray, List.set_cons_zero, List.set_cons_succ]
              refine wpX_take (i := 8) (v := ?_) (by simp only [List.getElem?_toArray, List.getElem?_cons_succ, List.getElem?_cons_zero]; rfl) (by kernel_rfl) (by kernel_rfl) (by kernel_rfl) (by exact fun _ _ _ h => h) (Or.inl ⟨by rfl, fun W hW => ?_⟩) ?_
              rotate_left
              · go_simp <;> (try with_reducible rfl)
              try simp only [Act.put, List.setIfInBounds_toArray, List.set_cons_zero, List.set_cons_succ]
              refine wpX_take (i := 9) (v := ?_) (by simp only [List.getElem?_toArray, List.getElem?_cons_succ, List.getElem?_cons_zero]; rfl) (by kernel_rfl) (by kernel_rfl) (by kernel_rfl) (by exact fun _ _ _ h => h) (Or.inl ⟨by rfl, fun W hW => ?_⟩) ?_
              rotate_left
              · have HZ := HSx.ext hW
                obtain ⟨ad2, hade, hbk, c0, c1, c2, c3, c4, c5, c6⟩ := HZ.at_ hx.out
                obtain rfl := Option.some.inj hade
                go_simp <;> (try with_reducible rfl)
              try simp only [Act.put, List.setIfInBounds_toArray, List.set_cons_zero, List.set_cons_succ]
              refine wpX_take (i := 10) (v := ?_) (by simp only [List.getElem?_toArray, List.getElem?_cons_succ, List.getElem?_cons_zero]; rfl) (by kernel_rfl) (by kernel_rfl) (by kernel_rfl) (by exact fun _ _ _ h => h) (Or.inl ⟨by rfl, fun W hW => ?_⟩) ?_
              rotate_left
              · have h0 := (HX.ext hW).cell 0 0 rfl rfl
                have h1 := (HX.ext hW).cell 0 1 rfl rfl
                have h2 := (HX.ext hW).cell 0 2 rfl rfl
                have h3 := (HX.ext hW).cell 0 3 rfl rfl
                have h4 := (HX.ext hW).cell 0 4 rfl rfl
                simp only [List.getElem_toArray, List.getElem_cons_zero, List.getElem_cons_succ] at h0 h1 h2 h3 h4
                go_simp <;> (try with_reducible rfl)
              try simp only [Act.put, List.setIfInBounds_toArray, List.set_cons_zero, List.set_cons_succ]
              refine wpX_step (i := 5) (by kernel_rfl) (by simp only [List.getElem?_toArray, List.getElem?_cons_succ, List.getElem?_cons_zero]; rfl) (fun W1 K hE hK => ?_)
              replace HX := HX.ext hE
              replace HM := HM.ext hE
              replace HSx := HSx.ext hE
              replace HI := HI.ext hE
              clear hE
              go_simp
              refine (qhas_any (b := true) x t _ HM tp).mono ?_
              rintro e W2 ⟨rfl, hb⟩
              go_wp2_with fail
              refine hK.out _ _ hb ?_
              clear hK K
              replace HX := HX.ext hb
              replace HM := HM.ext hb
              replace HSx := HSx.ext hb
              replace HI := HI.ext hb
              clear hb
              try simp only [Act.put, List.setIfInBounds_toArray, List.set_cons_zero, List.set_cons_succ]
              skip
              refine wpX_step (i := 11) (by kernel_rfl) (by simp only [List.getElem?_toArray, List.getElem?_cons_succ, List.getElem?_cons_zero]; rfl) (fun W1 K hE hK => ?_)
              replace HX := HX.ext hE
              replace HM := HM.ext hE
              replace HSx := HSx.ext hE
              replace HI := HI.ext hE
              clear hE
              go_simp
              refine (rhas50_any (b := true) x t _ HM tp).mono ?_
              rintro e W2 ⟨rfl, hb⟩
              go_wp2_with fail
              refine hK.out _ _ hb ?_
              clear hK K
              replace HX := HX.ext hb
              replace HM := HM.ext hb
              replace HSx := HSx.ext hb
              replace HI := HI.ext hb
              clear hb
              try simp only [Act.put, List.setIfInBounds_toArray, List.set_cons_zero, List.set_cons_succ]
              skip
              refine wpX_take (i := 12) (v := ?_) (by simp only [List.getElem?_toArray, List.getElem?_cons_succ, List.getElem?_cons_zero]; rfl) (by kernel_rfl) (by kernel_rfl) (by kernel_rfl) (by exact fun _ _ _ h => h) (Or.inl ⟨by rfl, fun W hW => ?_⟩) ?_
              rotate_left
              · go_simp <;> (try with_reducible rfl)
              try simp only [Act.put, List.setIfInBounds_toArray, List.set_cons_zero, List.set_cons_succ]
              refine wpX_take (i := 13) (v := ?_) (by simp only [List.getElem?_toArray, List.getElem?_cons_succ, List.getElem?_cons_zero]; rfl) (by kernel_rfl) (by kernel_rfl) (by kernel_rfl) (by exact fun _ _ _ h => h) (Or.inl ⟨by rfl, fun W hW => ?_⟩) ?_
              rotate_left
              · go_simp <;> (try with_reducible rfl)
              try simp only [Act.put, List.setIfInBounds_toArray, List.set_cons_zero, List.set_cons_succ]
              refine wpX_take (i := 14) (v := ?_) (by simp only [List.getElem?_toArray, List.getElem?_cons_succ, List.getElem?_cons_zero]; rfl) (by kernel_rfl) (by kernel_rfl) (by kernel_rfl) (by exact fun _ _ _ h => h) (Or.inl ⟨by rfl, fun W hW => ?_⟩) ?_
              rotate_left
              · go_simp <;> (try with_reducible rfl)
              try simp only [Act.put, List.setIfInBounds_toArray, List.set_cons_zero, List.set_cons_succ]
              refine wpX_take (i := 15) (v := ?_) (by simp only [List.getElem?_toArray, List.getElem?_cons_succ, List.getElem?_cons_zero]; rfl) (by kernel_rfl) (by kernel_rfl) (by kernel_rfl) (by exact fun _ _ _ h => h) (Or.inl ⟨by rfl, fun W hW => ?_⟩) ?_
              rotate_left
              · go_simp <;> (try with_reducible rfl)
              try simp only [Act.put, List.setIfInBounds_toArray, List.set_cons_zero, List.set_cons_succ]
              refine wpX_take (i := 16) (v := ?_) (by simp only [List.getElem?_toArray, List.getElem?_cons_succ, List.getElem?_cons_zero]; rfl) (by kernel_rfl) (by kernel_rfl) (by kernel_rfl) (by exact fun _ _ _ h => h) (Or.inl ⟨by rfl, fun W hW => ?_⟩) ?_
              rotate_left
              · go_simp <;> (try with_reducible rfl)
              try simp only [Act.put, List.setIfInBounds_toArray, List.set_cons_zero, List.set_cons_succ]
              refine wpX_take (i := 17) (v := undef) (by simp only [List.getElem?_toArray, List.getElem?_cons_succ, List.getElem?_cons_zero]; rfl) (by kernel_rfl) (by kernel_rfl) (by kernel_rfl) (by exact fun _ _ _ h => h) (Or.inr ⟨by rfl, rfl⟩) ?_
              try simp only [Act.put, List.setIfInBounds_toArray, List.set_cons_zero, List.set_cons_succ]
              refine wpX_take (i := 18) (v := undef) (by simp only [List.getElem?_toArray, List.getElem?_cons_succ, List.getElem?_cons_zero]; rfl) (by kernel_rfl) (by kernel_rfl) (by kernel_rfl) (by exact fun _ _ _ h => h) (Or.inr ⟨by rfl, rfl⟩) ?_
              try simp only [Act.put, List.setIfInBounds_toArray, List.set_cons_zero, List.set_cons_succ]
              refine wpX_take (i := 19) (v := undef) (by simp only [List.getElem?_toArray, List.getElem?_cons_succ, List.getElem?_cons_zero]; rfl) (by kernel_rfl) (by kernel_rfl) (by kernel_rfl) (by exact fun _ _ _ h => h) (Or.inr ⟨by rfl, rfl⟩) ?_
              try simp only [Act.put, List.setIfInBounds_toArray, List.set_cons_zero, List.set_cons_succ]
              refine wpX_take (i := 20) (v := undef) (by simp only [List.getElem?_toArray, List.getElem?_cons_succ, List.getElem?_cons_zero]; rfl) (by kernel_rfl) (by kernel_rfl) (by kernel_rfl) (by exact fun _ _ _ h => h) (Or.inr ⟨by rfl, rfl⟩) ?_
              try simp only [Act.put, List.setIfInBounds_toArray, List.set_cons_zero, List.set_cons_succ]
              refine wpX_take (i := 21) (v := undef) (by simp only [List.getElem?_toArray, List.getElem?_cons_succ, List.getElem?_cons_zero]; rfl) (by kernel_rfl) (by kernel_rfl) (by kernel_rfl) (by exact fun _ _ _ h => h) (Or.inr ⟨by rfl, rfl⟩) ?_
              try simp only [Act.put, List.setIfInBounds_toArray, List.set_cons_zero, List.set_cons_succ]
              refine wpX_take (i := 22) (v := undef) (by simp only [List.getElem?_toArray, List.getElem?_cons_succ, List.getElem?_cons_zero]; rfl) (by kernel_rfl) (by kernel_rfl) (by kernel_rfl) (by exact fun _ _ _ h => h) (Or.inr ⟨by rfl, rfl⟩) ?_
              try simp only [Act.put, List.setIfInBounds_toArray, List.set_cons_zero, List.set_cons_succ]
              refine wpX_take (i := 24) (v := undef) (by simp only [List.getElem?_toArray, List.getElem?_cons_succ, List.getElem?_cons_zero]; rfl) (by kernel_rfl) (by kernel_rfl) (by kernel_rfl) (by exact fun _ _ _ h => h) (Or.inr ⟨by rfl, rfl⟩) ?_
              try simp only [Act.put, List.setIfInBounds_toArray, List.set_cons_zero, List.set_cons_succ]
              refine wpX_take (i := 25) (v := undef) (by simp only [List.getElem?_toArray, List.getElem?_cons_succ, List.getElem?_cons_zero]; rfl) (by kernel_rfl) (by kernel_rfl) (by kernel_rfl) (by exact fun _ _ _ h => h) (Or.inr ⟨by rfl, rfl⟩) ?_
              try simp only [Act.put, List.setIfInBounds_toArray, List.set_cons_zero, List.set_cons_succ]
              refine wpX_take (i := 26) (v := undef) (by simp only [List.getElem?_toArray, List.getElem?_cons_succ, List.getElem?_cons_zero]; rfl) (by kernel_rfl) (by kernel_rfl) (by kernel_rfl) (by exact fun _ _ _ h => h) (Or.inr ⟨by rfl, rfl⟩) ?_
              try simp only [Act.put, List.setIfInBounds_toArray, List.set_cons_zero, List.set_cons_succ]
              refine wpX_take (i := 27) (v := undef) (by simp only [List.getElem?_toArray, List.getElem?_cons_succ, List.getElem?_cons_zero]; rfl) (by kernel_rfl) (by kernel_rfl) (by kernel_rfl) (by exact fun _ _ _ h => h) (Or.inr ⟨by rfl, rfl⟩) ?_
              try simp only [Act.put, List.setIfInBounds_toArray, List.set_cons_zero, List.set_cons_succ]
              refine wpX_take (i := 28) (v := undef) (by simp only [List.getElem?_toArray, List.getElem?_cons_succ, List.getElem?_cons_zero]; rfl) (by kernel_rfl) (by kernel_rfl) (by kernel_rfl) (by exact fun _ _ _ h => h) (Or.inr ⟨by rfl, rfl⟩) ?_
              try simp only [Act.put, List.setIfInBounds_toArray, List.set_cons_zero, List.set_cons_succ]
              refine wpX_step (i := 23) (by kernel_rfl) (by simp only [List.getElem?_toArray, List.getElem?_cons_succ, List.getElem?_cons_zero]; rfl) (fun W1 K hE hK => ?_)
              replace HX := HX.ext hE
              replace HM := HM.ext hE
              replace HSx := HSx.ext hE
              replace HI := HI.ext hE
              clear hE
              go_simp
              refine hK.out _ _ (Ext.refl _) ?_
              clear hK K
              try simp only [Act.put, List.setIfInBounds_toArray, List.set_cons_zero, List.set_cons_succ]
              refine wpX_step (i := 29) (by kernel_rfl) (by simp only [List.getElem?_toArray, List.getElem?_cons_succ, List.getElem?_cons_zero]; rfl) (fun W1 K hE hK => ?_)
              replace HX := HX.ext hE
              replace HM := HM.ext hE
              replace HSx := HSx.ext hE
              replace HI := HI.ext hE
              clear hE
              go_simp
              refine hK.out _ _ (Ext.refl _) ?_
              clear hK K
              try simp only [Act.put, List.setIfInBounds_toArray, List.set_cons_zero, List.set_cons_succ]
              refine wpX_take (i := 30) (v := undef) (by simp only [List.getElem?_toArray, List.getElem?_cons_succ, List.getElem?_cons_zero]; rfl) (by kernel_rfl) (by kernel_rfl) (by kernel_rfl) (by exact fun _ _ _ h => h) (Or.inr ⟨by rfl, rfl⟩) ?_
              try simp only [Act.put, List.setIfInBounds_toArray, List.set_cons_zero, List.set_cons_succ]
              refine wpX_take (i := 31) (v := ?_) (by simp only [List.getElem?_toArray, List.getElem?_cons_succ, List.getElem?_cons_zero]; rfl) (by kernel_rfl) (by kernel_rfl) (by kernel_rfl) (by exact fun _ _ _ h => h) (Or.inl ⟨by rfl, fun W hW => ?_⟩) ?_
              rotate_left
              · go_simp <;> (try with_reducible rfl)
              try simp only [Act.put, List.setIfInBounds_toArray, List.set_cons_zero, List.set_cons_succ]
              refine wpX_end (by kernel_rfl) (fun wq2 ga m hE hg hm => ?_)
              replace HX := HX.ext hE
              replace HM := HM.ext hE
              replace HSx := HSx.ext hE
              replace HI := HI.ext hE
              clear hE
              clear hg
              simp only [putAll, setAll]
              try clear ga
              refine wpAny_step (i := 32) (by kernel_rfl) (by simp only [List.getElem?_toArray, List.getElem?_cons_succ, List.getElem?_cons_zero]; rfl) (by omega) (fun K hK => ?_)
              go_simp
              refine hK.out _ _ ?_
              clear hK K
              refine wpAny_done (by kernel_rfl) ?_ _
              go_wp2
              go_roundg (l.length - (k + 1))
              case measure => omega
              case rel => exact ⟨k + 1, by omega, by go_num, HX⟩
            | false =>
              refine wp_region_x (al := []) (late := [32]) (dst := fun i => 0) (zt := fun _ => (#[], 0)) (B := wq.heap.size) (n := 32) (r := 1) (by kernel_rfl) (by kernel_rfl) (by decide) ?_ (by kernel_rfl) (by kernel_rfl) (by intro _ _ _ d _ h; cases d <;> exact h) (sz := 33) (by rfl) (by rfl) (Nat.le_refl _) ?_
              · intro i hi; cases hi
              have hE : Ext wq wq.drew := drew_ext wq
              replace HX := HX.ext hE
              replace HM := HM.ext hE
              replace HSx := HSx.ext hE
              replace HI := HI.ext hE
              clear hE
              refine wpX_take (i := 0) (v := ?_) (by simp only [List.getElem?_toArray, List.getElem?_cons_zero]; rfl) (by kernel_rfl) (by kernel_rfl) (by kernel_rfl) (by exact fun _ _ _ h => h) (Or.inl ⟨by rfl, fun W hW => ?_⟩) ?_
              rotate_left
              · go_simp <;> (try with_reducible rfl)
              try simp only [Act.put, List.setIfInBounds_toArray, List.set_cons_zero, List.set_cons_succ]
              refine wpX_take (i := 1) (v := ?_) (by simp only [List.getElem?_toArray, List.getElem?_cons_succ, List.getElem?_cons_zero]; rfl) (by kernel_rfl) (by kernel_rfl) (by kernel_rfl) (by exact fun _ _ _ h => h) (Or.inl ⟨by rfl, fun W hW => ?_⟩) ?_
              rotate_left
              · go_simp <;> (try with_reducible rfl)
              try simp only [Act.put, List.setIfInBounds_toArray, List.set_cons_zero, List.set_cons_succ]
              refine wpX_take (i := 2) (v := ?_) (by simp only [List.getElem?_toArray, List.getElem?_cons_succ, List.getElem?_cons_zero]; rfl) (by kernel_rfl) (by kernel_rfl) (by kernel_rfl) (by exact fun _ _ _ h => h) (Or.inl ⟨by rfl, fun W hW => ?_⟩) ?_
              rotate_left
              · go_simp <;> (try with_reducible rfl)
              try simp only [Act.put, List.setIfInBounds_toArray, List.set_cons_zero, List.set_cons_succ]
              refine wpX_take (i := 3) (v := ?_) (by simp only [List.getElem?_toArray, List.getElem?_cons_succ, List.getElem?_cons_zero]; rfl) (by kernel_rfl) (by kernel_rfl) (by kernel_rfl) (by exact fun _ _ _ h => h) (Or.inl ⟨by rfl, fun W hW => ?_⟩) ?_
              rotate_left
              · have HZ := HSx.ext hW
                obtain ⟨ad2, hade, hbk, c0, c1, c2, c3, c4, c5, c6⟩ := HZ.at_ hx.out
                obtain rfl := Option.some.inj hade
                go_simp <;> (try with_reducible rfl)
              try simp only [Act.put, List.setIfInBounds_toArray, List.set_cons_zero, List.set_cons_succ]
              refine wpX_take (i := 4) (v := ?_) (by simp only [List.getElem?_toArray, List.getElem?_cons_succ, List.getElem?_cons_zero]; rfl) (by kernel_rfl) (by kernel_rfl) (by kernel_rfl) (by exact fun _ _ _ h => h) (Or.inl ⟨by rfl, fun W hW => ?_⟩) ?_
              rotate_left
              · have h0 := (HX.ext hW).cell 0 0 rfl rfl
                have h1 := (HX.ext hW).cell 0 1 rfl rfl
                have h2 := (HX.ext hW).cell 0 2 rfl rfl
                have h3 := (HX.ext hW).cell 0 3 rfl rfl
                have h4 := (HX.ext hW).cell 0 4 rfl rfl
                simp only [List.getElem_toArray, List.getElem_cons_zero, List.getElem_cons_succ] at h0 h1 h2 h3 h4
                go_simp <;> (try with_reducible rfl)
              try simp only [Act.put, List.setIfInBounds_toArray, List.set_cons_zero, List.set_cons_succ]
              refine wpX_take (i := 6) (v := ?_) (by simp only [List.getElem?_toArray, List.getElem?_cons_succ, List.getElem?_cons_zero]; rfl) (by kernel_rfl) (by kernel_rfl) (by kernel_rfl) (by exact fun _ _ _ h => h) (Or.inl ⟨by rfl, fun W hW => ?_⟩) ?_
              rotate_left
              · go_simp <;> (try with_reducible rfl)
              try simp only [Act.put, List.setIfInBounds_toArray, List.set_cons_zero, List.set_cons_succ]
              refine wpX_take (i := 7) (v := ?_) (by simp only [List.getElem?_toArray, List.getElem?_cons_succ, List.getElem?_cons_zero]; rfl) (by kernel_rfl) (by kernel_rfl) (by kernel_rfl) (by exact fun _ _ _ h => h) (Or.inl ⟨by rfl, fun W hW => ?_⟩) ?_
              rotate_left
              · go_simp <;> (try with_reducible rfl)
              try simp only [Act.put, List.setIfInBounds_toArray, List.set_cons_zero, List.set_cons_succ]
              refine wpX_take (i := 8) (v := ?_) (by simp only [List.getElem?_toArray, List.getElem?_cons_succ, List.getElem?_cons_zero]; rfl) (by kernel_rfl) (by kernel_rfl) (by kernel_rfl) (by exact fun _ _ _ h => h) (Or.inl ⟨by rfl, fun W hW => ?_⟩) ?_
              rotate_left
              · go_simp <;> (try with_reducible rfl)
              try simp only [Act.put, List.setIfInBounds_toArray, List.set_cons_zero, List.set_cons_succ]
              refine wpX_take (i := 9) (v := ?_) (by simp only [List.getElem?_toArray, List.getElem?_cons_succ, List.getElem?_cons_zero]; rfl) (by kernel_rfl) (by kernel_rfl) (by kernel_rfl) (by exact fun _ _ _ h => h) (Or.inl ⟨by rfl, fun W hW => ?_⟩) ?_
              rotate_left
              · have HZ := HSx.ext hW
                obtain ⟨ad2, hade, hbk, c0, c1, c2, c3, c4, c5, c6⟩ := HZ.at_ hx.out
                obtain rfl := Option.some.inj hade
                go_simp <;> (try with_reducible rfl)
              try simp only [Act.put, List.setIfInBounds_toArray, List.set_cons_zero, List.set_cons_succ]
              refine wpX_take (i := 10) (v := ?_) (by simp only [List.getElem?_toArray, List.getElem?_cons_succ, List.getElem?_cons_zero]; rfl) (by kernel_rfl) (by kernel_rfl) (by kernel_rfl) (by exact fun _ _ _ h => h) (Or.inl ⟨by rfl, fun W hW => ?_⟩) ?_
              rotate_left
              · have h0 := (HX.ext hW).cell 0 0 rfl rfl
                have h1 := (HX.ext hW).cell 0 1 rfl rfl
                have h2 := (HX.ext hW).cell 0 2 rfl rfl
                have h3 := (HX.ext hW).cell 0 3 rfl rfl
                have h4 := (HX.ext hW).cell 0 4 rfl rfl
                simp only [List.getElem_toArray, List.getElem_cons_zero, List.getElem_cons_succ] at h0 h1 h2 h3 h4
                go_simp <;> (try with_reducible rfl)
              try simp only [Act.put, List.setIfInBounds_toArray, List.set_cons_zero, List.set_cons_succ]
              refine wpX_step (i := 5) (by kernel_rfl) (by simp only [List.getElem?_toArray, List.getElem?_cons_succ, List.getElem?_cons_zero]; rfl) (fun W1 K hE hK => ?_)
              replace HX := HX.ext hE
              replace HM := HM.ext hE
              replace HSx := HSx.ext hE
              replace HI := HI.ext hE
              clear hE
              go_simp
              refine (qhas_any (b := false) x t _ HM tp).mono ?_
              rintro e W2 ⟨rfl, hb⟩
              go_wp2_with fail
              refine hK.out _ _ hb ?_
              clear hK K
              replace HX := HX.ext hb
              replace HM := HM.ext hb
              replace HSx := HSx.ext hb
              replace HI := HI.ext hb
              clear hb
              try simp only [Act.put, List.setIfInBounds_toArray, List.set_cons_zero, List.set_cons_succ]
              skip
              refine wpX_step (i := 11) (by kernel_rfl) (by simp only [List.getElem?_toArray, List.getElem?_cons_succ, List.getElem?_cons_zero]; rfl) (fun W1 K hE hK => ?_)
              replace HX := HX.ext hE
              replace HM := HM.ext hE
              replace HSx := HSx.ext hE
              replace HI := HI.ext hE
              clear hE
              go_simp
              refine (rhas50_any (b := false) x t _ HM tp).mono ?_
              rintro e W2 ⟨rfl, hb⟩
              go_wp2_with fail
              refine hK.out _ _ hb ?_
              clear hK K
              replace HX := HX.ext hb
              replace HM := HM.ext hb
              replace HSx := HSx.ext hb
              replace HI := HI.ext hb
              clear hb
              try simp only [Act.put, List.setIfInBounds_toArray, List.set_cons_zero, List.set_cons_succ]
              skip
              refine wpX_take (i := 12) (v := ?_) (by simp only [List.getElem?_toArray, List.getElem?_cons_succ, List.getElem?_cons_zero]; rfl) (by kernel_rfl) (by kernel_rfl) (by kernel_rfl) (by exact fun _ _ _ h => h) (Or.inl ⟨by rfl, fun W hW => ?_⟩) ?_
              rotate_left
              · go_simp <;> (try with_reducible rfl)
              try simp only [Act.put, List.setIfInBounds_toArray, List.set_cons_zero, List.set_cons_succ]
              refine wpX_take (i := 13) (v := ?_) (by simp only [List.getElem?_toArray, List.getElem?_cons_succ, List.getElem?_cons_zero]; rfl) (by kernel_rfl) (by kernel_rfl) (by kernel_rfl) (by exact fun _ _ _ h => h) (Or.inl ⟨by rfl, fun W hW => ?_⟩) ?_
              rotate_left
              · go_simp <;> (try with_reducible rfl)
              try simp only [Act.put, List.setIfInBounds_toArray, List.set_cons_zero, List.set_cons_succ]
              refine wpX_take (i := 14) (v := ?_) (by simp only [List.getElem?_toArray, List.getElem?_cons_succ, List.getElem?_cons_zero]; rfl) (by kernel_rfl) (by kernel_rfl) (by kernel_rfl) (by exact fun _ _ _ h => h) (Or.inl ⟨by rfl, fun W hW => ?_⟩) ?_
              rotate_left
              · go_simp <;> (try with_reducible rfl)
              try simp only [Act.put, List.setIfInBounds_toArray, List.set_cons_zero, List.set_cons_succ]
              refine wpX_take (i := 15) (v := ?_) (by simp only [List.getElem?_toArray, List.getElem?_cons_succ, List.getElem?_cons_zero]; rfl) (by kernel_rfl) (by kernel_rfl) (by kernel_rfl) (by exact fun _ _ _ h => h) (Or.inl ⟨by rfl, fun W hW => ?_⟩) ?_
              rotate_left
              · go_simp <;> (try with_reducible rfl)
              try simp only [Act.put, List.setIfInBounds_toArray, List.set_cons_zero, List.set_cons_succ]
              refine wpX_take (i := 16) (v := ?_) (by simp only [List.getElem?_toArray, List.getElem?_cons_succ, List.getElem?_cons_zero]; rfl) (by kernel_rfl) (by kernel_rfl) (by kernel_rfl) (by exact fun _ _ _ h => h) (Or.inl ⟨by rfl, fun W hW => ?_⟩) ?_
              rotate_left
              · go_simp <;> (try with_reducible rfl)
              try simp only [Act.put, List.setIfInBounds_toArray, List.set_cons_zero, List.set_cons_succ]
              refine wpX_take (i := 17) (v := undef) (by simp only [List.getElem?_toArray, List.getElem?_cons_succ, List.getElem?_cons_zero]; rfl) (by kernel_rfl) (by kernel_rfl) (by kernel_rfl) (by exact fun _ _ _ h => h) (Or.inr ⟨by rfl, rfl⟩) ?_
              try simp only [Act.put, List.setIfInBounds_toArray, List.set_cons_zero, List.set_cons_succ]
              refine wpX_take (i := 18) (v := undef) (by simp only [List.getElem?_toArray, List.getElem?_cons_succ, List.getElem?_cons_zero]; rfl) (by kernel_rfl) (by kernel_rfl) (by kernel_rfl) (by exact fun _ _ _ h => h) (Or.inr ⟨by rfl, rfl⟩) ?_
              try simp only [Act.put, List.setIfInBounds_toArray, List.set_cons_zero, List.set_cons_succ]
              refine wpX_take (i := 19) (v := undef) (by simp only [List.getElem?_toArray, List.getElem?_cons_succ, List.getElem?_cons_zero]; rfl) (by kernel_rfl) (by kernel_rfl) (by kernel_rfl) (by exact fun _ _ _ h => h) (Or.inr ⟨by rfl, rfl⟩) ?_
              try simp only [Act.put, List.setIfInBounds_toArray, List.set_cons_zero, List.set_cons_succ]
              refine wpX_take (i := 20) (v := undef) (by simp only [List.getElem?_toArray, List.getElem?_cons_succ, List.getElem?_cons_zero]; rfl) (by kernel_rfl) (by kernel_rfl) (by kernel_rfl) (by exact fun _ _ _ h => h) (Or.inr ⟨by rfl, rfl⟩) ?_
              try simp only [Act.put, List.setIfInBounds_toArray, List.set_cons_zero, List.set_cons_succ]
              refine wpX_take (i := 21) (v := undef) (by simp only [List.getElem?_toArray, List.getElem?_cons_succ, List.getElem?_cons_zero]; rfl) (by kernel_rfl) (by kernel_rfl) (by kernel_rfl) (by exact fun _ _ _ h => h) (Or.inr ⟨by rfl, rfl⟩) ?_
              try simp only [Act.put, List.setIfInBounds_toArray, List.set_cons_zero, List.set_cons_succ]
              refine wpX_take (i := 22) (v := undef) (by simp only [List.getElem?_toArray, List.getElem?_cons_succ, List.getElem?_cons_zero]; rfl) (by kernel_rfl) (by kernel_rfl) (by kernel_rfl) (by exact fun _ _ _ h => h) (Or.inr ⟨by rfl, rfl⟩) ?_
              try simp only [Act.put, List.setIfInBounds_toArray, List.set_cons_zero, List.set_cons_succ]
              refine wpX_take (i := 24) (v := undef) (by simp only [List.getElem?_toArray, List.getElem?_cons_succ, List.getElem?_cons_zero]; rfl) (by kernel_rfl) (by kernel_rfl) (by kernel_rfl) (by exact fun _ _ _ h => h) (Or.inr ⟨by rfl, rfl⟩) ?_
              try simp only [Act.put, List.setIfInBounds_toArray, List.set_cons_zero, List.set_cons_succ]
              refine wpX_take (i := 25) (v := undef) (by simp only [List.getElem?_toArray, List.getElem?_cons_succ, List.getElem?_cons_zero]; rfl) (by kernel_rfl) (by kernel_rfl) (by kernel_rfl) (by exact fun _ _ _ h => h) (Or.inr ⟨by rfl, rfl⟩) ?_
              try simp only [Act.put, List.setIfInBounds_toArray, List.set_cons_zero, List.set_cons_succ]
              refine wpX_take (i := 26) (v := undef) (by simp only [List.getElem?_toArray, List.getElem?_cons_succ, List.getElem?_cons_zero]; rfl) (by kernel_rfl) (by kernel_rfl) (by kernel_rfl) (by exact fun _ _ _ h => h) (Or.inr ⟨by rfl, rfl⟩) ?_
              try simp only [Act.put, List.setIfInBounds_toArray, List.set_cons_zero, List.set_cons_succ]
              refine wpX_take (i := 27) (v := undef) (by simp only [List.getElem?_toArray, List.getElem?_cons_succ, List.getElem?_cons_zero]; rfl) (by kernel_rfl) (by kernel_rfl) (by kernel_rfl) (by exact fun _ _ _ h => h) (Or.inr ⟨by rfl, rfl⟩) ?_
              try simp only [Act.put, List.setIfInBounds_toArray, List.set_cons_zero, List.set_cons_succ]
              refine wpX_take (i := 28) (v := undef) (by simp only [List.getElem?_toArray, List.getElem?_cons_succ, List.getElem?_cons_zero]; rfl) (by kernel_rfl) (by kernel_rfl) (by kernel_rfl) (by exact fun _ _ _ h => h) (Or.inr ⟨by rfl, rfl⟩) ?_
              try simp only [Act.put, List.setIfInBounds_toArray, List.set_cons_zero, List.set_cons_succ]
              refine wpX_step (i := 23) (by kernel_rfl) (by simp only [List.getElem?_toArray, List.getElem?_cons_succ, List.getElem?_cons_zero]; rfl) (fun W1 K hE hK => ?_)
              replace HX := HX.ext hE
              replace HM := HM.ext hE
              replace HSx := HSx.ext hE
              replace HI := HI.ext hE
              clear hE
              go_simp
              refine hK.out _ _ (Ext.refl _) ?_
              clear hK K
              try simp only [Act.put, List.setIfInBounds_toArray, List.set_cons_zero, List.set_cons_succ]
              refine wpX_step (i := 29) (by kernel_rfl) (by simp only [List.getElem?_toArray, List.getElem?_cons_succ, List.getElem?_cons_zero]; rfl) (fun W1 K hE hK => ?_)
              replace HX := HX.ext hE
              replace HM := HM.ext hE
              replace HSx := HSx.ext hE
              replace HI := HI.ext hE
              clear hE
              go_simp
              refine hK.out _ _ (Ext.refl _) ?_
              clear hK K
              try simp only [Act.put, List.setIfInBounds_toArray, List.set_cons_zero, List.set_cons_succ]
              refine wpX_take (i := 30) (v := undef) (by simp only [List.getElem?_toArray, List.getElem?_cons_succ, List.getElem?_cons_zero]; rfl) (by kernel_rfl) (by kernel_rfl) (by kernel_rfl) (by exact fun _ _ _ h => h) (Or.inr ⟨by rfl, rfl⟩) ?_
              try simp only [Act.put, List.setIfInBounds_toArray, List.set_cons_zero, List.set_cons_succ]
              refine wpX_take (i := 31) (v := ?_) (by simp only [List.getElem?_toArray, List.getElem?_cons_succ, List.getElem?_cons_zero]; rfl) (by kernel_rfl) (by kernel_rfl) (by kernel_rfl) (by exact fun _ _ _ h => h) (Or.inl ⟨by rfl, fun W hW => ?_⟩) ?_
              rotate_left
              · go_simp <;> (try with_reducible rfl)
              try simp only [Act.put, List.setIfInBounds_toArray, List.set_cons_zero, List.set_cons_succ]
              refine wpX_end (by kernel_rfl) (fun wq2 ga m hE hg hm => ?_)
              replace HX := HX.ext hE
              replace HM := HM.ext hE
              replace HSx := HSx.ext hE
              replace HI := HI.ext hE
              clear hE
              clear hg
              simp only [putAll, setAll]
              try clear ga
              refine wpAny_step (i := 32) (by kernel_rfl) (by simp only [List.getElem?_toArray, List.getElem?_cons_succ, List.getElem?_cons_zero]; rfl) (by omega) (fun K hK => ?_)
              go_simp
              refine hK.out _ _ ?_
              clear hK K
              refine wpAny_done (by kernel_rfl) ?_ _
              go_wp2
              go_roundg (l.length - (k + 1))
              case measure => omega
              case rel => exact ⟨k + 1, by omega, by go_num, HX⟩
          · go_wp2
            go_ret
            exact ⟨rfl, bel_trans hb0 HX.below⟩
    · have hd : decide ((100 : Int) < (l.length : Int)) = true := decide_eq_true (by omega)
      go_wp2_with fail
      refine (qawake_any w2 hE).mono ?_
      rintro e w3 ⟨rfl, hb⟩
      replace HX := HX.ext hb
      replace hE := hE.ext hb
      replace HM := HM.ext hb
      replace H := H.ext hb
      clear hb
      go_wp2
      go_ret
      exact ⟨rfl, HX.below⟩
  · have yf := no hf
    clear hf
    go_wp2_with fail
    refine (rfew_any (b := false) t w1 HM yf).mono ?_
    rintro e w2 ⟨rfl, hb⟩
    replace HX := HX.ext hb
    replace hE := hE.ext hb
    replace HM := HM.ext hb
    replace H := H.ext hb
    clear hb yf hc00 hc01 hc02 hc03 hc04
    go_wp2_with fail
    refine (qawake_any w2 hE).mono ?_
    rintro e w3 ⟨rfl, hb⟩
    replace HX := HX.ext hb
    replace hE := hE.ext hb
    replace HM := HM.ext hb
    replace H := H.ext hb
    clear hb
    go_wp2
    go_ret
    exact ⟨rfl, HX.below⟩
end Go.Proofs.YtolkijelldlmeaaGreatDoor
