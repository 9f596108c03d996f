/- The statement FractionField: its walk. -/
import Derived.Test.YtfndbmflllmpgaaDoorOps
namespace Go.Proofs.YtfndbmflllmpgaaDoor
open Go.RowKit Go.Proofs Go

set_option maxHeartbeats 800000 in
set_option maxRecDepth 100000 in
theorem ffield_few {s1 : Bool} {A1' B1' : Option Addr} {n1 c1' m1 d1' : Nat} {s2 : Bool} {A2' B2' : Option Addr} {n2 c2' m2 d2' : Nat} {s3 : Bool} {A3' B3' : Option Addr} {n3 c3' m3 d3' : Nat} (w : World) (hT : Tab w) (hlens : Hid (∀ x ∈ [(FE.mk s1 A1' n1 c1' B1' m1 d1'), (FE.mk s2 A2' n2 c2' B2' m2 d2'), (FE.mk s3 A3' n3 c3' B3' m3 d3')], x.n ≤ 9223372036854775807 ∧ x.m ≤ 9223372036854775807)) (hfew : Hid (fewB [(FE.mk s1 A1' n1 c1' B1' m1 d1'), (FE.mk s2 A2' n2 c2' B2' m2 d2'), (FE.mk s3 A3' n3 c3' B3' m3 d3')] = false)) :
    Calls Tryd.prog 5 #[.agg #[.bool s1, .slice A1' n1 c1', .slice B1' m1 d1'], .agg #[.bool s2, .slice A2' n2 c2', .slice B2' m2 d2'], .agg #[.bool s3, .slice A3' n3 c3', .slice B3' m3 d3']] w (RetB w true) := by
  go_enter Tryd.func5, Tryd.ntmps5
  go_wp2_with fail
  have HX := BL.three w #[.bool s1, .slice A1' n1 c1', .slice B1' m1 d1'] #[.bool s2, .slice A2' n2 c2', .slice B2' m2 d2'] #[.bool s3, .slice A3' n3 c3', .slice B3' m3 d3'] 26 26 26
  refine (awake_h (hT.ext HX.below)).mono ?_
  rintro e w1 ⟨rfl, hb⟩
  replace HX := HX.ext hb
  clear hb
  have hc00 := HX.cell 0 0 rfl rfl
  have hc01 := HX.cell 0 1 rfl rfl
  have hc02 := HX.cell 0 2 rfl rfl
  have hc10 := HX.cell 1 0 rfl rfl
  have hc11 := HX.cell 1 1 rfl rfl
  have hc12 := HX.cell 1 2 rfl rfl
  have hc20 := HX.cell 2 0 rfl rfl
  have hc21 := HX.cell 2 1 rfl rfl
  have hc22 := HX.cell 2 2 rfl rfl
  simp only [] at hc00 hc01 hc02 hc10 hc11 hc12 hc20 hc21 hc22
  go_wp2_with fail
  have hfs := FS.lit w1 26 [(FE.mk s1 A1' n1 c1' B1' m1 d1'), (FE.mk s2 A2' n2 c2' B2' m2 d2'), (FE.mk s3 A3' n3 c3' B3' m3 d3')] #[.bool s1, .slice A1' n1 c1', .slice B1' m1 d1', .bool s2, .slice A2' n2 c2', .slice B2' m2 d2', .bool s3, .slice A3' n3 c3', .slice B3' m3 d3'] rfl
  refine (few_any _ 3 3 _ _ hfs rfl (by omega) hlens.out).mono ?_
  rintro e w2 ⟨rfl, rfl⟩
  rw [hfew.out]
  have hb := below_alloc w1 (.cells #[.bool s1, .slice A1' n1 c1', .slice B1' m1 d1', .bool s2, .slice A2' n2 c2', .slice B2' m2 d2', .bool s3, .slice A3' n3 c3', .slice B3' m3 d3'] 26)
  clear hfs hc00 hc01 hc02 hc10 hc11 hc12 hc20 hc21 hc22
  replace HX := HX.ext hb
  clear hb
  generalize w1.alloc (.cells #[.bool s1, .slice A1' n1 c1', .slice B1' m1 d1', .bool s2, .slice A2' n2 c2', .slice B2' m2 d2', .bool s3, .slice A3' n3 c3', .slice B3' m3 d3'] 26) = w2 at *
  go_wp2_with fail
  refine (awake_h (hT.ext HX.below)).mono ?_
  rintro e w3 ⟨rfl, hb⟩
  replace HX := HX.ext hb
  go_wp2
  go_ret
  exact ⟨rfl, HX.below⟩

set_option maxHeartbeats 4000000 in
set_option maxRecDepth 100000 in
theorem ffield_pos {s1 : Bool} {A1' B1' : Option Addr} {n1 c1' m1 d1' : Nat} {s2 : Bool} {A2' B2' : Option Addr} {n2 c2' m2 d2' : Nat} {s3 : Bool} {A3' B3' : Option Addr} {n3 c3' m3 d3' : Nat} {a b c : Rat} (w : World) (hT : Tab w) (Pa : Fr w s1 A1' n1 c1' B1' m1 d1' a 6) (Pb : Fr w s2 A2' n2 c2' B2' m2 d2' b 6) (Pc : Fr w s3 A3' n3 c3' B3' m3 d3' c 6) (hlens : Hid (∀ x ∈ [(FE.mk s1 A1' n1 c1' B1' m1 d1'), (FE.mk s2 A2' n2 c2' B2' m2 d2'), (FE.mk s3 A3' n3 c3' B3' m3 d3')], x.n ≤ 9223372036854775807 ∧ x.m ≤ 9223372036854775807)) (hfew : Hid (fewB [(FE.mk s1 A1' n1 c1' B1' m1 d1'), (FE.mk s2 A2' n2 c2' B2' m2 d2'), (FE.mk s3 A3' n3 c3' B3' m3 d3')] = true)) (hb0 : Hid (b ≠ 0)) :
    Calls Tryd.prog 5 #[.agg #[.bool s1, .slice A1' n1 c1', .slice B1' m1 d1'], .agg #[.bool s2, .slice A2' n2 c2', .slice B2' m2 d2'], .agg #[.bool s3, .slice A3' n3 c3', .slice B3' m3 d3']] w (RetB w true) := by
  have za := Pa.sz
  have zb := Pb.sz
  have zc := Pc.sz
  obtain ⟨u, hu⟩ : ∃ u, a + b = u := ⟨_, rfl⟩
  obtain ⟨p, hp⟩ : ∃ p, a * b = p := ⟨_, rfl⟩
  obtain ⟨v, hv⟩ : ∃ v, u + c = v := ⟨_, rfl⟩
  obtain ⟨x, hx⟩ : ∃ x, p * c = x := ⟨_, rfl⟩
  obtain ⟨y, hy⟩ : ∃ y, b + c = y := ⟨_, rfl⟩
  obtain ⟨z, hz⟩ : ∃ z, b * c = z := ⟨_, rfl⟩
  obtain ⟨r, hr⟩ : ∃ r, c * u = r := ⟨_, rfl⟩
  obtain ⟨f, hf⟩ : ∃ f, c * a = f := ⟨_, rfl⟩
  obtain ⟨h, hh⟩ : ∃ h, c * b = h := ⟨_, rfl⟩
  have zu : Sz u 15 := hu ▸ za.add zb
  have zp : Sz p 14 := hp ▸ za.mul zb (by omega)
  have zv : Sz v 23 := hv ▸ zu.add zc
  have zx : Sz x 21 := hx ▸ zp.mul zc (by omega)
  have zy : Sz y 15 := hy ▸ zb.add zc
  have zz : Sz z 14 := hz ▸ zb.mul zc (by omega)
  have zr : Sz r 22 := hr ▸ zc.mul zu (by omega)
  have zf : Sz f 14 := hf ▸ zc.mul za (by omega)
  have zh : Sz h 14 := hh ▸ zc.mul zb (by omega)
  have Hu := Lib.hid hu
  have Hp := Lib.hid hp
  have Hv := Lib.hid hv
  have Hx := Lib.hid hx
  have Hy := Lib.hid hy
  have Hz := Lib.hid hz
  have Hr := Lib.hid hr
  have Hf := Lib.hid hf
  have Hh := Lib.hid hh
  have Hu2 : Hid (b + a = u) := Lib.hid (by rw [← hu]; grind)
  have Hp2 : Hid (b * a = p) := Lib.hid (by rw [← hp]; grind)
  have Hv2 : Hid (a + y = v) := Lib.hid (by rw [← hv, ← hu, ← hy]; grind)
  have Hx2 : Hid (a * z = x) := Lib.hid (by rw [← hx, ← hp, ← hz]; grind)
  have Hr2 : Hid (f + h = r) := Lib.hid (by rw [← hf, ← hh, ← hr, ← hu]; grind)
  have Ha2 : Hid (u - b = a) := Lib.hid (by rw [← hu]; grind)
  have Hq : Hid (p * b⁻¹ = a) := Lib.hid (by rw [← hp, Rat.mul_assoc, Rat.mul_inv_cancel b hb0.out, Rat.mul_one])
  have Hs : (sgn b == 0) = false := by rw [beq_eq_false_iff_ne]; exact fun e => hb0.out (sgn_eq_zero.1 e)
  obtain ⟨sb, hsb⟩ : ∃ s, sgn b = s := ⟨_, rfl⟩
  rw [hsb] at Hs
  have Hsb := Lib.hid hsb
  clear hsb
  clear hu hp hv hx hy hz hr hf hh
  go_enter Tryd.func5, Tryd.ntmps5
  go_wp2_with fail
  have HX := BL.three w #[.bool s1, .slice A1' n1 c1', .slice B1' m1 d1'] #[.bool s2, .slice A2' n2 c2', .slice B2' m2 d2'] #[.bool s3, .slice A3' n3 c3', .slice B3' m3 d3'] 26 26 26
  replace Pa := Pa.ext HX.below
  replace Pb := Pb.ext HX.below
  replace Pc := Pc.ext HX.below
  refine (awake_h (hT.ext HX.below)).mono ?_
  rintro e w1 ⟨rfl, hb⟩
  replace HX := HX.ext hb
  replace Pa := Pa.ext hb
  replace Pb := Pb.ext hb
  replace Pc := Pc.ext hb
  clear hb
  have hc00 := HX.cell 0 0 rfl rfl
  have hc01 := HX.cell 0 1 rfl rfl
  have hc02 := HX.cell 0 2 rfl rfl
  have hc10 := HX.cell 1 0 rfl rfl
  have hc11 := HX.cell 1 1 rfl rfl
  have hc12 := HX.cell 1 2 rfl rfl
  have hc20 := HX.cell 2 0 rfl rfl
  have hc21 := HX.cell 2 1 rfl rfl
  have hc22 := HX.cell 2 2 rfl rfl
  simp only [] at hc00 hc01 hc02 hc10 hc11 hc12 hc20 hc21 hc22
  go_wp2_with fail
  have hfs := FS.lit w1 26 [(FE.mk s1 A1' n1 c1' B1' m1 d1'), (FE.mk s2 A2' n2 c2' B2' m2 d2'), (FE.mk s3 A3' n3 c3' B3' m3 d3')] #[.bool s1, .slice A1' n1 c1', .slice B1' m1 d1', .bool s2, .slice A2' n2 c2', .slice B2' m2 d2', .bool s3, .slice A3' n3 c3', .slice B3' m3 d3'] rfl
  refine (few_any _ 3 3 _ _ hfs rfl (by omega) hlens.out).mono ?_
  rintro e w2 ⟨rfl, rfl⟩
  rw [hfew.out]
  have hb := below_alloc w1 (.cells #[.bool s1, .slice A1' n1 c1', .slice B1' m1 d1', .bool s2, .slice A2' n2 c2', .slice B2' m2 d2', .bool s3, .slice A3' n3 c3', .slice B3' m3 d3'] 26)
  clear hfs hc00 hc01 hc02 hc10 hc11 hc12 hc20 hc21 hc22
  replace HX := HX.ext hb
  replace Pa := Pa.ext hb
  replace Pb := Pb.ext hb
  replace Pc := Pc.ext hb
  clear hb
  generalize w1.alloc (.cells #[.bool s1, .slice A1' n1 c1', .slice B1' m1 d1', .bool s2, .slice A2' n2 c2', .slice B2' m2 d2', .bool s3, .slice A3' n3 c3', .slice B3' m3 d3'] 26) = w2 at *
  go_upto_region 3 with fail
  clear hlens hfew
  have hwb := HX.lt 2 rfl
  simp only [] at hwb
  refine wp_region_x (al := [6, 7]) (dst := fun i => if i = 6 then 7 else 8) (zt := fun _ => (#[.bool false, .slice none 0 0, .slice none 0 0], 26)) (B := w2.heap.size) (n := 6) (r := 2) (by kernel_rfl) (by kernel_rfl) (by decide) ?_ (by kernel_rfl) (by kernel_rfl) (by intro _ _ _ d _ h; cases d <;> exact h) (sz := 10) (by rfl) (by rfl) (Nat.le_refl _) ?_
  · intro i hi
    simp only [List.mem_cons, List.not_mem_nil, or_false] at hi
    rcases hi with rfl | rfl
    · exact ⟨_, rfl, rfl, rfl, rfl, fun _ _ => by kernel_rfl⟩
    · exact ⟨_, rfl, rfl, rfl, rfl, fun _ _ => by kernel_rfl⟩
  have HE0 : Ext w2 w2.drew := drew_ext w2
  replace HX := HX.ext HE0
  replace Pa := Pa.ext HE0
  replace Pb := Pb.ext HE0
  replace Pc := Pc.ext HE0
  refine wpX_take (i := 0) (v := .agg #[.bool s1, .slice A1' n1 c1', .slice B1' m1 d1']) rfl (by kernel_rfl) (by kernel_rfl) (by kernel_rfl) (fun _ _ _ h => h) (Or.inl ⟨by rfl, fun W hW => ?_⟩) ?_
  · have h1 := (HX.ext hW).cell 0 0 rfl rfl
    have h2 := (HX.ext hW).cell 0 1 rfl rfl
    have h3 := (HX.ext hW).cell 0 2 rfl rfl
    simp only [] at h1 h2 h3
    go_simp
  try simp only [Act.put, List.setIfInBounds_toArray]
  refine wpX_take (i := 1) (v := .agg #[.bool s2, .slice A2' n2 c2', .slice B2' m2 d2']) rfl (by kernel_rfl) (by kernel_rfl) (by kernel_rfl) (fun _ _ _ h => h) (Or.inl ⟨by rfl, fun W hW => ?_⟩) ?_
  · have h1 := (HX.ext hW).cell 1 0 rfl rfl
    have h2 := (HX.ext hW).cell 1 1 rfl rfl
    have h3 := (HX.ext hW).cell 1 2 rfl rfl
    simp only [] at h1 h2 h3
    go_simp
  try simp only [Act.put]
  refine wpX_take (i := 3) (v := .agg #[.bool s1, .slice A1' n1 c1', .slice B1' m1 d1']) rfl (by kernel_rfl) (by kernel_rfl) (by kernel_rfl) (fun _ _ _ h => h) (Or.inl ⟨by rfl, fun W hW => ?_⟩) ?_
  · have h1 := (HX.ext hW).cell 0 0 rfl rfl
    have h2 := (HX.ext hW).cell 0 1 rfl rfl
    have h3 := (HX.ext hW).cell 0 2 rfl rfl
    simp only [] at h1 h2 h3
    go_simp
  try simp only [Act.put]
  refine wpX_take (i := 4) (v := .agg #[.bool s2, .slice A2' n2 c2', .slice B2' m2 d2']) rfl (by kernel_rfl) (by kernel_rfl) (by kernel_rfl) (fun _ _ _ h => h) (Or.inl ⟨by rfl, fun W hW => ?_⟩) ?_
  · have h1 := (HX.ext hW).cell 1 0 rfl rfl
    have h2 := (HX.ext hW).cell 1 1 rfl rfl
    have h3 := (HX.ext hW).cell 1 2 rfl rfl
    simp only [] at h1 h2 h3
    go_simp
  try simp only [Act.put]
  refine wpX_step (i := 2) (by kernel_rfl) rfl (fun W3 K hE hK => ?_)
  replace HX := HX.ext hE
  replace Pa := Pa.ext hE
  replace Pb := Pb.ext hE
  replace Pc := Pc.ext hE
  clear hE
  go_simp
  refine (fadd_h Hu zu Pa Pb (by omega) (by omega)).mono ?_
  rintro e w3 ⟨A3, c3, B3, d3, rfl, F3, hb⟩
  go_wp2_with fail
  refine hK.out _ _ hb ?_
  clear hK K
  replace HX := HX.ext hb
  replace Pa := Pa.ext hb
  replace Pb := Pb.ext hb
  replace Pc := Pc.ext hb
  clear hb
  try simp only [Act.put, List.setIfInBounds_toArray, List.set_cons_zero, List.set_cons_succ]
  refine wpX_step (i := 5) (by kernel_rfl) rfl (fun W4 K hE hK => ?_)
  replace HX := HX.ext hE
  replace Pa := Pa.ext hE
  replace Pb := Pb.ext hE
  replace Pc := Pc.ext hE
  replace F3 := F3.ext hE
  clear hE
  go_simp
  refine (fmul_h Hp zp Pa Pb (by omega) (by omega)).mono ?_
  rintro e w4 ⟨A4, c4, B4, d4, rfl, F4, hb⟩
  go_wp2_with fail
  refine hK.out _ _ hb ?_
  clear hK K
  replace HX := HX.ext hb
  replace Pa := Pa.ext hb
  replace Pb := Pb.ext hb
  replace Pc := Pc.ext hb
  replace F3 := F3.ext hb
  clear hb
  try simp only [Act.put, List.setIfInBounds_toArray, List.set_cons_zero, List.set_cons_succ]
  refine wpX_end (by kernel_rfl) (fun W5 ga m hE hg hm => ?_)
  replace HX := HX.ext hE
  replace Pa := Pa.ext hE
  replace Pb := Pb.ext hE
  replace Pc := Pc.ext hE
  replace F3 := F3.ext hE
  replace F4 := F4.ext hE
  clear hE
  obtain ⟨hlgu, hkgu⟩ := hg.1 6 (by simp)
  obtain ⟨hlgp, hkgp⟩ := hg.1 7 (by simp)
  have hdgugp := hg.2 6 (by simp) 7 (by simp) (by omega)
  clear hg
  simp only [putAll, Nat.reduceEqDiff, reduceIte]
  try simp only [Act.put, List.setIfInBounds_toArray, List.set_cons_zero, List.set_cons_succ]
  generalize ga 6 = gu at *
  generalize ga 7 = gp at *
  clear ga
  replace HX := HX.add hkgu
  replace HX := HX.add hkgp
  clear hkgu
  clear hkgp
  simp only [List.cons_append, List.nil_append] at HX
  have hlw := HX.below.size
  have hc0 := HX.cell 3 0 rfl rfl
  have hf0 := HX.free 3 0 rfl
  have hc1 := HX.cell 3 1 rfl rfl
  have hf1 := HX.free 3 1 rfl
  have hc2 := HX.cell 3 2 rfl rfl
  have hf2 := HX.free 3 2 rfl
  simp only [] at hc0 hc1 hc2 hf0 hf1 hf2
  refine wpAny_step (i := 8) (by kernel_rfl) rfl (by omega) (fun K hK => ?_)
  go_simp
  refine hK.out _ _ ?_
  clear hK K hc0 hc1 hc2 hf0 hf1 hf2
  have hk := HX.keep3 3 rfl rfl rfl rfl (by omega) (.bool (sg u)) (.slice A3 (dig (nu u)).length c3) (.slice B3 (dig u.den).length d3)
  replace HX := HX.put3 3 rfl (by omega) (by intro k q hk hne; match k, hk with | 0, hk => (simp at hk; subst hk; simp; omega) | 1, hk => (simp at hk; subst hk; simp; omega) | 2, hk => (simp at hk; subst hk; simp; omega) | 3, hk => (simp at hk; subst hk; simp at hne ⊢; try omega) | 4, hk => (simp at hk; subst hk; simp at hne ⊢; try omega) | k + 5, hk => simp at hk) (.bool (sg u)) (.slice A3 (dig (nu u)).length c3) (.slice B3 (dig u.den).length d3)
  replace Pa := Pa.stay hk
  replace Pb := Pb.stay hk
  replace Pc := Pc.stay hk
  replace F3 := F3.stay hk
  replace F4 := F4.stay hk
  simp only [List.set_cons_zero, List.set_cons_succ] at HX
  have hc0 := HX.cell 4 0 rfl rfl
  have hf0 := HX.free 4 0 rfl
  have hc1 := HX.cell 4 1 rfl rfl
  have hf1 := HX.free 4 1 rfl
  have hc2 := HX.cell 4 2 rfl rfl
  have hf2 := HX.free 4 2 rfl
  simp only [] at hc0 hc1 hc2 hf0 hf1 hf2
  refine wpAny_step (i := 9) (by kernel_rfl) rfl (by omega) (fun K hK => ?_)
  go_simp
  refine hK.out _ _ ?_
  clear hK K hc0 hc1 hc2 hf0 hf1 hf2
  have hk := HX.keep3 4 rfl rfl rfl rfl (by omega) (.bool (sg p)) (.slice A4 (dig (nu p)).length c4) (.slice B4 (dig p.den).length d4)
  replace HX := HX.put3 4 rfl (by omega) (by intro k q hk hne; match k, hk with | 0, hk => (simp at hk; subst hk; simp; omega) | 1, hk => (simp at hk; subst hk; simp; omega) | 2, hk => (simp at hk; subst hk; simp; omega) | 3, hk => (simp at hk; subst hk; simp at hne ⊢; try omega) | 4, hk => (simp at hk; subst hk; simp at hne ⊢; try omega) | k + 5, hk => simp at hk) (.bool (sg p)) (.slice A4 (dig (nu p)).length c4) (.slice B4 (dig p.den).length d4)
  replace Pa := Pa.stay hk
  replace Pb := Pb.stay hk
  replace Pc := Pc.stay hk
  replace F3 := F3.stay hk
  replace F4 := F4.stay hk
  simp only [List.set_cons_zero, List.set_cons_succ] at HX
  refine wpAny_done (by kernel_rfl) ?_ _
  generalize hW : ((((((W5.setCell ⟨gu, 0, none⟩ _).setCell ⟨gu, 1, none⟩ _).setCell ⟨gu, 2, none⟩ _).setCell ⟨gp, 0, none⟩ _).setCell ⟨gp, 1, none⟩ _).setCell ⟨gp, 2, none⟩ _) = W6 at *
  clear hW
  go_wp2_with fail
  have held : ∀ {W' : World}, BL w W' [(w.heap.size, #[.bool s1, .slice A1' n1 c1', .slice B1' m1 d1'], 26), (w.heap.size + 1, #[.bool s2, .slice A2' n2 c2', .slice B2' m2 d2'], 26), (w.heap.size + 2, #[.bool s3, .slice A3' n3 c3', .slice B3' m3 d3'], 26), (gu, #[.bool (sg u), .slice A3 (dig (nu u)).length c3, .slice B3 (dig u.den).length d3], 26), (gp, #[.bool (sg p), .slice A4 (dig (nu p)).length c4, .slice B4 (dig p.den).length d4], 26)] → W'.cell? ⟨w.heap.size, 0, none⟩ = some (.bool s1) ∧ W'.cell? ⟨w.heap.size, 1, none⟩ = some (.slice A1' n1 c1') ∧ W'.cell? ⟨w.heap.size, 2, none⟩ = some (.slice B1' m1 d1') ∧ W'.cell? ⟨w.heap.size + 1, 0, none⟩ = some (.bool s2) ∧ W'.cell? ⟨w.heap.size + 1, 1, none⟩ = some (.slice A2' n2 c2') ∧ W'.cell? ⟨w.heap.size + 1, 2, none⟩ = some (.slice B2' m2 d2') ∧ W'.cell? ⟨w.heap.size + 2, 0, none⟩ = some (.bool s3) ∧ W'.cell? ⟨w.heap.size + 2, 1, none⟩ = some (.slice A3' n3 c3') ∧ W'.cell? ⟨w.heap.size + 2, 2, none⟩ = some (.slice B3' m3 d3') ∧ W'.cell? ⟨gu, 0, none⟩ = some (.bool (sg u)) ∧ W'.cell? ⟨gu, 1, none⟩ = some (.slice A3 (dig (nu u)).length c3) ∧ W'.cell? ⟨gu, 2, none⟩ = some (.slice B3 (dig u.den).length d3) ∧ W'.cell? ⟨gp, 0, none⟩ = some (.bool (sg p)) ∧ W'.cell? ⟨gp, 1, none⟩ = some (.slice A4 (dig (nu p)).length c4) ∧ W'.cell? ⟨gp, 2, none⟩ = some (.slice B4 (dig p.den).length d4) := fun h => ⟨h.cell 0 0 rfl rfl, h.cell 0 1 rfl rfl, h.cell 0 2 rfl rfl, h.cell 1 0 rfl rfl, h.cell 1 1 rfl rfl, h.cell 1 2 rfl rfl, h.cell 2 0 rfl rfl, h.cell 2 1 rfl rfl, h.cell 2 2 rfl rfl, h.cell 3 0 rfl rfl, h.cell 3 1 rfl rfl, h.cell 3 2 rfl rfl, h.cell 4 0 rfl rfl, h.cell 4 1 rfl rfl, h.cell 4 2 rfl rfl⟩
  replace HX := HX.ext (drew_ext _)
  replace Pa := Pa.ext (drew_ext _)
  replace Pb := Pb.ext (drew_ext _)
  replace Pc := Pc.ext (drew_ext _)
  replace F3 := F3.ext (drew_ext _)
  replace F4 := F4.ext (drew_ext _)
  skip
  go_region_held3 (fun W' => W'.cell? ⟨w.heap.size, 0, none⟩ = some (.bool s1) ∧ W'.cell? ⟨w.heap.size, 1, none⟩ = some (.slice A1' n1 c1') ∧ W'.cell? ⟨w.heap.size, 2, none⟩ = some (.slice B1' m1 d1') ∧ W'.cell? ⟨w.heap.size + 1, 0, none⟩ = some (.bool s2) ∧ W'.cell? ⟨w.heap.size + 1, 1, none⟩ = some (.slice A2' n2 c2') ∧ W'.cell? ⟨w.heap.size + 1, 2, none⟩ = some (.slice B2' m2 d2') ∧ W'.cell? ⟨w.heap.size + 2, 0, none⟩ = some (.bool s3) ∧ W'.cell? ⟨w.heap.size + 2, 1, none⟩ = some (.slice A3' n3 c3') ∧ W'.cell? ⟨w.heap.size + 2, 2, none⟩ = some (.slice B3' m3 d3') ∧ W'.cell? ⟨gu, 0, none⟩ = some (.bool (sg u)) ∧ W'.cell? ⟨gu, 1, none⟩ = some (.slice A3 (dig (nu u)).length c3) ∧ W'.cell? ⟨gu, 2, none⟩ = some (.slice B3 (dig u.den).length d3) ∧ W'.cell? ⟨gp, 0, none⟩ = some (.bool (sg p)) ∧ W'.cell? ⟨gp, 1, none⟩ = some (.slice A4 (dig (nu p)).length c4) ∧ W'.cell? ⟨gp, 2, none⟩ = some (.slice B4 (dig p.den).length d4))
    (exact held HX)
    (first
      | (go_at_call_of 23 (Value.slice A2' n2 c2'); go_at_call_of 23 (Value.slice A1' n1 c1'); refine (fadd_h Hu2 zu Pb Pa (by omega) (by omega)).mono ?_; rintro e w5 ⟨A5, c5, B5, d5, rfl, F5, hb⟩; replace HX := HX.ext hb; replace Pa := Pa.ext hb; replace Pb := Pb.ext hb; replace Pc := Pc.ext hb; replace F3 := F3.ext hb; replace F4 := F4.ext hb; clear hb)
      | (go_at_call_of 14 (Value.slice A3 (dig (nu u)).length c3); go_at_call_of 14 (Value.slice A5 (dig (nu u)).length c5); refine (bfrac_s F3 F5 (by omega) (by omega)).mono ?_; rintro e w6 ⟨rfl, hb⟩; replace HX := HX.ext hb; replace Pa := Pa.ext hb; replace Pb := Pb.ext hb; replace Pc := Pc.ext hb; replace F3 := F3.ext hb; replace F4 := F4.ext hb; replace F5 := F5.ext hb; clear hb)
      | (go_at_call_of 24 (Value.slice A2' n2 c2'); go_at_call_of 24 (Value.slice A1' n1 c1'); refine (fmul_h Hp2 zp Pb Pa (by omega) (by omega)).mono ?_; rintro e w7 ⟨A7, c7, B7, d7, rfl, F7, hb⟩; replace HX := HX.ext hb; replace Pa := Pa.ext hb; replace Pb := Pb.ext hb; replace Pc := Pc.ext hb; replace F3 := F3.ext hb; replace F4 := F4.ext hb; replace F5 := F5.ext hb; clear hb)
      | (go_at_call_of 14 (Value.slice A4 (dig (nu p)).length c4); go_at_call_of 14 (Value.slice A7 (dig (nu p)).length c7); refine (bfrac_s F4 F7 (by omega) (by omega)).mono ?_; rintro e w8 ⟨rfl, hb⟩; replace HX := HX.ext hb; replace Pa := Pa.ext hb; replace Pb := Pb.ext hb; replace Pc := Pc.ext hb; replace F3 := F3.ext hb; replace F4 := F4.ext hb; replace F5 := F5.ext hb; replace F7 := F7.ext hb; clear hb))
  clear F5
  clear F7
  go_wp2_with fail
  replace HX := HX.ext (drew_ext _)
  replace Pa := Pa.ext (drew_ext _)
  replace Pb := Pb.ext (drew_ext _)
  replace Pc := Pc.ext (drew_ext _)
  replace F3 := F3.ext (drew_ext _)
  replace F4 := F4.ext (drew_ext _)
  skip
  go_region_held3 (fun W' => W'.cell? ⟨w.heap.size, 0, none⟩ = some (.bool s1) ∧ W'.cell? ⟨w.heap.size, 1, none⟩ = some (.slice A1' n1 c1') ∧ W'.cell? ⟨w.heap.size, 2, none⟩ = some (.slice B1' m1 d1') ∧ W'.cell? ⟨w.heap.size + 1, 0, none⟩ = some (.bool s2) ∧ W'.cell? ⟨w.heap.size + 1, 1, none⟩ = some (.slice A2' n2 c2') ∧ W'.cell? ⟨w.heap.size + 1, 2, none⟩ = some (.slice B2' m2 d2') ∧ W'.cell? ⟨w.heap.size + 2, 0, none⟩ = some (.bool s3) ∧ W'.cell? ⟨w.heap.size + 2, 1, none⟩ = some (.slice A3' n3 c3') ∧ W'.cell? ⟨w.heap.size + 2, 2, none⟩ = some (.slice B3' m3 d3') ∧ W'.cell? ⟨gu, 0, none⟩ = some (.bool (sg u)) ∧ W'.cell? ⟨gu, 1, none⟩ = some (.slice A3 (dig (nu u)).length c3) ∧ W'.cell? ⟨gu, 2, none⟩ = some (.slice B3 (dig u.den).length d3) ∧ W'.cell? ⟨gp, 0, none⟩ = some (.bool (sg p)) ∧ W'.cell? ⟨gp, 1, none⟩ = some (.slice A4 (dig (nu p)).length c4) ∧ W'.cell? ⟨gp, 2, none⟩ = some (.slice B4 (dig p.den).length d4))
    (exact held HX)
    (first
      | (go_at_call_of 23 (Value.slice A3 (dig (nu u)).length c3); go_at_call_of 23 (Value.slice A3' n3 c3'); refine (fadd_h Hv zv F3.fr Pc (by omega) (by omega)).mono ?_; rintro e w9 ⟨A9, c9, B9, d9, rfl, F9, hb⟩; replace HX := HX.ext hb; replace Pa := Pa.ext hb; replace Pb := Pb.ext hb; replace Pc := Pc.ext hb; replace F3 := F3.ext hb; replace F4 := F4.ext hb; clear hb)
      | (go_at_call_of 23 (Value.slice A2' n2 c2'); go_at_call_of 23 (Value.slice A3' n3 c3'); refine (fadd_h Hy zy Pb Pc (by omega) (by omega)).mono ?_; rintro e w10 ⟨A10, c10, B10, d10, rfl, F10, hb⟩; replace HX := HX.ext hb; replace Pa := Pa.ext hb; replace Pb := Pb.ext hb; replace Pc := Pc.ext hb; replace F3 := F3.ext hb; replace F4 := F4.ext hb; replace F9 := F9.ext hb; clear hb)
      | (go_at_call_of 23 (Value.slice A1' n1 c1'); go_at_call_of 23 (Value.slice A10 (dig (nu y)).length c10); refine (fadd_h Hv2 zv Pa F10.fr (by omega) (by omega)).mono ?_; rintro e w11 ⟨A11, c11, B11, d11, rfl, F11, hb⟩; replace HX := HX.ext hb; replace Pa := Pa.ext hb; replace Pb := Pb.ext hb; replace Pc := Pc.ext hb; replace F3 := F3.ext hb; replace F4 := F4.ext hb; replace F9 := F9.ext hb; replace F10 := F10.ext hb; clear hb)
      | (go_at_call_of 14 (Value.slice A9 (dig (nu v)).length c9); go_at_call_of 14 (Value.slice A11 (dig (nu v)).length c11); refine (bfrac_s F9 F11 (by omega) (by omega)).mono ?_; rintro e w12 ⟨rfl, hb⟩; replace HX := HX.ext hb; replace Pa := Pa.ext hb; replace Pb := Pb.ext hb; replace Pc := Pc.ext hb; replace F3 := F3.ext hb; replace F4 := F4.ext hb; replace F9 := F9.ext hb; replace F10 := F10.ext hb; replace F11 := F11.ext hb; clear hb)
      | (go_at_call_of 24 (Value.slice A4 (dig (nu p)).length c4); go_at_call_of 24 (Value.slice A3' n3 c3'); refine (fmul_h Hx zx F4.fr Pc (by omega) (by omega)).mono ?_; rintro e w13 ⟨A13, c13, B13, d13, rfl, F13, hb⟩; replace HX := HX.ext hb; replace Pa := Pa.ext hb; replace Pb := Pb.ext hb; replace Pc := Pc.ext hb; replace F3 := F3.ext hb; replace F4 := F4.ext hb; replace F9 := F9.ext hb; replace F10 := F10.ext hb; replace F11 := F11.ext hb; clear hb)
      | (go_at_call_of 24 (Value.slice A2' n2 c2'); go_at_call_of 24 (Value.slice A3' n3 c3'); refine (fmul_h Hz zz Pb Pc (by omega) (by omega)).mono ?_; rintro e w14 ⟨A14, c14, B14, d14, rfl, F14, hb⟩; replace HX := HX.ext hb; replace Pa := Pa.ext hb; replace Pb := Pb.ext hb; replace Pc := Pc.ext hb; replace F3 := F3.ext hb; replace F4 := F4.ext hb; replace F9 := F9.ext hb; replace F10 := F10.ext hb; replace F11 := F11.ext hb; replace F13 := F13.ext hb; clear hb)
      | (go_at_call_of 24 (Value.slice A1' n1 c1'); go_at_call_of 24 (Value.slice A14 (dig (nu z)).length c14); refine (fmul_h Hx2 zx Pa F14.fr (by omega) (by omega)).mono ?_; rintro e w15 ⟨A15, c15, B15, d15, rfl, F15, hb⟩; replace HX := HX.ext hb; replace Pa := Pa.ext hb; replace Pb := Pb.ext hb; replace Pc := Pc.ext hb; replace F3 := F3.ext hb; replace F4 := F4.ext hb; replace F9 := F9.ext hb; replace F10 := F10.ext hb; replace F11 := F11.ext hb; replace F13 := F13.ext hb; replace F14 := F14.ext hb; clear hb)
      | (go_at_call_of 14 (Value.slice A13 (dig (nu x)).length c13); go_at_call_of 14 (Value.slice A15 (dig (nu x)).length c15); refine (bfrac_s F13 F15 (by omega) (by omega)).mono ?_; rintro e w16 ⟨rfl, hb⟩; replace HX := HX.ext hb; replace Pa := Pa.ext hb; replace Pb := Pb.ext hb; replace Pc := Pc.ext hb; replace F3 := F3.ext hb; replace F4 := F4.ext hb; replace F9 := F9.ext hb; replace F10 := F10.ext hb; replace F11 := F11.ext hb; replace F13 := F13.ext hb; replace F14 := F14.ext hb; replace F15 := F15.ext hb; clear hb))
  clear F9
  clear F10
  clear F11
  clear F13
  clear F14
  clear F15
  go_wp2_with fail
  replace HX := HX.ext (drew_ext _)
  replace Pa := Pa.ext (drew_ext _)
  replace Pb := Pb.ext (drew_ext _)
  replace Pc := Pc.ext (drew_ext _)
  replace F3 := F3.ext (drew_ext _)
  replace F4 := F4.ext (drew_ext _)
  skip
  go_region_held3 (fun W' => W'.cell? ⟨w.heap.size, 0, none⟩ = some (.bool s1) ∧ W'.cell? ⟨w.heap.size, 1, none⟩ = some (.slice A1' n1 c1') ∧ W'.cell? ⟨w.heap.size, 2, none⟩ = some (.slice B1' m1 d1') ∧ W'.cell? ⟨w.heap.size + 1, 0, none⟩ = some (.bool s2) ∧ W'.cell? ⟨w.heap.size + 1, 1, none⟩ = some (.slice A2' n2 c2') ∧ W'.cell? ⟨w.heap.size + 1, 2, none⟩ = some (.slice B2' m2 d2') ∧ W'.cell? ⟨w.heap.size + 2, 0, none⟩ = some (.bool s3) ∧ W'.cell? ⟨w.heap.size + 2, 1, none⟩ = some (.slice A3' n3 c3') ∧ W'.cell? ⟨w.heap.size + 2, 2, none⟩ = some (.slice B3' m3 d3') ∧ W'.cell? ⟨gu, 0, none⟩ = some (.bool (sg u)) ∧ W'.cell? ⟨gu, 1, none⟩ = some (.slice A3 (dig (nu u)).length c3) ∧ W'.cell? ⟨gu, 2, none⟩ = some (.slice B3 (dig u.den).length d3) ∧ W'.cell? ⟨gp, 0, none⟩ = some (.bool (sg p)) ∧ W'.cell? ⟨gp, 1, none⟩ = some (.slice A4 (dig (nu p)).length c4) ∧ W'.cell? ⟨gp, 2, none⟩ = some (.slice B4 (dig p.den).length d4))
    (exact held HX)
    (first
      | (go_at_call_of 24 (Value.slice A3' n3 c3'); go_at_call_of 24 (Value.slice A3 (dig (nu u)).length c3); refine (fmul_h Hr zr Pc F3.fr (by omega) (by omega)).mono ?_; rintro e w17 ⟨A17, c17, B17, d17, rfl, F17, hb⟩; replace HX := HX.ext hb; replace Pa := Pa.ext hb; replace Pb := Pb.ext hb; replace Pc := Pc.ext hb; replace F3 := F3.ext hb; replace F4 := F4.ext hb; clear hb)
      | (go_at_call_of 24 (Value.slice A3' n3 c3'); go_at_call_of 24 (Value.slice A1' n1 c1'); refine (fmul_h Hf zf Pc Pa (by omega) (by omega)).mono ?_; rintro e w18 ⟨A18, c18, B18, d18, rfl, F18, hb⟩; replace HX := HX.ext hb; replace Pa := Pa.ext hb; replace Pb := Pb.ext hb; replace Pc := Pc.ext hb; replace F3 := F3.ext hb; replace F4 := F4.ext hb; replace F17 := F17.ext hb; clear hb)
      | (go_at_call_of 24 (Value.slice A3' n3 c3'); go_at_call_of 24 (Value.slice A2' n2 c2'); refine (fmul_h Hh zh Pc Pb (by omega) (by omega)).mono ?_; rintro e w19 ⟨A19, c19, B19, d19, rfl, F19, hb⟩; replace HX := HX.ext hb; replace Pa := Pa.ext hb; replace Pb := Pb.ext hb; replace Pc := Pc.ext hb; replace F3 := F3.ext hb; replace F4 := F4.ext hb; replace F17 := F17.ext hb; replace F18 := F18.ext hb; clear hb)
      | (go_at_call_of 23 (Value.slice A18 (dig (nu f)).length c18); go_at_call_of 23 (Value.slice A19 (dig (nu h)).length c19); refine (fadd_h Hr2 zr F18.fr F19.fr (by omega) (by omega)).mono ?_; rintro e w20 ⟨A20, c20, B20, d20, rfl, F20, hb⟩; replace HX := HX.ext hb; replace Pa := Pa.ext hb; replace Pb := Pb.ext hb; replace Pc := Pc.ext hb; replace F3 := F3.ext hb; replace F4 := F4.ext hb; replace F17 := F17.ext hb; replace F18 := F18.ext hb; replace F19 := F19.ext hb; clear hb)
      | (go_at_call_of 14 (Value.slice A17 (dig (nu r)).length c17); go_at_call_of 14 (Value.slice A20 (dig (nu r)).length c20); refine (bfrac_s F17 F20 (by omega) (by omega)).mono ?_; rintro e w21 ⟨rfl, hb⟩; replace HX := HX.ext hb; replace Pa := Pa.ext hb; replace Pb := Pb.ext hb; replace Pc := Pc.ext hb; replace F3 := F3.ext hb; replace F4 := F4.ext hb; replace F17 := F17.ext hb; replace F18 := F18.ext hb; replace F19 := F19.ext hb; replace F20 := F20.ext hb; clear hb)
      | (go_at_call_of 25 (Value.slice A3 (dig (nu u)).length c3); go_at_call_of 25 (Value.slice A2' n2 c2'); refine (fsub_h Ha2 za F3.fr Pb (by omega) (by omega)).mono ?_; rintro e w22 ⟨A22, c22, B22, d22, rfl, F22, hb⟩; replace HX := HX.ext hb; replace Pa := Pa.ext hb; replace Pb := Pb.ext hb; replace Pc := Pc.ext hb; replace F3 := F3.ext hb; replace F4 := F4.ext hb; replace F17 := F17.ext hb; replace F18 := F18.ext hb; replace F19 := F19.ext hb; replace F20 := F20.ext hb; clear hb)
      | (go_at_call_of 17 (Value.slice A1' n1 c1'); refine (fnorm_s za Pa (by omega)).mono ?_; rintro e w23 ⟨A23, c23, B23, d23, rfl, F23, hb⟩; replace HX := HX.ext hb; replace Pa := Pa.ext hb; replace Pb := Pb.ext hb; replace Pc := Pc.ext hb; replace F3 := F3.ext hb; replace F4 := F4.ext hb; replace F17 := F17.ext hb; replace F18 := F18.ext hb; replace F19 := F19.ext hb; replace F20 := F20.ext hb; replace F22 := F22.ext hb; clear hb)
      | (go_at_call_of 14 (Value.slice A22 (dig (nu a)).length c22); go_at_call_of 14 (Value.slice A23 (dig (nu a)).length c23); refine (bfrac_s F22 F23 (by omega) (by omega)).mono ?_; rintro e w24 ⟨rfl, hb⟩; replace HX := HX.ext hb; replace Pa := Pa.ext hb; replace Pb := Pb.ext hb; replace Pc := Pc.ext hb; replace F3 := F3.ext hb; replace F4 := F4.ext hb; replace F17 := F17.ext hb; replace F18 := F18.ext hb; replace F19 := F19.ext hb; replace F20 := F20.ext hb; replace F22 := F22.ext hb; replace F23 := F23.ext hb; clear hb))
  clear F17
  clear F18
  clear F19
  clear F20
  clear F22
  clear F23
  have hc40 := HX.cell 4 0 rfl rfl
  have hc41 := HX.cell 4 1 rfl rfl
  have hc42 := HX.cell 4 2 rfl rfl
  have hc10 := HX.cell 1 0 rfl rfl
  have hc11 := HX.cell 1 1 rfl rfl
  have hc12 := HX.cell 1 2 rfl rfl
  simp only [] at hc40 hc41 hc42 hc10 hc11 hc12
  go_wp2_with fail
  refine (fdiv_h Hq hb0 za F4.fr Pb (by omega) (by omega)).mono ?_
  rintro e w25 ⟨A25, c25, B25, d25, rfl, F25, hb⟩
  clear hc40 hc41 hc42 hc10 hc11 hc12
  replace HX := HX.ext hb
  replace Pa := Pa.ext hb
  replace Pb := Pb.ext hb
  replace Pc := Pc.ext hb
  replace F3 := F3.ext hb
  replace F4 := F4.ext hb
  clear hb
  go_upto_region 11 with fail
  have hb := below_alloc w25 (.cells #[.bool (sg a), .slice A25 (dig (nu a)).length c25, .slice B25 (dig a.den).length d25] 26)
  replace HX := HX.new #[.bool (sg a), .slice A25 (dig (nu a)).length c25, .slice B25 (dig a.den).length d25] 26
  simp only [List.cons_append, List.nil_append] at HX
  replace Pa := Pa.ext hb
  replace Pb := Pb.ext hb
  replace Pc := Pc.ext hb
  replace F3 := F3.ext hb
  replace F4 := F4.ext hb
  replace F25 := F25.ext hb
  clear hb
  generalize w25.alloc (.cells #[.bool (sg a), .slice A25 (dig (nu a)).length c25, .slice B25 (dig a.den).length d25] 26) = W9 at *
  generalize w25.heap.size = gq at *
  have hc10 := HX.cell 1 0 rfl rfl
  have hc11 := HX.cell 1 1 rfl rfl
  have hc12 := HX.cell 1 2 rfl rfl
  simp only [] at hc10 hc11 hc12
  go_wp2_with fail
  refine (fsign_h Hsb Pb (by omega)).mono ?_
  rintro e w99 ⟨rfl, hb⟩
  clear hc10 hc11 hc12
  replace HX := HX.ext hb
  replace Pa := Pa.ext hb
  replace Pb := Pb.ext hb
  replace Pc := Pc.ext hb
  replace F3 := F3.ext hb
  replace F4 := F4.ext hb
  replace F25 := F25.ext hb
  clear hb
  go_wp2_with fail
  clear held
  have held : ∀ {W' : World}, BL w W' [(w.heap.size, #[.bool s1, .slice A1' n1 c1', .slice B1' m1 d1'], 26), (w.heap.size + 1, #[.bool s2, .slice A2' n2 c2', .slice B2' m2 d2'], 26), (w.heap.size + 2, #[.bool s3, .slice A3' n3 c3', .slice B3' m3 d3'], 26), (gu, #[.bool (sg u), .slice A3 (dig (nu u)).length c3, .slice B3 (dig u.den).length d3], 26), (gp, #[.bool (sg p), .slice A4 (dig (nu p)).length c4, .slice B4 (dig p.den).length d4], 26), (gq, #[.bool (sg a), .slice A25 (dig (nu a)).length c25, .slice B25 (dig a.den).length d25], 26)] → W'.cell? ⟨w.heap.size, 0, none⟩ = some (.bool s1) ∧ W'.cell? ⟨w.heap.size, 1, none⟩ = some (.slice A1' n1 c1') ∧ W'.cell? ⟨w.heap.size, 2, none⟩ = some (.slice B1' m1 d1') ∧ W'.cell? ⟨w.heap.size + 1, 0, none⟩ = some (.bool s2) ∧ W'.cell? ⟨w.heap.size + 1, 1, none⟩ = some (.slice A2' n2 c2') ∧ W'.cell? ⟨w.heap.size + 1, 2, none⟩ = some (.slice B2' m2 d2') ∧ W'.cell? ⟨w.heap.size + 2, 0, none⟩ = some (.bool s3) ∧ W'.cell? ⟨w.heap.size + 2, 1, none⟩ = some (.slice A3' n3 c3') ∧ W'.cell? ⟨w.heap.size + 2, 2, none⟩ = some (.slice B3' m3 d3') ∧ W'.cell? ⟨gu, 0, none⟩ = some (.bool (sg u)) ∧ W'.cell? ⟨gu, 1, none⟩ = some (.slice A3 (dig (nu u)).length c3) ∧ W'.cell? ⟨gu, 2, none⟩ = some (.slice B3 (dig u.den).length d3) ∧ W'.cell? ⟨gp, 0, none⟩ = some (.bool (sg p)) ∧ W'.cell? ⟨gp, 1, none⟩ = some (.slice A4 (dig (nu p)).length c4) ∧ W'.cell? ⟨gp, 2, none⟩ = some (.slice B4 (dig p.den).length d4) ∧ W'.cell? ⟨gq, 0, none⟩ = some (.bool (sg a)) ∧ W'.cell? ⟨gq, 1, none⟩ = some (.slice A25 (dig (nu a)).length c25) ∧ W'.cell? ⟨gq, 2, none⟩ = some (.slice B25 (dig a.den).length d25) := fun h => ⟨h.cell 0 0 rfl rfl, h.cell 0 1 rfl rfl, h.cell 0 2 rfl rfl, h.cell 1 0 rfl rfl, h.cell 1 1 rfl rfl, h.cell 1 2 rfl rfl, h.cell 2 0 rfl rfl, h.cell 2 1 rfl rfl, h.cell 2 2 rfl rfl, h.cell 3 0 rfl rfl, h.cell 3 1 rfl rfl, h.cell 3 2 rfl rfl, h.cell 4 0 rfl rfl, h.cell 4 1 rfl rfl, h.cell 4 2 rfl rfl, h.cell 5 0 rfl rfl, h.cell 5 1 rfl rfl, h.cell 5 2 rfl rfl⟩
  replace HX := HX.ext (drew_ext _)
  replace Pa := Pa.ext (drew_ext _)
  replace Pb := Pb.ext (drew_ext _)
  replace Pc := Pc.ext (drew_ext _)
  replace F3 := F3.ext (drew_ext _)
  replace F4 := F4.ext (drew_ext _)
  replace F25 := F25.ext (drew_ext _)
  skip
  go_region_held3 (fun W' => W'.cell? ⟨w.heap.size, 0, none⟩ = some (.bool s1) ∧ W'.cell? ⟨w.heap.size, 1, none⟩ = some (.slice A1' n1 c1') ∧ W'.cell? ⟨w.heap.size, 2, none⟩ = some (.slice B1' m1 d1') ∧ W'.cell? ⟨w.heap.size + 1, 0, none⟩ = some (.bool s2) ∧ W'.cell? ⟨w.heap.size + 1, 1, none⟩ = some (.slice A2' n2 c2') ∧ W'.cell? ⟨w.heap.size + 1, 2, none⟩ = some (.slice B2' m2 d2') ∧ W'.cell? ⟨w.heap.size + 2, 0, none⟩ = some (.bool s3) ∧ W'.cell? ⟨w.heap.size + 2, 1, none⟩ = some (.slice A3' n3 c3') ∧ W'.cell? ⟨w.heap.size + 2, 2, none⟩ = some (.slice B3' m3 d3') ∧ W'.cell? ⟨gu, 0, none⟩ = some (.bool (sg u)) ∧ W'.cell? ⟨gu, 1, none⟩ = some (.slice A3 (dig (nu u)).length c3) ∧ W'.cell? ⟨gu, 2, none⟩ = some (.slice B3 (dig u.den).length d3) ∧ W'.cell? ⟨gp, 0, none⟩ = some (.bool (sg p)) ∧ W'.cell? ⟨gp, 1, none⟩ = some (.slice A4 (dig (nu p)).length c4) ∧ W'.cell? ⟨gp, 2, none⟩ = some (.slice B4 (dig p.den).length d4) ∧ W'.cell? ⟨gq, 0, none⟩ = some (.bool (sg a)) ∧ W'.cell? ⟨gq, 1, none⟩ = some (.slice A25 (dig (nu a)).length c25) ∧ W'.cell? ⟨gq, 2, none⟩ = some (.slice B25 (dig a.den).length d25))
    (exact held HX)
    (first
      | (go_at_call_of 17 (Value.slice A1' n1 c1'); refine (fnorm_s za Pa (by omega)).mono ?_; rintro e w26 ⟨A26, c26, B26, d26, rfl, F26, hb⟩; replace HX := HX.ext hb; replace Pa := Pa.ext hb; replace Pb := Pb.ext hb; replace Pc := Pc.ext hb; replace F3 := F3.ext hb; replace F4 := F4.ext hb; replace F25 := F25.ext hb; clear hb)
      | (go_at_call_of 14 (Value.slice A25 (dig (nu a)).length c25); go_at_call_of 14 (Value.slice A26 (dig (nu a)).length c26); refine (bfrac_s F25 F26 (by omega) (by omega)).mono ?_; rintro e w27 ⟨rfl, hb⟩; replace HX := HX.ext hb; replace Pa := Pa.ext hb; replace Pb := Pb.ext hb; replace Pc := Pc.ext hb; replace F3 := F3.ext hb; replace F4 := F4.ext hb; replace F25 := F25.ext hb; replace F26 := F26.ext hb; clear hb))
  go_wp2
  go_ret
  exact ⟨rfl, HX.below⟩

set_option maxHeartbeats 4000000 in
set_option maxRecDepth 100000 in
theorem ffield_zero {s1 : Bool} {A1' B1' : Option Addr} {n1 c1' m1 d1' : Nat} {s2 : Bool} {A2' B2' : Option Addr} {n2 c2' m2 d2' : Nat} {s3 : Bool} {A3' B3' : Option Addr} {n3 c3' m3 d3' : Nat} {a b c : Rat} (w : World) (hT : Tab w) (Pa : Fr w s1 A1' n1 c1' B1' m1 d1' a 6) (Pb : Fr w s2 A2' n2 c2' B2' m2 d2' b 6) (Pc : Fr w s3 A3' n3 c3' B3' m3 d3' c 6) (hlens : Hid (∀ x ∈ [(FE.mk s1 A1' n1 c1' B1' m1 d1'), (FE.mk s2 A2' n2 c2' B2' m2 d2'), (FE.mk s3 A3' n3 c3' B3' m3 d3')], x.n ≤ 9223372036854775807 ∧ x.m ≤ 9223372036854775807)) (hfew : Hid (fewB [(FE.mk s1 A1' n1 c1' B1' m1 d1'), (FE.mk s2 A2' n2 c2' B2' m2 d2'), (FE.mk s3 A3' n3 c3' B3' m3 d3')] = true)) (hb0 : Hid (b = 0)) :
    Calls Tryd.prog 5 #[.agg #[.bool s1, .slice A1' n1 c1', .slice B1' m1 d1'], .agg #[.bool s2, .slice A2' n2 c2', .slice B2' m2 d2'], .agg #[.bool s3, .slice A3' n3 c3', .slice B3' m3 d3']] w (RetB w true) := by
  have za := Pa.sz
  have zb := Pb.sz
  have zc := Pc.sz
  obtain ⟨u, hu⟩ : ∃ u, a + b = u := ⟨_, rfl⟩
  obtain ⟨p, hp⟩ : ∃ p, a * b = p := ⟨_, rfl⟩
  obtain ⟨v, hv⟩ : ∃ v, u + c = v := ⟨_, rfl⟩
  obtain ⟨x, hx⟩ : ∃ x, p * c = x := ⟨_, rfl⟩
  obtain ⟨y, hy⟩ : ∃ y, b + c = y := ⟨_, rfl⟩
  obtain ⟨z, hz⟩ : ∃ z, b * c = z := ⟨_, rfl⟩
  obtain ⟨r, hr⟩ : ∃ r, c * u = r := ⟨_, rfl⟩
  obtain ⟨f, hf⟩ : ∃ f, c * a = f := ⟨_, rfl⟩
  obtain ⟨h, hh⟩ : ∃ h, c * b = h := ⟨_, rfl⟩
  have zu : Sz u 15 := hu ▸ za.add zb
  have zp : Sz p 14 := hp ▸ za.mul zb (by omega)
  have zv : Sz v 23 := hv ▸ zu.add zc
  have zx : Sz x 21 := hx ▸ zp.mul zc (by omega)
  have zy : Sz y 15 := hy ▸ zb.add zc
  have zz : Sz z 14 := hz ▸ zb.mul zc (by omega)
  have zr : Sz r 22 := hr ▸ zc.mul zu (by omega)
  have zf : Sz f 14 := hf ▸ zc.mul za (by omega)
  have zh : Sz h 14 := hh ▸ zc.mul zb (by omega)
  have Hu := Lib.hid hu
  have Hp := Lib.hid hp
  have Hv := Lib.hid hv
  have Hx := Lib.hid hx
  have Hy := Lib.hid hy
  have Hz := Lib.hid hz
  have Hr := Lib.hid hr
  have Hf := Lib.hid hf
  have Hh := Lib.hid hh
  have Hu2 : Hid (b + a = u) := Lib.hid (by rw [← hu]; grind)
  have Hp2 : Hid (b * a = p) := Lib.hid (by rw [← hp]; grind)
  have Hv2 : Hid (a + y = v) := Lib.hid (by rw [← hv, ← hu, ← hy]; grind)
  have Hx2 : Hid (a * z = x) := Lib.hid (by rw [← hx, ← hp, ← hz]; grind)
  have Hr2 : Hid (f + h = r) := Lib.hid (by rw [← hf, ← hh, ← hr, ← hu]; grind)
  have Ha2 : Hid (u - b = a) := Lib.hid (by rw [← hu]; grind)
  have Hsb : Hid (sgn b = 0) := Lib.hid (sgn_eq_zero.2 hb0.out)
  clear hu hp hv hx hy hz hr hf hh
  go_enter Tryd.func5, Tryd.ntmps5
  go_wp2_with fail
  have HX := BL.three w #[.bool s1, .slice A1' n1 c1', .slice B1' m1 d1'] #[.bool s2, .slice A2' n2 c2', .slice B2' m2 d2'] #[.bool s3, .slice A3' n3 c3', .slice B3' m3 d3'] 26 26 26
  replace Pa := Pa.ext HX.below
  replace Pb := Pb.ext HX.below
  replace Pc := Pc.ext HX.below
  refine (awake_h (hT.ext HX.below)).mono ?_
  rintro e w1 ⟨rfl, hb⟩
  replace HX := HX.ext hb
  replace Pa := Pa.ext hb
  replace Pb := Pb.ext hb
  replace Pc := Pc.ext hb
  clear hb
  have hc00 := HX.cell 0 0 rfl rfl
  have hc01 := HX.cell 0 1 rfl rfl
  have hc02 := HX.cell 0 2 rfl rfl
  have hc10 := HX.cell 1 0 rfl rfl
  have hc11 := HX.cell 1 1 rfl rfl
  have hc12 := HX.cell 1 2 rfl rfl
  have hc20 := HX.cell 2 0 rfl rfl
  have hc21 := HX.cell 2 1 rfl rfl
  have hc22 := HX.cell 2 2 rfl rfl
  simp only [] at hc00 hc01 hc02 hc10 hc11 hc12 hc20 hc21 hc22
  go_wp2_with fail
  have hfs := FS.lit w1 26 [(FE.mk s1 A1' n1 c1' B1' m1 d1'), (FE.mk s2 A2' n2 c2' B2' m2 d2'), (FE.mk s3 A3' n3 c3' B3' m3 d3')] #[.bool s1, .slice A1' n1 c1', .slice B1' m1 d1', .bool s2, .slice A2' n2 c2', .slice B2' m2 d2', .bool s3, .slice A3' n3 c3', .slice B3' m3 d3'] rfl
  refine (few_any _ 3 3 _ _ hfs rfl (by omega) hlens.out).mono ?_
  rintro e w2 ⟨rfl, rfl⟩
  rw [hfew.out]
  have hb := below_alloc w1 (.cells #[.bool s1, .slice A1' n1 c1', .slice B1' m1 d1', .bool s2, .slice A2' n2 c2', .slice B2' m2 d2', .bool s3, .slice A3' n3 c3', .slice B3' m3 d3'] 26)
  clear hfs hc00 hc01 hc02 hc10 hc11 hc12 hc20 hc21 hc22
  replace HX := HX.ext hb
  replace Pa := Pa.ext hb
  replace Pb := Pb.ext hb
  replace Pc := Pc.ext hb
  clear hb
  generalize w1.alloc (.cells #[.bool s1, .slice A1' n1 c1', .slice B1' m1 d1', .bool s2, .slice A2' n2 c2', .slice B2' m2 d2', .bool s3, .slice A3' n3 c3', .slice B3' m3 d3'] 26) = w2 at *
  go_upto_region 3 with fail
  clear hlens hfew
  have hwb := HX.lt 2 rfl
  simp only [] at hwb
  refine wp_region_x (al := [6, 7]) (dst := fun i => if i = 6 then 7 else 8) (zt := fun _ => (#[.bool false, .slice none 0 0, .slice none 0 0], 26)) (B := w2.heap.size) (n := 6) (r := 2) (by kernel_rfl) (by kernel_rfl) (by decide) ?_ (by kernel_rfl) (by kernel_rfl) (by intro _ _ _ d _ h; cases d <;> exact h) (sz := 10) (by rfl) (by rfl) (Nat.le_refl _) ?_
  · intro i hi
    simp only [List.mem_cons, List.not_mem_nil, or_false] at hi
    rcases hi with rfl | rfl
    · exact ⟨_, rfl, rfl, rfl, rfl, fun _ _ => by kernel_rfl⟩
    · exact ⟨_, rfl, rfl, rfl, rfl, fun _ _ => by kernel_rfl⟩
  have HE0 : Ext w2 w2.drew := drew_ext w2
  replace HX := HX.ext HE0
  replace Pa := Pa.ext HE0
  replace Pb := Pb.ext HE0
  replace Pc := Pc.ext HE0
  refine wpX_take (i := 0) (v := .agg #[.bool s1, .slice A1' n1 c1', .slice B1' m1 d1']) rfl (by kernel_rfl) (by kernel_rfl) (by kernel_rfl) (fun _ _ _ h => h) (Or.inl ⟨by rfl, fun W hW => ?_⟩) ?_
  · have h1 := (HX.ext hW).cell 0 0 rfl rfl
    have h2 := (HX.ext hW).cell 0 1 rfl rfl
    have h3 := (HX.ext hW).cell 0 2 rfl rfl
    simp only [] at h1 h2 h3
    go_simp
  try simp only [Act.put, List.setIfInBounds_toArray]
  refine wpX_take (i := 1) (v := .agg #[.bool s2, .slice A2' n2 c2', .slice B2' m2 d2']) rfl (by kernel_rfl) (by kernel_rfl) (by kernel_rfl) (fun _ _ _ h => h) (Or.inl ⟨by rfl, fun W hW => ?_⟩) ?_
  · have h1 := (HX.ext hW).cell 1 0 rfl rfl
    have h2 := (HX.ext hW).cell 1 1 rfl rfl
    have h3 := (HX.ext hW).cell 1 2 rfl rfl
    simp only [] at h1 h2 h3
    go_simp
  try simp only [Act.put]
  refine wpX_take (i := 3) (v := .agg #[.bool s1, .slice A1' n1 c1', .slice B1' m1 d1']) rfl (by kernel_rfl) (by kernel_rfl) (by kernel_rfl) (fun _ _ _ h => h) (Or.inl ⟨by rfl, fun W hW => ?_⟩) ?_
  · have h1 := (HX.ext hW).cell 0 0 rfl rfl
    have h2 := (HX.ext hW).cell 0 1 rfl rfl
    have h3 := (HX.ext hW).cell 0 2 rfl rfl
    simp only [] at h1 h2 h3
    go_simp
  try simp only [Act.put]
  refine wpX_take (i := 4) (v := .agg #[.bool s2, .slice A2' n2 c2', .slice B2' m2 d2']) rfl (by kernel_rfl) (by kernel_rfl) (by kernel_rfl) (fun _ _ _ h => h) (Or.inl ⟨by rfl, fun W hW => ?_⟩) ?_
  · have h1 := (HX.ext hW).cell 1 0 rfl rfl
    have h2 := (HX.ext hW).cell 1 1 rfl rfl
    have h3 := (HX.ext hW).cell 1 2 rfl rfl
    simp only [] at h1 h2 h3
    go_simp
  try simp only [Act.put]
  refine wpX_step (i := 2) (by kernel_rfl) rfl (fun W3 K hE hK => ?_)
  replace HX := HX.ext hE
  replace Pa := Pa.ext hE
  replace Pb := Pb.ext hE
  replace Pc := Pc.ext hE
  clear hE
  go_simp
  refine (fadd_h Hu zu Pa Pb (by omega) (by omega)).mono ?_
  rintro e w3 ⟨A3, c3, B3, d3, rfl, F3, hb⟩
  go_wp2_with fail
  refine hK.out _ _ hb ?_
  clear hK K
  replace HX := HX.ext hb
  replace Pa := Pa.ext hb
  replace Pb := Pb.ext hb
  replace Pc := Pc.ext hb
  clear hb
  try simp only [Act.put, List.setIfInBounds_toArray, List.set_cons_zero, List.set_cons_succ]
  refine wpX_step (i := 5) (by kernel_rfl) rfl (fun W4 K hE hK => ?_)
  replace HX := HX.ext hE
  replace Pa := Pa.ext hE
  replace Pb := Pb.ext hE
  replace Pc := Pc.ext hE
  replace F3 := F3.ext hE
  clear hE
  go_simp
  refine (fmul_h Hp zp Pa Pb (by omega) (by omega)).mono ?_
  rintro e w4 ⟨A4, c4, B4, d4, rfl, F4, hb⟩
  go_wp2_with fail
  refine hK.out _ _ hb ?_
  clear hK K
  replace HX := HX.ext hb
  replace Pa := Pa.ext hb
  replace Pb := Pb.ext hb
  replace Pc := Pc.ext hb
  replace F3 := F3.ext hb
  clear hb
  try simp only [Act.put, List.setIfInBounds_toArray, List.set_cons_zero, List.set_cons_succ]
  refine wpX_end (by kernel_rfl) (fun W5 ga m hE hg hm => ?_)
  replace HX := HX.ext hE
  replace Pa := Pa.ext hE
  replace Pb := Pb.ext hE
  replace Pc := Pc.ext hE
  replace F3 := F3.ext hE
  replace F4 := F4.ext hE
  clear hE
  obtain ⟨hlgu, hkgu⟩ := hg.1 6 (by simp)
  obtain ⟨hlgp, hkgp⟩ := hg.1 7 (by simp)
  have hdgugp := hg.2 6 (by simp) 7 (by simp) (by omega)
  clear hg
  simp only [putAll, Nat.reduceEqDiff, reduceIte]
  try simp only [Act.put, List.setIfInBounds_toArray, List.set_cons_zero, List.set_cons_succ]
  generalize ga 6 = gu at *
  generalize ga 7 = gp at *
  clear ga
  replace HX := HX.add hkgu
  replace HX := HX.add hkgp
  clear hkgu
  clear hkgp
  simp only [List.cons_append, List.nil_append] at HX
  have hlw := HX.below.size
  have hc0 := HX.cell 3 0 rfl rfl
  have hf0 := HX.free 3 0 rfl
  have hc1 := HX.cell 3 1 rfl rfl
  have hf1 := HX.free 3 1 rfl
  have hc2 := HX.cell 3 2 rfl rfl
  have hf2 := HX.free 3 2 rfl
  simp only [] at hc0 hc1 hc2 hf0 hf1 hf2
  refine wpAny_step (i := 8) (by kernel_rfl) rfl (by omega) (fun K hK => ?_)
  go_simp
  refine hK.out _ _ ?_
  clear hK K hc0 hc1 hc2 hf0 hf1 hf2
  have hk := HX.keep3 3 rfl rfl rfl rfl (by omega) (.bool (sg u)) (.slice A3 (dig (nu u)).length c3) (.slice B3 (dig u.den).length d3)
  replace HX := HX.put3 3 rfl (by omega) (by intro k q hk hne; match k, hk with | 0, hk => (simp at hk; subst hk; simp; omega) | 1, hk => (simp at hk; subst hk; simp; omega) | 2, hk => (simp at hk; subst hk; simp; omega) | 3, hk => (simp at hk; subst hk; simp at hne ⊢; try omega) | 4, hk => (simp at hk; subst hk; simp at hne ⊢; try omega) | k + 5, hk => simp at hk) (.bool (sg u)) (.slice A3 (dig (nu u)).length c3) (.slice B3 (dig u.den).length d3)
  replace Pa := Pa.stay hk
  replace Pb := Pb.stay hk
  replace Pc := Pc.stay hk
  replace F3 := F3.stay hk
  replace F4 := F4.stay hk
  simp only [List.set_cons_zero, List.set_cons_succ] at HX
  have hc0 := HX.cell 4 0 rfl rfl
  have hf0 := HX.free 4 0 rfl
  have hc1 := HX.cell 4 1 rfl rfl
  have hf1 := HX.free 4 1 rfl
  have hc2 := HX.cell 4 2 rfl rfl
  have hf2 := HX.free 4 2 rfl
  simp only [] at hc0 hc1 hc2 hf0 hf1 hf2
  refine wpAny_step (i := 9) (by kernel_rfl) rfl (by omega) (fun K hK => ?_)
  go_simp
  refine hK.out _ _ ?_
  clear hK K hc0 hc1 hc2 hf0 hf1 hf2
  have hk := HX.keep3 4 rfl rfl rfl rfl (by omega) (.bool (sg p)) (.slice A4 (dig (nu p)).length c4) (.slice B4 (dig p.den).length d4)
  replace HX := HX.put3 4 rfl (by omega) (by intro k q hk hne; match k, hk with | 0, hk => (simp at hk; subst hk; simp; omega) | 1, hk => (simp at hk; subst hk; simp; omega) | 2, hk => (simp at hk; subst hk; simp; omega) | 3, hk => (simp at hk; subst hk; simp at hne ⊢; try omega) | 4, hk => (simp at hk; subst hk; simp at hne ⊢; try omega) | k + 5, hk => simp at hk) (.bool (sg p)) (.slice A4 (dig (nu p)).length c4) (.slice B4 (dig p.den).length d4)
  replace Pa := Pa.stay hk
  replace Pb := Pb.stay hk
  replace Pc := Pc.stay hk
  replace F3 := F3.stay hk
  replace F4 := F4.stay hk
  simp only [List.set_cons_zero, List.set_cons_succ] at HX
  refine wpAny_done (by kernel_rfl) ?_ _
  generalize hW : ((((((W5.setCell ⟨gu, 0, none⟩ _).setCell ⟨gu, 1, none⟩ _).setCell ⟨gu, 2, none⟩ _).setCell ⟨gp, 0, none⟩ _).setCell ⟨gp, 1, none⟩ _).setCell ⟨gp, 2, none⟩ _) = W6 at *
  clear hW
  go_wp2_with fail
  have held : ∀ {W' : World}, BL w W' [(w.heap.size, #[.bool s1, .slice A1' n1 c1', .slice B1' m1 d1'], 26), (w.heap.size + 1, #[.bool s2, .slice A2' n2 c2', .slice B2' m2 d2'], 26), (w.heap.size + 2, #[.bool s3, .slice A3' n3 c3', .slice B3' m3 d3'], 26), (gu, #[.bool (sg u), .slice A3 (dig (nu u)).length c3, .slice B3 (dig u.den).length d3], 26), (gp, #[.bool (sg p), .slice A4 (dig (nu p)).length c4, .slice B4 (dig p.den).length d4], 26)] → W'.cell? ⟨w.heap.size, 0, none⟩ = some (.bool s1) ∧ W'.cell? ⟨w.heap.size, 1, none⟩ = some (.slice A1' n1 c1') ∧ W'.cell? ⟨w.heap.size, 2, none⟩ = some (.slice B1' m1 d1') ∧ W'.cell? ⟨w.heap.size + 1, 0, none⟩ = some (.bool s2) ∧ W'.cell? ⟨w.heap.size + 1, 1, none⟩ = some (.slice A2' n2 c2') ∧ W'.cell? ⟨w.heap.size + 1, 2, none⟩ = some (.slice B2' m2 d2') ∧ W'.cell? ⟨w.heap.size + 2, 0, none⟩ = some (.bool s3) ∧ W'.cell? ⟨w.heap.size + 2, 1, none⟩ = some (.slice A3' n3 c3') ∧ W'.cell? ⟨w.heap.size + 2, 2, none⟩ = some (.slice B3' m3 d3') ∧ W'.cell? ⟨gu, 0, none⟩ = some (.bool (sg u)) ∧ W'.cell? ⟨gu, 1, none⟩ = some (.slice A3 (dig (nu u)).length c3) ∧ W'.cell? ⟨gu, 2, none⟩ = some (.slice B3 (dig u.den).length d3) ∧ W'.cell? ⟨gp, 0, none⟩ = some (.bool (sg p)) ∧ W'.cell? ⟨gp, 1, none⟩ = some (.slice A4 (dig (nu p)).length c4) ∧ W'.cell? ⟨gp, 2, none⟩ = some (.slice B4 (dig p.den).length d4) := fun h => ⟨h.cell 0 0 rfl rfl, h.cell 0 1 rfl rfl, h.cell 0 2 rfl rfl, h.cell 1 0 rfl rfl, h.cell 1 1 rfl rfl, h.cell 1 2 rfl rfl, h.cell 2 0 rfl rfl, h.cell 2 1 rfl rfl, h.cell 2 2 rfl rfl, h.cell 3 0 rfl rfl, h.cell 3 1 rfl rfl, h.cell 3 2 rfl rfl, h.cell 4 0 rfl rfl, h.cell 4 1 rfl rfl, h.cell 4 2 rfl rfl⟩
  replace HX := HX.ext (drew_ext _)
  replace Pa := Pa.ext (drew_ext _)
  replace Pb := Pb.ext (drew_ext _)
  replace Pc := Pc.ext (drew_ext _)
  replace F3 := F3.ext (drew_ext _)
  replace F4 := F4.ext (drew_ext _)
  skip
  go_region_held3 (fun W' => W'.cell? ⟨w.heap.size, 0, none⟩ = some (.bool s1) ∧ W'.cell? ⟨w.heap.size, 1, none⟩ = some (.slice A1' n1 c1') ∧ W'.cell? ⟨w.heap.size, 2, none⟩ = some (.slice B1' m1 d1') ∧ W'.cell? ⟨w.heap.size + 1, 0, none⟩ = some (.bool s2) ∧ W'.cell? ⟨w.heap.size + 1, 1, none⟩ = some (.slice A2' n2 c2') ∧ W'.cell? ⟨w.heap.size + 1, 2, none⟩ = some (.slice B2' m2 d2') ∧ W'.cell? ⟨w.heap.size + 2, 0, none⟩ = some (.bool s3) ∧ W'.cell? ⟨w.heap.size + 2, 1, none⟩ = some (.slice A3' n3 c3') ∧ W'.cell? ⟨w.heap.size + 2, 2, none⟩ = some (.slice B3' m3 d3') ∧ W'.cell? ⟨gu, 0, none⟩ = some (.bool (sg u)) ∧ W'.cell? ⟨gu, 1, none⟩ = some (.slice A3 (dig (nu u)).length c3) ∧ W'.cell? ⟨gu, 2, none⟩ = some (.slice B3 (dig u.den).length d3) ∧ W'.cell? ⟨gp, 0, none⟩ = some (.bool (sg p)) ∧ W'.cell? ⟨gp, 1, none⟩ = some (.slice A4 (dig (nu p)).length c4) ∧ W'.cell? ⟨gp, 2, none⟩ = some (.slice B4 (dig p.den).length d4))
    (exact held HX)
    (first
      | (go_at_call_of 23 (Value.slice A2' n2 c2'); go_at_call_of 23 (Value.slice A1' n1 c1'); refine (fadd_h Hu2 zu Pb Pa (by omega) (by omega)).mono ?_; rintro e w5 ⟨A5, c5, B5, d5, rfl, F5, hb⟩; replace HX := HX.ext hb; replace Pa := Pa.ext hb; replace Pb := Pb.ext hb; replace Pc := Pc.ext hb; replace F3 := F3.ext hb; replace F4 := F4.ext hb; clear hb)
      | (go_at_call_of 14 (Value.slice A3 (dig (nu u)).length c3); go_at_call_of 14 (Value.slice A5 (dig (nu u)).length c5); refine (bfrac_s F3 F5 (by omega) (by omega)).mono ?_; rintro e w6 ⟨rfl, hb⟩; replace HX := HX.ext hb; replace Pa := Pa.ext hb; replace Pb := Pb.ext hb; replace Pc := Pc.ext hb; replace F3 := F3.ext hb; replace F4 := F4.ext hb; replace F5 := F5.ext hb; clear hb)
      | (go_at_call_of 24 (Value.slice A2' n2 c2'); go_at_call_of 24 (Value.slice A1' n1 c1'); refine (fmul_h Hp2 zp Pb Pa (by omega) (by omega)).mono ?_; rintro e w7 ⟨A7, c7, B7, d7, rfl, F7, hb⟩; replace HX := HX.ext hb; replace Pa := Pa.ext hb; replace Pb := Pb.ext hb; replace Pc := Pc.ext hb; replace F3 := F3.ext hb; replace F4 := F4.ext hb; replace F5 := F5.ext hb; clear hb)
      | (go_at_call_of 14 (Value.slice A4 (dig (nu p)).length c4); go_at_call_of 14 (Value.slice A7 (dig (nu p)).length c7); refine (bfrac_s F4 F7 (by omega) (by omega)).mono ?_; rintro e w8 ⟨rfl, hb⟩; replace HX := HX.ext hb; replace Pa := Pa.ext hb; replace Pb := Pb.ext hb; replace Pc := Pc.ext hb; replace F3 := F3.ext hb; replace F4 := F4.ext hb; replace F5 := F5.ext hb; replace F7 := F7.ext hb; clear hb))
  clear F5
  clear F7
  go_wp2_with fail
  replace HX := HX.ext (drew_ext _)
  replace Pa := Pa.ext (drew_ext _)
  replace Pb := Pb.ext (drew_ext _)
  replace Pc := Pc.ext (drew_ext _)
  replace F3 := F3.ext (drew_ext _)
  replace F4 := F4.ext (drew_ext _)
  skip
  go_region_held3 (fun W' => W'.cell? ⟨w.heap.size, 0, none⟩ = some (.bool s1) ∧ W'.cell? ⟨w.heap.size, 1, none⟩ = some (.slice A1' n1 c1') ∧ W'.cell? ⟨w.heap.size, 2, none⟩ = some (.slice B1' m1 d1') ∧ W'.cell? ⟨w.heap.size + 1, 0, none⟩ = some (.bool s2) ∧ W'.cell? ⟨w.heap.size + 1, 1, none⟩ = some (.slice A2' n2 c2') ∧ W'.cell? ⟨w.heap.size + 1, 2, none⟩ = some (.slice B2' m2 d2') ∧ W'.cell? ⟨w.heap.size + 2, 0, none⟩ = some (.bool s3) ∧ W'.cell? ⟨w.heap.size + 2, 1, none⟩ = some (.slice A3' n3 c3') ∧ W'.cell? ⟨w.heap.size + 2, 2, none⟩ = some (.slice B3' m3 d3') ∧ W'.cell? ⟨gu, 0, none⟩ = some (.bool (sg u)) ∧ W'.cell? ⟨gu, 1, none⟩ = some (.slice A3 (dig (nu u)).length c3) ∧ W'.cell? ⟨gu, 2, none⟩ = some (.slice B3 (dig u.den).length d3) ∧ W'.cell? ⟨gp, 0, none⟩ = some (.bool (sg p)) ∧ W'.cell? ⟨gp, 1, none⟩ = some (.slice A4 (dig (nu p)).length c4) ∧ W'.cell? ⟨gp, 2, none⟩ = some (.slice B4 (dig p.den).length d4))
    (exact held HX)
    (first
      | (go_at_call_of 23 (Value.slice A3 (dig (nu u)).length c3); go_at_call_of 23 (Value.slice A3' n3 c3'); refine (fadd_h Hv zv F3.fr Pc (by omega) (by omega)).mono ?_; rintro e w9 ⟨A9, c9, B9, d9, rfl, F9, hb⟩; replace HX := HX.ext hb; replace Pa := Pa.ext hb; replace Pb := Pb.ext hb; replace Pc := Pc.ext hb; replace F3 := F3.ext hb; replace F4 := F4.ext hb; clear hb)
      | (go_at_call_of 23 (Value.slice A2' n2 c2'); go_at_call_of 23 (Value.slice A3' n3 c3'); refine (fadd_h Hy zy Pb Pc (by omega) (by omega)).mono ?_; rintro e w10 ⟨A10, c10, B10, d10, rfl, F10, hb⟩; replace HX := HX.ext hb; replace Pa := Pa.ext hb; replace Pb := Pb.ext hb; replace Pc := Pc.ext hb; replace F3 := F3.ext hb; replace F4 := F4.ext hb; replace F9 := F9.ext hb; clear hb)
      | (go_at_call_of 23 (Value.slice A1' n1 c1'); go_at_call_of 23 (Value.slice A10 (dig (nu y)).length c10); refine (fadd_h Hv2 zv Pa F10.fr (by omega) (by omega)).mono ?_; rintro e w11 ⟨A11, c11, B11, d11, rfl, F11, hb⟩; replace HX := HX.ext hb; replace Pa := Pa.ext hb; replace Pb := Pb.ext hb; replace Pc := Pc.ext hb; replace F3 := F3.ext hb; replace F4 := F4.ext hb; replace F9 := F9.ext hb; replace F10 := F10.ext hb; clear hb)
      | (go_at_call_of 14 (Value.slice A9 (dig (nu v)).length c9); go_at_call_of 14 (Value.slice A11 (dig (nu v)).length c11); refine (bfrac_s F9 F11 (by omega) (by omega)).mono ?_; rintro e w12 ⟨rfl, hb⟩; replace HX := HX.ext hb; replace Pa := Pa.ext hb; replace Pb := Pb.ext hb; replace Pc := Pc.ext hb; replace F3 := F3.ext hb; replace F4 := F4.ext hb; replace F9 := F9.ext hb; replace F10 := F10.ext hb; replace F11 := F11.ext hb; clear hb)
      | (go_at_call_of 24 (Value.slice A4 (dig (nu p)).length c4); go_at_call_of 24 (Value.slice A3' n3 c3'); refine (fmul_h Hx zx F4.fr Pc (by omega) (by omega)).mono ?_; rintro e w13 ⟨A13, c13, B13, d13, rfl, F13, hb⟩; replace HX := HX.ext hb; replace Pa := Pa.ext hb; replace Pb := Pb.ext hb; replace Pc := Pc.ext hb; replace F3 := F3.ext hb; replace F4 := F4.ext hb; replace F9 := F9.ext hb; replace F10 := F10.ext hb; replace F11 := F11.ext hb; clear hb)
      | (go_at_call_of 24 (Value.slice A2' n2 c2'); go_at_call_of 24 (Value.slice A3' n3 c3'); refine (fmul_h Hz zz Pb Pc (by omega) (by omega)).mono ?_; rintro e w14 ⟨A14, c14, B14, d14, rfl, F14, hb⟩; replace HX := HX.ext hb; replace Pa := Pa.ext hb; replace Pb := Pb.ext hb; replace Pc := Pc.ext hb; replace F3 := F3.ext hb; replace F4 := F4.ext hb; replace F9 := F9.ext hb; replace F10 := F10.ext hb; replace F11 := F11.ext hb; replace F13 := F13.ext hb; clear hb)
      | (go_at_call_of 24 (Value.slice A1' n1 c1'); go_at_call_of 24 (Value.slice A14 (dig (nu z)).length c14); refine (fmul_h Hx2 zx Pa F14.fr (by omega) (by omega)).mono ?_; rintro e w15 ⟨A15, c15, B15, d15, rfl, F15, hb⟩; replace HX := HX.ext hb; replace Pa := Pa.ext hb; replace Pb := Pb.ext hb; replace Pc := Pc.ext hb; replace F3 := F3.ext hb; replace F4 := F4.ext hb; replace F9 := F9.ext hb; replace F10 := F10.ext hb; replace F11 := F11.ext hb; replace F13 := F13.ext hb; replace F14 := F14.ext hb; clear hb)
      | (go_at_call_of 14 (Value.slice A13 (dig (nu x)).length c13); go_at_call_of 14 (Value.slice A15 (dig (nu x)).length c15); refine (bfrac_s F13 F15 (by omega) (by omega)).mono ?_; rintro e w16 ⟨rfl, hb⟩; replace HX := HX.ext hb; replace Pa := Pa.ext hb; replace Pb := Pb.ext hb; replace Pc := Pc.ext hb; replace F3 := F3.ext hb; replace F4 := F4.ext hb; replace F9 := F9.ext hb; replace F10 := F10.ext hb; replace F11 := F11.ext hb; replace F13 := F13.ext hb; replace F14 := F14.ext hb; replace F15 := F15.ext hb; clear hb))
  clear F9
  clear F10
  clear F11
  clear F13
  clear F14
  clear F15
  go_wp2_with fail
  replace HX := HX.ext (drew_ext _)
  replace Pa := Pa.ext (drew_ext _)
  replace Pb := Pb.ext (drew_ext _)
  replace Pc := Pc.ext (drew_ext _)
  replace F3 := F3.ext (drew_ext _)
  replace F4 := F4.ext (drew_ext _)
  skip
  go_region_held3 (fun W' => W'.cell? ⟨w.heap.size, 0, none⟩ = some (.bool s1) ∧ W'.cell? ⟨w.heap.size, 1, none⟩ = some (.slice A1' n1 c1') ∧ W'.cell? ⟨w.heap.size, 2, none⟩ = some (.slice B1' m1 d1') ∧ W'.cell? ⟨w.heap.size + 1, 0, none⟩ = some (.bool s2) ∧ W'.cell? ⟨w.heap.size + 1, 1, none⟩ = some (.slice A2' n2 c2') ∧ W'.cell? ⟨w.heap.size + 1, 2, none⟩ = some (.slice B2' m2 d2') ∧ W'.cell? ⟨w.heap.size + 2, 0, none⟩ = some (.bool s3) ∧ W'.cell? ⟨w.heap.size + 2, 1, none⟩ = some (.slice A3' n3 c3') ∧ W'.cell? ⟨w.heap.size + 2, 2, none⟩ = some (.slice B3' m3 d3') ∧ W'.cell? ⟨gu, 0, none⟩ = some (.bool (sg u)) ∧ W'.cell? ⟨gu, 1, none⟩ = some (.slice A3 (dig (nu u)).length c3) ∧ W'.cell? ⟨gu, 2, none⟩ = some (.slice B3 (dig u.den).length d3) ∧ W'.cell? ⟨gp, 0, none⟩ = some (.bool (sg p)) ∧ W'.cell? ⟨gp, 1, none⟩ = some (.slice A4 (dig (nu p)).length c4) ∧ W'.cell? ⟨gp, 2, none⟩ = some (.slice B4 (dig p.den).length d4))
    (exact held HX)
    (first
      | (go_at_call_of 24 (Value.slice A3' n3 c3'); go_at_call_of 24 (Value.slice A3 (dig (nu u)).length c3); refine (fmul_h Hr zr Pc F3.fr (by omega) (by omega)).mono ?_; rintro e w17 ⟨A17, c17, B17, d17, rfl, F17, hb⟩; replace HX := HX.ext hb; replace Pa := Pa.ext hb; replace Pb := Pb.ext hb; replace Pc := Pc.ext hb; replace F3 := F3.ext hb; replace F4 := F4.ext hb; clear hb)
      | (go_at_call_of 24 (Value.slice A3' n3 c3'); go_at_call_of 24 (Value.slice A1' n1 c1'); refine (fmul_h Hf zf Pc Pa (by omega) (by omega)).mono ?_; rintro e w18 ⟨A18, c18, B18, d18, rfl, F18, hb⟩; replace HX := HX.ext hb; replace Pa := Pa.ext hb; replace Pb := Pb.ext hb; replace Pc := Pc.ext hb; replace F3 := F3.ext hb; replace F4 := F4.ext hb; replace F17 := F17.ext hb; clear hb)
      | (go_at_call_of 24 (Value.slice A3' n3 c3'); go_at_call_of 24 (Value.slice A2' n2 c2'); refine (fmul_h Hh zh Pc Pb (by omega) (by omega)).mono ?_; rintro e w19 ⟨A19, c19, B19, d19, rfl, F19, hb⟩; replace HX := HX.ext hb; replace Pa := Pa.ext hb; replace Pb := Pb.ext hb; replace Pc := Pc.ext hb; replace F3 := F3.ext hb; replace F4 := F4.ext hb; replace F17 := F17.ext hb; replace F18 := F18.ext hb; clear hb)
      | (go_at_call_of 23 (Value.slice A18 (dig (nu f)).length c18); go_at_call_of 23 (Value.slice A19 (dig (nu h)).length c19); refine (fadd_h Hr2 zr F18.fr F19.fr (by omega) (by omega)).mono ?_; rintro e w20 ⟨A20, c20, B20, d20, rfl, F20, hb⟩; replace HX := HX.ext hb; replace Pa := Pa.ext hb; replace Pb := Pb.ext hb; replace Pc := Pc.ext hb; replace F3 := F3.ext hb; replace F4 := F4.ext hb; replace F17 := F17.ext hb; replace F18 := F18.ext hb; replace F19 := F19.ext hb; clear hb)
      | (go_at_call_of 14 (Value.slice A17 (dig (nu r)).length c17); go_at_call_of 14 (Value.slice A20 (dig (nu r)).length c20); refine (bfrac_s F17 F20 (by omega) (by omega)).mono ?_; rintro e w21 ⟨rfl, hb⟩; replace HX := HX.ext hb; replace Pa := Pa.ext hb; replace Pb := Pb.ext hb; replace Pc := Pc.ext hb; replace F3 := F3.ext hb; replace F4 := F4.ext hb; replace F17 := F17.ext hb; replace F18 := F18.ext hb; replace F19 := F19.ext hb; replace F20 := F20.ext hb; clear hb)
      | (go_at_call_of 25 (Value.slice A3 (dig (nu u)).length c3); go_at_call_of 25 (Value.slice A2' n2 c2'); refine (fsub_h Ha2 za F3.fr Pb (by omega) (by omega)).mono ?_; rintro e w22 ⟨A22, c22, B22, d22, rfl, F22, hb⟩; replace HX := HX.ext hb; replace Pa := Pa.ext hb; replace Pb := Pb.ext hb; replace Pc := Pc.ext hb; replace F3 := F3.ext hb; replace F4 := F4.ext hb; replace F17 := F17.ext hb; replace F18 := F18.ext hb; replace F19 := F19.ext hb; replace F20 := F20.ext hb; clear hb)
      | (go_at_call_of 17 (Value.slice A1' n1 c1'); refine (fnorm_s za Pa (by omega)).mono ?_; rintro e w23 ⟨A23, c23, B23, d23, rfl, F23, hb⟩; replace HX := HX.ext hb; replace Pa := Pa.ext hb; replace Pb := Pb.ext hb; replace Pc := Pc.ext hb; replace F3 := F3.ext hb; replace F4 := F4.ext hb; replace F17 := F17.ext hb; replace F18 := F18.ext hb; replace F19 := F19.ext hb; replace F20 := F20.ext hb; replace F22 := F22.ext hb; clear hb)
      | (go_at_call_of 14 (Value.slice A22 (dig (nu a)).length c22); go_at_call_of 14 (Value.slice A23 (dig (nu a)).length c23); refine (bfrac_s F22 F23 (by omega) (by omega)).mono ?_; rintro e w24 ⟨rfl, hb⟩; replace HX := HX.ext hb; replace Pa := Pa.ext hb; replace Pb := Pb.ext hb; replace Pc := Pc.ext hb; replace F3 := F3.ext hb; replace F4 := F4.ext hb; replace F17 := F17.ext hb; replace F18 := F18.ext hb; replace F19 := F19.ext hb; replace F20 := F20.ext hb; replace F22 := F22.ext hb; replace F23 := F23.ext hb; clear hb))
  clear F17
  clear F18
  clear F19
  clear F20
  clear F22
  clear F23
  have hc40 := HX.cell 4 0 rfl rfl
  have hc41 := HX.cell 4 1 rfl rfl
  have hc42 := HX.cell 4 2 rfl rfl
  have hc10 := HX.cell 1 0 rfl rfl
  have hc11 := HX.cell 1 1 rfl rfl
  have hc12 := HX.cell 1 2 rfl rfl
  simp only [] at hc40 hc41 hc42 hc10 hc11 hc12
  go_wp2_with fail
  refine (fdivz_h hb0 Pb (by omega)).mono ?_
  rintro e w25 ⟨rfl, hb⟩
  clear hc40 hc41 hc42 hc10 hc11 hc12
  replace HX := HX.ext hb
  replace Pa := Pa.ext hb
  replace Pb := Pb.ext hb
  replace Pc := Pc.ext hb
  replace F3 := F3.ext hb
  replace F4 := F4.ext hb
  clear hb
  go_upto_region 11 with fail
  have hb := below_alloc w25 (.cells #[.bool false, .slice none 0 0, .slice none 0 0] 26)
  replace HX := HX.new #[.bool false, .slice none 0 0, .slice none 0 0] 26
  simp only [List.cons_append, List.nil_append] at HX
  replace Pa := Pa.ext hb
  replace Pb := Pb.ext hb
  replace Pc := Pc.ext hb
  replace F3 := F3.ext hb
  replace F4 := F4.ext hb
  clear hb
  generalize w25.alloc (.cells #[.bool false, .slice none 0 0, .slice none 0 0] 26) = W9 at *
  generalize w25.heap.size = gq at *
  have hc10 := HX.cell 1 0 rfl rfl
  have hc11 := HX.cell 1 1 rfl rfl
  have hc12 := HX.cell 1 2 rfl rfl
  simp only [] at hc10 hc11 hc12
  go_wp2_with fail
  refine (fsign_h Hsb Pb (by omega)).mono ?_
  rintro e w99 ⟨rfl, hb⟩
  clear hc10 hc11 hc12
  replace HX := HX.ext hb
  replace Pa := Pa.ext hb
  replace Pb := Pb.ext hb
  replace Pc := Pc.ext hb
  replace F3 := F3.ext hb
  replace F4 := F4.ext hb
  clear hb
  go_wp2
  go_ret
  exact ⟨rfl, HX.below⟩

theorem ffield_any {s1 : Bool} {A1' B1' : Option Addr} {n1 c1' m1 d1' : Nat} {s2 : Bool} {A2' B2' : Option Addr} {n2 c2' m2 d2' : Nat} {s3 : Bool} {A3' B3' : Option Addr} {n3 c3' m3 d3' : Nat} (w : World) (hT : Tab w) (Pa : Arg w s1 A1' n1 c1' B1' m1 d1') (Pb : Arg w s2 A2' n2 c2' B2' m2 d2') (Pc : Arg w s3 A3' n3 c3' B3' m3 d3') :
    Calls Tryd.prog 5 #[.agg #[.bool s1, .slice A1' n1 c1', .slice B1' m1 d1'], .agg #[.bool s2, .slice A2' n2 c2', .slice B2' m2 d2'], .agg #[.bool s3, .slice A3' n3 c3', .slice B3' m3 d3']] w (RetB w true) := by
  have hlens : ∀ x ∈ [(FE.mk s1 A1' n1 c1' B1' m1 d1'), (FE.mk s2 A2' n2 c2' B2' m2 d2'), (FE.mk s3 A3' n3 c3' B3' m3 d3')], x.n ≤ 9223372036854775807 ∧ x.m ≤ 9223372036854775807 := by
    intro x hx
    simp only [List.mem_cons, List.not_mem_nil, or_false] at hx
    rcases hx with rfl | rfl | rfl
    · exact ⟨Pa.hn, Pa.hm⟩
    · exact ⟨Pb.hn, Pb.hm⟩
    · exact ⟨Pc.hn, Pc.hm⟩
  cases hf : fewB [(FE.mk s1 A1' n1 c1' B1' m1 d1'), (FE.mk s2 A2' n2 c2' B2' m2 d2'), (FE.mk s3 A3' n3 c3' B3' m3 d3')]
  · exact ffield_few w hT (Lib.hid hlens) (Lib.hid hf)
  · have hf2 := hf
    rw [fewB3] at hf2
    simp only [Bool.and_eq_true, decide_eq_true_eq] at hf2
    obtain ⟨a, Pa'⟩ : ∃ q, Fr w s1 A1' n1 c1' B1' m1 d1' q 6 := Pa.fr (by omega) (by omega)
    obtain ⟨b, Pb'⟩ : ∃ q, Fr w s2 A2' n2 c2' B2' m2 d2' q 6 := Pb.fr (by omega) (by omega)
    obtain ⟨c, Pc'⟩ : ∃ q, Fr w s3 A3' n3 c3' B3' m3 d3' q 6 := Pc.fr (by omega) (by omega)
    by_cases hb0 : b = 0
    · exact ffield_zero w hT Pa' Pb' Pc' (Lib.hid hlens) (Lib.hid hf) (Lib.hid hb0)
    · exact ffield_pos w hT Pa' Pb' Pc' (Lib.hid hlens) (Lib.hid hf) (Lib.hid hb0)
end Go.Proofs.YtfndbmflllmpgaaDoor
