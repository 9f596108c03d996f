/- The statement FractionOrder: its walk. -/
import Derived.Test.YtfndbmflllmpgaaDoorOps
namespace Go.Proofs.YtfndbmflllmpgaaDoor
open Go.RowKit Go.Proofs Go

theorem wrap_small {x : Int} (h1 : -2 ≤ x) (h2 : x ≤ 2) : IntKind.i64.wrap x = x := IntWalk.i64_in x (by omega)
theorem sgn_bd (q : Rat) : -1 ≤ sgn q ∧ sgn q ≤ 1 := by rcases sgn_cases q with h | h | h <;> rw [h.2] <;> omega
theorem mul_bd {n s : Int} (h1 : -1 ≤ n) (h2 : n ≤ 1) (h3 : -1 ≤ s) (h4 : s ≤ 1) : -2 ≤ n * s ∧ n * s ≤ 2 := by
  have e1 : n = -1 ∨ n = 0 ∨ n = 1 := by omega
  have e2 : s = -1 ∨ s = 0 ∨ s = 1 := by omega
  rcases e1 with rfl | rfl | rfl <;> rcases e2 with rfl | rfl | rfl <;> decide
theorem one_rv : rv false 1 1 = 1 := by rw [rv_one]; rfl

set_option maxHeartbeats 800000 in
set_option maxRecDepth 100000 in
theorem forder_few {s1 : Bool} {A1' B1' : Option Addr} {n1 c1' m1 d1' : Nat} {s2 : Bool} {A2' B2' : Option Addr} {n2 c2' m2 d2' : Nat} {s3 : Bool} {A3' B3' : Option Addr} {n3 c3' m3 d3' : Nat} (w : World) (hT : Tab w) (hlens : Hid (∀ x ∈ [(FE.mk s1 A1' n1 c1' B1' m1 d1'), (FE.mk s2 A2' n2 c2' B2' m2 d2'), (FE.mk s3 A3' n3 c3' B3' m3 d3')], x.n ≤ 9223372036854775807 ∧ x.m ≤ 9223372036854775807)) (hfew : Hid (fewB [(FE.mk s1 A1' n1 c1' B1' m1 d1'), (FE.mk s2 A2' n2 c2' B2' m2 d2'), (FE.mk s3 A3' n3 c3' B3' m3 d3')] = false)) :
    Calls Tryd.prog 8 #[.agg #[.bool s1, .slice A1' n1 c1', .slice B1' m1 d1'], .agg #[.bool s2, .slice A2' n2 c2', .slice B2' m2 d2'], .agg #[.bool s3, .slice A3' n3 c3', .slice B3' m3 d3']] w (RetB w true) := by
  go_enter Tryd.func8, Tryd.ntmps8
  go_wp2_with fail
  have HX := BL.three w #[.bool s1, .slice A1' n1 c1', .slice B1' m1 d1'] #[.bool s2, .slice A2' n2 c2', .slice B2' m2 d2'] #[.bool s3, .slice A3' n3 c3', .slice B3' m3 d3'] 26 26 26
  refine (awake_h (hT.ext HX.below)).mono ?_
  rintro e w1 ⟨rfl, hb⟩
  replace HX := HX.ext hb
  clear hb
  have hc00 := HX.cell 0 0 rfl rfl
  have hc01 := HX.cell 0 1 rfl rfl
  have hc02 := HX.cell 0 2 rfl rfl
  have hc10 := HX.cell 1 0 rfl rfl
  have hc11 := HX.cell 1 1 rfl rfl
  have hc12 := HX.cell 1 2 rfl rfl
  have hc20 := HX.cell 2 0 rfl rfl
  have hc21 := HX.cell 2 1 rfl rfl
  have hc22 := HX.cell 2 2 rfl rfl
  simp only [] at hc00 hc01 hc02 hc10 hc11 hc12 hc20 hc21 hc22
  go_wp2_with fail
  have hfs := FS.lit w1 26 [(FE.mk s1 A1' n1 c1' B1' m1 d1'), (FE.mk s2 A2' n2 c2' B2' m2 d2'), (FE.mk s3 A3' n3 c3' B3' m3 d3')] #[.bool s1, .slice A1' n1 c1', .slice B1' m1 d1', .bool s2, .slice A2' n2 c2', .slice B2' m2 d2', .bool s3, .slice A3' n3 c3', .slice B3' m3 d3'] rfl
  refine (few_any _ 3 3 _ _ hfs rfl (by omega) hlens.out).mono ?_
  rintro e w2 ⟨rfl, rfl⟩
  rw [hfew.out]
  have hb := below_alloc w1 (.cells #[.bool s1, .slice A1' n1 c1', .slice B1' m1 d1', .bool s2, .slice A2' n2 c2', .slice B2' m2 d2', .bool s3, .slice A3' n3 c3', .slice B3' m3 d3'] 26)
  clear hfs hc00 hc01 hc02 hc10 hc11 hc12 hc20 hc21 hc22
  replace HX := HX.ext hb
  clear hb
  generalize w1.alloc (.cells #[.bool s1, .slice A1' n1 c1', .slice B1' m1 d1', .bool s2, .slice A2' n2 c2', .slice B2' m2 d2', .bool s3, .slice A3' n3 c3', .slice B3' m3 d3'] 26) = w2 at *
  go_wp2_with fail
  refine (awake_h (hT.ext HX.below)).mono ?_
  rintro e w3 ⟨rfl, hb⟩
  replace HX := HX.ext hb
  go_wp2
  go_ret
  exact ⟨rfl, HX.below⟩

set_option maxHeartbeats 4000000 in
set_option maxRecDepth 100000 in
theorem forder_yes {s1 : Bool} {A1' B1' : Option Addr} {n1 c1' m1 d1' : Nat} {s2 : Bool} {A2' B2' : Option Addr} {n2 c2' m2 d2' : Nat} {s3 : Bool} {A3' B3' : Option Addr} {n3 c3' m3 d3' : Nat} {a b c : Rat} (w : World) (hT : Tab w) (Pa : Fr w s1 A1' n1 c1' B1' m1 d1' a 6) (Pb : Fr w s2 A2' n2 c2' B2' m2 d2' b 6) (Pc : Fr w s3 A3' n3 c3' B3' m3 d3' c 6) (hlens : Hid (∀ x ∈ [(FE.mk s1 A1' n1 c1' B1' m1 d1'), (FE.mk s2 A2' n2 c2' B2' m2 d2'), (FE.mk s3 A3' n3 c3' B3' m3 d3')], x.n ≤ 9223372036854775807 ∧ x.m ≤ 9223372036854775807)) (hfew : Hid (fewB [(FE.mk s1 A1' n1 c1' B1' m1 d1'), (FE.mk s2 A2' n2 c2' B2' m2 d2'), (FE.mk s3 A3' n3 c3' B3' m3 d3')] = true)) :
    Calls Tryd.prog 8 #[.agg #[.bool s1, .slice A1' n1 c1', .slice B1' m1 d1'], .agg #[.bool s2, .slice A2' n2 c2', .slice B2' m2 d2'], .agg #[.bool s3, .slice A3' n3 c3', .slice B3' m3 d3']] w (RetB w true) := by
  have za := Pa.sz
  have zb := Pb.sz
  have zc := Pc.sz
  obtain ⟨n, hn⟩ : ∃ n, cmpQ a b = n := ⟨_, rfl⟩
  obtain ⟨m, hm⟩ : ∃ m, cmpQ b a = m := ⟨_, rfl⟩
  obtain ⟨be, hbe⟩ : ∃ be, decide (a = b) = be := ⟨_, rfl⟩
  obtain ⟨u, hu⟩ : ∃ u, a + c = u := ⟨_, rfl⟩
  obtain ⟨v, hv⟩ : ∃ v, b + c = v := ⟨_, rfl⟩
  obtain ⟨x, hx⟩ : ∃ x, a * c = x := ⟨_, rfl⟩
  obtain ⟨y, hy⟩ : ∃ y, b * c = y := ⟨_, rfl⟩
  obtain ⟨s, hs⟩ : ∃ s, sgn c = s := ⟨_, rfl⟩
  obtain ⟨k, hk⟩ : ∃ k, cmpQ x y = k := ⟨_, rfl⟩
  obtain ⟨k2, hk2⟩ : ∃ k2, cmpQ b c = k2 := ⟨_, rfl⟩
  obtain ⟨l, hl⟩ : ∃ l, cmpQ a c = l := ⟨_, rfl⟩
  obtain ⟨f, hf⟩ : ∃ f, flo a = f := ⟨_, rfl⟩
  obtain ⟨i1, hi1⟩ : ∃ i1, rv false 1 1 = i1 := ⟨_, rfl⟩
  obtain ⟨r, hr⟩ : ∃ r, f + i1 = r := ⟨_, rfl⟩
  obtain ⟨t1, ht1⟩ : ∃ t1, cmpQ f a = t1 := ⟨_, rfl⟩
  obtain ⟨t2, ht2⟩ : ∃ t2, cmpQ a r = t2 := ⟨_, rfl⟩
  have zu : Sz u 15 := hu ▸ za.add zc
  have zv : Sz v 15 := hv ▸ zb.add zc
  have zx : Sz x 14 := hx ▸ za.mul zc (by omega)
  have zy : Sz y 14 := hy ▸ zb.mul zc (by omega)
  have zf : Sz f 8 := hf ▸ za.flo
  have zi1 : Sz i1 1 := hi1 ▸ sz_lit false (by omega) (by omega)
  have zr : Sz r 10 := hr ▸ zf.add zi1
  have bn := cmpQ_range a b
  have bs := sgn_bd c
  rw [hn] at bn
  rw [hs] at bs
  obtain ⟨bn1, bn2⟩ := bn
  obtain ⟨bs1, bs2⟩ := bs
  have em : m = -n := by rw [← hn, ← hm, cmpQ_swap]
  have ek : k = n * s := by rw [← hk, ← hx, ← hy, ← hn, ← hs, cmpQ_mul]
  have ecu : cmpQ u v = n := by rw [← hu, ← hv, cmpQ_add, hn]
  have ez : (n == 0) = be := by rw [← hbe, ← hn, Bool.eq_iff_iff, beq_iff_eq, decide_eq_true_iff, cmpQ_zero]
  have el : n ≤ 0 → k2 ≤ 0 → l ≤ 0 := by rw [← hn, ← hk2, ← hl]; exact cmpQ_trans
  have e1 : t1 ≤ 0 := by rw [← ht1, ← hf]; exact cmpQ_flo a
  have e2 : t2 < 0 := by rw [← ht2, ← hr, ← hf, ← hi1, one_rv]; exact cmpQ_flo1 a
  have eff : flo f = f := by rw [← hf, flo_flo]
  have w1 : IntKind.i64.wrap (-m) = n := by rw [em, Int.neg_neg]; exact wrap_small (by omega) (by omega)
  have w2 : IntKind.i64.wrap (n * s) = k := by rw [ek]; have := mul_bd bn1 bn2 bs1 bs2; exact wrap_small this.1 this.2
  have j1 : decide (n < -1) = false := decide_eq_false (by omega)
  have j2 : decide (1 < n) = false := decide_eq_false (by omega)
  have j3 : ((n == 0) == be) = true := by rw [ez]; simp
  have j4 : decide (t1 ≤ 0) = true := decide_eq_true e1
  have j5 : decide (t2 < 0) = true := decide_eq_true e2
  have Hn := Lib.hid hn
  have Hm := Lib.hid hm
  have He := Lib.hid hbe
  have Hu := Lib.hid hu
  have Hv := Lib.hid hv
  have Hx := Lib.hid hx
  have Hy := Lib.hid hy
  have Hs := Lib.hid hs
  have Hk := Lib.hid hk
  have Hk2 := Lib.hid hk2
  have Hl := Lib.hid hl
  have Hf := Lib.hid hf
  have Hi1 := Lib.hid hi1
  have Hr := Lib.hid hr
  have Ht1 := Lib.hid ht1
  have Ht2 := Lib.hid ht2
  have Hcu := Lib.hid ecu
  have Hff := Lib.hid eff
  have Hel := Lib.hid el
  clear hn hm hbe hu hv hx hy hs hk hk2 hl hf hi1 hr ht1 ht2 em ek ecu ez el eff
  go_enter Tryd.func8, Tryd.ntmps8
  go_wp2_with fail
  have HX := BL.three w #[.bool s1, .slice A1' n1 c1', .slice B1' m1 d1'] #[.bool s2, .slice A2' n2 c2', .slice B2' m2 d2'] #[.bool s3, .slice A3' n3 c3', .slice B3' m3 d3'] 26 26 26
  replace Pa := Pa.ext HX.below
  replace Pb := Pb.ext HX.below
  replace Pc := Pc.ext HX.below
  refine (awake_h (hT.ext HX.below)).mono ?_
  rintro e w1 ⟨rfl, hb⟩
  replace HX := HX.ext hb
  replace Pa := Pa.ext hb
  replace Pb := Pb.ext hb
  replace Pc := Pc.ext hb
  clear hb
  have hc00 := HX.cell 0 0 rfl rfl
  have hc01 := HX.cell 0 1 rfl rfl
  have hc02 := HX.cell 0 2 rfl rfl
  have hc10 := HX.cell 1 0 rfl rfl
  have hc11 := HX.cell 1 1 rfl rfl
  have hc12 := HX.cell 1 2 rfl rfl
  have hc20 := HX.cell 2 0 rfl rfl
  have hc21 := HX.cell 2 1 rfl rfl
  have hc22 := HX.cell 2 2 rfl rfl
  simp only [] at hc00 hc01 hc02 hc10 hc11 hc12 hc20 hc21 hc22
  go_wp2_with fail
  have hfs := FS.lit w1 26 [(FE.mk s1 A1' n1 c1' B1' m1 d1'), (FE.mk s2 A2' n2 c2' B2' m2 d2'), (FE.mk s3 A3' n3 c3' B3' m3 d3')] #[.bool s1, .slice A1' n1 c1', .slice B1' m1 d1', .bool s2, .slice A2' n2 c2', .slice B2' m2 d2', .bool s3, .slice A3' n3 c3', .slice B3' m3 d3'] rfl
  refine (few_any _ 3 3 _ _ hfs rfl (by omega) hlens.out).mono ?_
  rintro e w2 ⟨rfl, rfl⟩
  rw [hfew.out]
  have hb := below_alloc w1 (.cells #[.bool s1, .slice A1' n1 c1', .slice B1' m1 d1', .bool s2, .slice A2' n2 c2', .slice B2' m2 d2', .bool s3, .slice A3' n3 c3', .slice B3' m3 d3'] 26)
  clear hfs hc00 hc01 hc02 hc10 hc11 hc12 hc20 hc21 hc22
  replace HX := HX.ext hb
  replace Pa := Pa.ext hb
  replace Pb := Pb.ext hb
  replace Pc := Pc.ext hb
  clear hb
  generalize w1.alloc (.cells #[.bool s1, .slice A1' n1 c1', .slice B1' m1 d1', .bool s2, .slice A2' n2 c2', .slice B2' m2 d2', .bool s3, .slice A3' n3 c3', .slice B3' m3 d3'] 26) = w2 at *
  clear hlens hfew
  have held : ∀ {W' : World}, BL w W' [(w.heap.size, #[.bool s1, .slice A1' n1 c1', .slice B1' m1 d1'], 26), (w.heap.size + 1, #[.bool s2, .slice A2' n2 c2', .slice B2' m2 d2'], 26), (w.heap.size + 2, #[.bool s3, .slice A3' n3 c3', .slice B3' m3 d3'], 26)] → W'.cell? ⟨w.heap.size, 0, none⟩ = some (.bool s1) ∧ W'.cell? ⟨w.heap.size, 1, none⟩ = some (.slice A1' n1 c1') ∧ W'.cell? ⟨w.heap.size, 2, none⟩ = some (.slice B1' m1 d1') ∧ W'.cell? ⟨w.heap.size + 1, 0, none⟩ = some (.bool s2) ∧ W'.cell? ⟨w.heap.size + 1, 1, none⟩ = some (.slice A2' n2 c2') ∧ W'.cell? ⟨w.heap.size + 1, 2, none⟩ = some (.slice B2' m2 d2') ∧ W'.cell? ⟨w.heap.size + 2, 0, none⟩ = some (.bool s3) ∧ W'.cell? ⟨w.heap.size + 2, 1, none⟩ = some (.slice A3' n3 c3') ∧ W'.cell? ⟨w.heap.size + 2, 2, none⟩ = some (.slice B3' m3 d3') := fun h => ⟨h.cell 0 0 rfl rfl, h.cell 0 1 rfl rfl, h.cell 0 2 rfl rfl, h.cell 1 0 rfl rfl, h.cell 1 1 rfl rfl, h.cell 1 2 rfl rfl, h.cell 2 0 rfl rfl, h.cell 2 1 rfl rfl, h.cell 2 2 rfl rfl⟩
  have hc00 := HX.cell 0 0 rfl rfl
  have hc01 := HX.cell 0 1 rfl rfl
  have hc02 := HX.cell 0 2 rfl rfl
  have hc10 := HX.cell 1 0 rfl rfl
  have hc11 := HX.cell 1 1 rfl rfl
  have hc12 := HX.cell 1 2 rfl rfl
  simp only [] at hc00 hc01 hc02 hc10 hc11 hc12
  go_wp2_with fail
  refine (fcmp_h Hn Pa Pb (by omega) (by omega)).mono ?_
  rintro e w3 ⟨rfl, hb⟩
  replace HX := HX.ext hb
  replace Pa := Pa.ext hb
  replace Pb := Pb.ext hb
  replace Pc := Pc.ext hb
  clear hb
  clear hc00 hc01 hc02 hc10 hc11 hc12
  go_wp2_with fail
  replace HX := HX.ext (drew_ext _)
  replace Pa := Pa.ext (drew_ext _)
  replace Pb := Pb.ext (drew_ext _)
  replace Pc := Pc.ext (drew_ext _)
  skip
  go_region_held3 (fun W' => W'.cell? ⟨w.heap.size, 0, none⟩ = some (.bool s1) ∧ W'.cell? ⟨w.heap.size, 1, none⟩ = some (.slice A1' n1 c1') ∧ W'.cell? ⟨w.heap.size, 2, none⟩ = some (.slice B1' m1 d1') ∧ W'.cell? ⟨w.heap.size + 1, 0, none⟩ = some (.bool s2) ∧ W'.cell? ⟨w.heap.size + 1, 1, none⟩ = some (.slice A2' n2 c2') ∧ W'.cell? ⟨w.heap.size + 1, 2, none⟩ = some (.slice B2' m2 d2') ∧ W'.cell? ⟨w.heap.size + 2, 0, none⟩ = some (.bool s3) ∧ W'.cell? ⟨w.heap.size + 2, 1, none⟩ = some (.slice A3' n3 c3') ∧ W'.cell? ⟨w.heap.size + 2, 2, none⟩ = some (.slice B3' m3 d3'))
    (exact held HX)
    (first
      | (go_at_call_of 33 (Value.slice A2' n2 c2'); go_at_call_of 33 (Value.slice A1' n1 c1'); refine (fcmp_h Hm Pb Pa (by omega) (by omega)).mono ?_; rintro e w4 ⟨rfl, hb⟩; replace HX := HX.ext hb; replace Pa := Pa.ext hb; replace Pb := Pb.ext hb; replace Pc := Pc.ext hb; clear hb)
      | (go_at_call_of 17 (Value.slice A1' n1 c1'); refine (fnorm_s za Pa (by omega)).mono ?_; rintro e w5 ⟨A5, c5, B5, d5, rfl, F5, hb⟩; replace HX := HX.ext hb; replace Pa := Pa.ext hb; replace Pb := Pb.ext hb; replace Pc := Pc.ext hb; clear hb)
      | (go_at_call_of 17 (Value.slice A2' n2 c2'); refine (fnorm_s zb Pb (by omega)).mono ?_; rintro e w6 ⟨A6, c6, B6, d6, rfl, F6, hb⟩; replace HX := HX.ext hb; replace Pa := Pa.ext hb; replace Pb := Pb.ext hb; replace Pc := Pc.ext hb; replace F5 := F5.ext hb; clear hb)
      | (go_at_call_of 14 (Value.slice A5 (dig (nu a)).length c5); go_at_call_of 14 (Value.slice A6 (dig (nu b)).length c6); refine (bfrac_h He F5 F6 (by omega) (by omega)).mono ?_; rintro e w7 ⟨rfl, hb⟩; replace HX := HX.ext hb; replace Pa := Pa.ext hb; replace Pb := Pb.ext hb; replace Pc := Pc.ext hb; replace F5 := F5.ext hb; replace F6 := F6.ext hb; clear hb))
  clear F5
  clear F6
  go_wp2_with fail
  replace HX := HX.ext (drew_ext _)
  replace Pa := Pa.ext (drew_ext _)
  replace Pb := Pb.ext (drew_ext _)
  replace Pc := Pc.ext (drew_ext _)
  skip
  go_region_held3 (fun W' => W'.cell? ⟨w.heap.size, 0, none⟩ = some (.bool s1) ∧ W'.cell? ⟨w.heap.size, 1, none⟩ = some (.slice A1' n1 c1') ∧ W'.cell? ⟨w.heap.size, 2, none⟩ = some (.slice B1' m1 d1') ∧ W'.cell? ⟨w.heap.size + 1, 0, none⟩ = some (.bool s2) ∧ W'.cell? ⟨w.heap.size + 1, 1, none⟩ = some (.slice A2' n2 c2') ∧ W'.cell? ⟨w.heap.size + 1, 2, none⟩ = some (.slice B2' m2 d2') ∧ W'.cell? ⟨w.heap.size + 2, 0, none⟩ = some (.bool s3) ∧ W'.cell? ⟨w.heap.size + 2, 1, none⟩ = some (.slice A3' n3 c3') ∧ W'.cell? ⟨w.heap.size + 2, 2, none⟩ = some (.slice B3' m3 d3'))
    (exact held HX)
    (first
      | (go_at_call_of 23 (Value.slice A1' n1 c1'); go_at_call_of 23 (Value.slice A3' n3 c3'); refine (fadd_h Hu zu Pa Pc (by omega) (by omega)).mono ?_; rintro e w8 ⟨A8, c8, B8, d8, rfl, F8, hb⟩; replace HX := HX.ext hb; replace Pa := Pa.ext hb; replace Pb := Pb.ext hb; replace Pc := Pc.ext hb; clear hb)
      | (go_at_call_of 23 (Value.slice A2' n2 c2'); go_at_call_of 23 (Value.slice A3' n3 c3'); refine (fadd_h Hv zv Pb Pc (by omega) (by omega)).mono ?_; rintro e w9 ⟨A9, c9, B9, d9, rfl, F9, hb⟩; replace HX := HX.ext hb; replace Pa := Pa.ext hb; replace Pb := Pb.ext hb; replace Pc := Pc.ext hb; replace F8 := F8.ext hb; clear hb)
      | (go_at_call_of 33 (Value.slice A8 (dig (nu u)).length c8); go_at_call_of 33 (Value.slice A9 (dig (nu v)).length c9); refine (fcmp_h Hcu F8.fr F9.fr (by omega) (by omega)).mono ?_; rintro e w10 ⟨rfl, hb⟩; replace HX := HX.ext hb; replace Pa := Pa.ext hb; replace Pb := Pb.ext hb; replace Pc := Pc.ext hb; replace F8 := F8.ext hb; replace F9 := F9.ext hb; clear hb)
      | (go_at_call_of 24 (Value.slice A1' n1 c1'); go_at_call_of 24 (Value.slice A3' n3 c3'); refine (fmul_h Hx zx Pa Pc (by omega) (by omega)).mono ?_; rintro e w11 ⟨A11, c11, B11, d11, rfl, F11, hb⟩; replace HX := HX.ext hb; replace Pa := Pa.ext hb; replace Pb := Pb.ext hb; replace Pc := Pc.ext hb; replace F8 := F8.ext hb; replace F9 := F9.ext hb; clear hb)
      | (go_at_call_of 24 (Value.slice A2' n2 c2'); go_at_call_of 24 (Value.slice A3' n3 c3'); refine (fmul_h Hy zy Pb Pc (by omega) (by omega)).mono ?_; rintro e w12 ⟨A12, c12, B12, d12, rfl, F12, hb⟩; replace HX := HX.ext hb; replace Pa := Pa.ext hb; replace Pb := Pb.ext hb; replace Pc := Pc.ext hb; replace F8 := F8.ext hb; replace F9 := F9.ext hb; replace F11 := F11.ext hb; clear hb)
      | (go_at_call_of 33 (Value.slice A11 (dig (nu x)).length c11); go_at_call_of 33 (Value.slice A12 (dig (nu y)).length c12); refine (fcmp_h Hk F11.fr F12.fr (by omega) (by omega)).mono ?_; rintro e w13 ⟨rfl, hb⟩; replace HX := HX.ext hb; replace Pa := Pa.ext hb; replace Pb := Pb.ext hb; replace Pc := Pc.ext hb; replace F8 := F8.ext hb; replace F9 := F9.ext hb; replace F11 := F11.ext hb; replace F12 := F12.ext hb; clear hb)
      | (go_at_call_of 21 (Value.slice A3' n3 c3'); refine (fsign_h Hs Pc (by omega)).mono ?_; rintro e w14 ⟨rfl, hb⟩; replace HX := HX.ext hb; replace Pa := Pa.ext hb; replace Pb := Pb.ext hb; replace Pc := Pc.ext hb; replace F8 := F8.ext hb; replace F9 := F9.ext hb; replace F11 := F11.ext hb; replace F12 := F12.ext hb; clear hb))
  clear F8
  clear F9
  clear F11
  clear F12
  go_upto_region 8 with fail
  by_cases q1 : n ≤ 0
  · have q2 : decide (n ≤ 0) = true := decide_eq_true q1
    by_cases q3 : k2 ≤ 0
    · have q4 : decide (k2 ≤ 0) = true := decide_eq_true q3
      have q5 := Hel.out q1 q3
      have q6 : decide (0 < l) = false := decide_eq_false (by omega)
      have hc00 := HX.cell 0 0 rfl rfl
      have hc01 := HX.cell 0 1 rfl rfl
      have hc02 := HX.cell 0 2 rfl rfl
      have hc10 := HX.cell 1 0 rfl rfl
      have hc11 := HX.cell 1 1 rfl rfl
      have hc12 := HX.cell 1 2 rfl rfl
      simp only [] at hc00 hc01 hc02 hc10 hc11 hc12
      go_wp2_with fail
      refine (fcmp_h Hn Pa Pb (by omega) (by omega)).mono ?_
      rintro e w15 ⟨rfl, hb⟩
      replace HX := HX.ext hb
      replace Pa := Pa.ext hb
      replace Pb := Pb.ext hb
      replace Pc := Pc.ext hb
      clear hb
      clear hc00 hc01 hc02 hc10 hc11 hc12
      have hc10 := HX.cell 1 0 rfl rfl
      have hc11 := HX.cell 1 1 rfl rfl
      have hc12 := HX.cell 1 2 rfl rfl
      have hc20 := HX.cell 2 0 rfl rfl
      have hc21 := HX.cell 2 1 rfl rfl
      have hc22 := HX.cell 2 2 rfl rfl
      simp only [] at hc10 hc11 hc12 hc20 hc21 hc22
      go_wp2_with fail
      refine (fcmp_h Hk2 Pb Pc (by omega) (by omega)).mono ?_
      rintro e w16 ⟨rfl, hb⟩
      replace HX := HX.ext hb
      replace Pa := Pa.ext hb
      replace Pb := Pb.ext hb
      replace Pc := Pc.ext hb
      clear hb
      clear hc10 hc11 hc12 hc20 hc21 hc22
      have hc00 := HX.cell 0 0 rfl rfl
      have hc01 := HX.cell 0 1 rfl rfl
      have hc02 := HX.cell 0 2 rfl rfl
      have hc20 := HX.cell 2 0 rfl rfl
      have hc21 := HX.cell 2 1 rfl rfl
      have hc22 := HX.cell 2 2 rfl rfl
      simp only [] at hc00 hc01 hc02 hc20 hc21 hc22
      go_wp2_with fail
      refine (fcmp_h Hl Pa Pc (by omega) (by omega)).mono ?_
      rintro e w17 ⟨rfl, hb⟩
      replace HX := HX.ext hb
      replace Pa := Pa.ext hb
      replace Pb := Pb.ext hb
      replace Pc := Pc.ext hb
      clear hb
      clear hc00 hc01 hc02 hc20 hc21 hc22
      have hc00 := HX.cell 0 0 rfl rfl
      have hc01 := HX.cell 0 1 rfl rfl
      have hc02 := HX.cell 0 2 rfl rfl
      simp only [] at hc00 hc01 hc02
      go_wp2_with fail
      refine (ffloor_h Hf zf Pa (by omega)).mono ?_
      rintro e w18 ⟨A18, c18, B18, d18, rfl, F18, hb⟩
      replace HX := HX.ext hb
      replace Pa := Pa.ext hb
      replace Pb := Pb.ext hb
      replace Pc := Pc.ext hb
      clear hb
      clear hc00 hc01 hc02
      go_upto_region 11 with fail
      have hb := below_alloc w18 (.cells #[.bool (sg f), .slice A18 (dig (nu f)).length c18, .slice B18 (dig f.den).length d18] 26)
      replace HX := HX.new #[.bool (sg f), .slice A18 (dig (nu f)).length c18, .slice B18 (dig f.den).length d18] 26
      simp only [List.cons_append, List.nil_append] at HX
      replace Pa := Pa.ext hb
      replace Pb := Pb.ext hb
      replace Pc := Pc.ext hb
      replace F18 := F18.ext hb
      clear hb
      generalize w18.alloc (.cells #[.bool (sg f), .slice A18 (dig (nu f)).length c18, .slice B18 (dig f.den).length d18] 26) = W9 at *
      generalize w18.heap.size = gq at *
      clear held
      have held : ∀ {W' : World}, BL w W' [(w.heap.size, #[.bool s1, .slice A1' n1 c1', .slice B1' m1 d1'], 26), (w.heap.size + 1, #[.bool s2, .slice A2' n2 c2', .slice B2' m2 d2'], 26), (w.heap.size + 2, #[.bool s3, .slice A3' n3 c3', .slice B3' m3 d3'], 26), (gq, #[.bool (sg f), .slice A18 (dig (nu f)).length c18, .slice B18 (dig f.den).length d18], 26)] → W'.cell? ⟨w.heap.size, 0, none⟩ = some (.bool s1) ∧ W'.cell? ⟨w.heap.size, 1, none⟩ = some (.slice A1' n1 c1') ∧ W'.cell? ⟨w.heap.size, 2, none⟩ = some (.slice B1' m1 d1') ∧ W'.cell? ⟨w.heap.size + 1, 0, none⟩ = some (.bool s2) ∧ W'.cell? ⟨w.heap.size + 1, 1, none⟩ = some (.slice A2' n2 c2') ∧ W'.cell? ⟨w.heap.size + 1, 2, none⟩ = some (.slice B2' m2 d2') ∧ W'.cell? ⟨w.heap.size + 2, 0, none⟩ = some (.bool s3) ∧ W'.cell? ⟨w.heap.size + 2, 1, none⟩ = some (.slice A3' n3 c3') ∧ W'.cell? ⟨w.heap.size + 2, 2, none⟩ = some (.slice B3' m3 d3') ∧ W'.cell? ⟨gq, 0, none⟩ = some (.bool (sg f)) ∧ W'.cell? ⟨gq, 1, none⟩ = some (.slice A18 (dig (nu f)).length c18) ∧ W'.cell? ⟨gq, 2, none⟩ = some (.slice B18 (dig f.den).length d18) := fun h => ⟨h.cell 0 0 rfl rfl, h.cell 0 1 rfl rfl, h.cell 0 2 rfl rfl, h.cell 1 0 rfl rfl, h.cell 1 1 rfl rfl, h.cell 1 2 rfl rfl, h.cell 2 0 rfl rfl, h.cell 2 1 rfl rfl, h.cell 2 2 rfl rfl, h.cell 3 0 rfl rfl, h.cell 3 1 rfl rfl, h.cell 3 2 rfl rfl⟩
      replace HX := HX.ext (drew_ext _)
      replace Pa := Pa.ext (drew_ext _)
      replace Pb := Pb.ext (drew_ext _)
      replace Pc := Pc.ext (drew_ext _)
      replace F18 := F18.ext (drew_ext _)
      skip
      go_region_held3 (fun W' => W'.cell? ⟨w.heap.size, 0, none⟩ = some (.bool s1) ∧ W'.cell? ⟨w.heap.size, 1, none⟩ = some (.slice A1' n1 c1') ∧ W'.cell? ⟨w.heap.size, 2, none⟩ = some (.slice B1' m1 d1') ∧ W'.cell? ⟨w.heap.size + 1, 0, none⟩ = some (.bool s2) ∧ W'.cell? ⟨w.heap.size + 1, 1, none⟩ = some (.slice A2' n2 c2') ∧ W'.cell? ⟨w.heap.size + 1, 2, none⟩ = some (.slice B2' m2 d2') ∧ W'.cell? ⟨w.heap.size + 2, 0, none⟩ = some (.bool s3) ∧ W'.cell? ⟨w.heap.size + 2, 1, none⟩ = some (.slice A3' n3 c3') ∧ W'.cell? ⟨w.heap.size + 2, 2, none⟩ = some (.slice B3' m3 d3') ∧ W'.cell? ⟨gq, 0, none⟩ = some (.bool (sg f)) ∧ W'.cell? ⟨gq, 1, none⟩ = some (.slice A18 (dig (nu f)).length c18) ∧ W'.cell? ⟨gq, 2, none⟩ = some (.slice B18 (dig f.den).length d18))
        (exact held HX)
        (first
          | (go_at_call_of 33 (Value.slice A18 (dig (nu f)).length c18); go_at_call_of 33 (Value.slice A1' n1 c1'); refine (fcmp_h Ht1 F18.fr Pa (by omega) (by omega)).mono ?_; rintro e w19 ⟨rfl, hb⟩; replace HX := HX.ext hb; replace Pa := Pa.ext hb; replace Pb := Pb.ext hb; replace Pc := Pc.ext hb; replace F18 := F18.ext hb; clear hb)
          | (go_at_call 15; refine (fof_h (x := 1) (y := 1) Hi1 zi1 (by omega) (by omega) (by omega) (by omega)).mono ?_; rintro e w20 ⟨A20, c20, B20, d20, rfl, F20, hb⟩; replace HX := HX.ext hb; replace Pa := Pa.ext hb; replace Pb := Pb.ext hb; replace Pc := Pc.ext hb; replace F18 := F18.ext hb; clear hb)
          | (go_at_call_of 23 (Value.slice A18 (dig (nu f)).length c18); go_at_call_of 23 (Value.slice A20 (dig (nu i1)).length c20); refine (fadd_h Hr zr F18.fr F20.fr (by omega) (by omega)).mono ?_; rintro e w21 ⟨A21, c21, B21, d21, rfl, F21, hb⟩; replace HX := HX.ext hb; replace Pa := Pa.ext hb; replace Pb := Pb.ext hb; replace Pc := Pc.ext hb; replace F18 := F18.ext hb; replace F20 := F20.ext hb; clear hb)
          | (go_at_call_of 33 (Value.slice A1' n1 c1'); go_at_call_of 33 (Value.slice A21 (dig (nu r)).length c21); refine (fcmp_h Ht2 Pa F21.fr (by omega) (by omega)).mono ?_; rintro e w22 ⟨rfl, hb⟩; replace HX := HX.ext hb; replace Pa := Pa.ext hb; replace Pb := Pb.ext hb; replace Pc := Pc.ext hb; replace F18 := F18.ext hb; replace F20 := F20.ext hb; replace F21 := F21.ext hb; clear hb)
          | (go_at_call_of 28 (Value.slice A18 (dig (nu f)).length c18); refine (ffloor_h Hff zf F18.fr (by omega)).mono ?_; rintro e w23 ⟨A23, c23, B23, d23, rfl, F23, hb⟩; replace HX := HX.ext hb; replace Pa := Pa.ext hb; replace Pb := Pb.ext hb; replace Pc := Pc.ext hb; replace F18 := F18.ext hb; replace F20 := F20.ext hb; replace F21 := F21.ext hb; clear hb)
          | (go_at_call_of 14 (Value.slice A23 (dig (nu f)).length c23); go_at_call_of 14 (Value.slice A18 (dig (nu f)).length c18); refine (bfrac_s F23 F18 (by omega) (by omega)).mono ?_; rintro e w24 ⟨rfl, hb⟩; replace HX := HX.ext hb; replace Pa := Pa.ext hb; replace Pb := Pb.ext hb; replace Pc := Pc.ext hb; replace F18 := F18.ext hb; replace F20 := F20.ext hb; replace F21 := F21.ext hb; replace F23 := F23.ext hb; clear hb))
      go_wp2
      go_ret
      exact ⟨rfl, HX.below⟩
    · have q4 : decide (k2 ≤ 0) = false := decide_eq_false q3
      have hc00 := HX.cell 0 0 rfl rfl
      have hc01 := HX.cell 0 1 rfl rfl
      have hc02 := HX.cell 0 2 rfl rfl
      have hc10 := HX.cell 1 0 rfl rfl
      have hc11 := HX.cell 1 1 rfl rfl
      have hc12 := HX.cell 1 2 rfl rfl
      simp only [] at hc00 hc01 hc02 hc10 hc11 hc12
      go_wp2_with fail
      refine (fcmp_h Hn Pa Pb (by omega) (by omega)).mono ?_
      rintro e w15 ⟨rfl, hb⟩
      replace HX := HX.ext hb
      replace Pa := Pa.ext hb
      replace Pb := Pb.ext hb
      replace Pc := Pc.ext hb
      clear hb
      clear hc00 hc01 hc02 hc10 hc11 hc12
      have hc10 := HX.cell 1 0 rfl rfl
      have hc11 := HX.cell 1 1 rfl rfl
      have hc12 := HX.cell 1 2 rfl rfl
      have hc20 := HX.cell 2 0 rfl rfl
      have hc21 := HX.cell 2 1 rfl rfl
      have hc22 := HX.cell 2 2 rfl rfl
      simp only [] at hc10 hc11 hc12 hc20 hc21 hc22
      go_wp2_with fail
      refine (fcmp_h Hk2 Pb Pc (by omega) (by omega)).mono ?_
      rintro e w16 ⟨rfl, hb⟩
      replace HX := HX.ext hb
      replace Pa := Pa.ext hb
      replace Pb := Pb.ext hb
      replace Pc := Pc.ext hb
      clear hb
      clear hc10 hc11 hc12 hc20 hc21 hc22
      have hc00 := HX.cell 0 0 rfl rfl
      have hc01 := HX.cell 0 1 rfl rfl
      have hc02 := HX.cell 0 2 rfl rfl
      simp only [] at hc00 hc01 hc02
      go_wp2_with fail
      refine (ffloor_h Hf zf Pa (by omega)).mono ?_
      rintro e w17 ⟨A17, c17, B17, d17, rfl, F17, hb⟩
      replace HX := HX.ext hb
      replace Pa := Pa.ext hb
      replace Pb := Pb.ext hb
      replace Pc := Pc.ext hb
      clear hb
      clear hc00 hc01 hc02
      go_upto_region 11 with fail
      have hb := below_alloc w17 (.cells #[.bool (sg f), .slice A17 (dig (nu f)).length c17, .slice B17 (dig f.den).length d17] 26)
      replace HX := HX.new #[.bool (sg f), .slice A17 (dig (nu f)).length c17, .slice B17 (dig f.den).length d17] 26
      simp only [List.cons_append, List.nil_append] at HX
      replace Pa := Pa.ext hb
      replace Pb := Pb.ext hb
      replace Pc := Pc.ext hb
      replace F17 := F17.ext hb
      clear hb
      generalize w17.alloc (.cells #[.bool (sg f), .slice A17 (dig (nu f)).length c17, .slice B17 (dig f.den).length d17] 26) = W9 at *
      generalize w17.heap.size = gq at *
      clear held
      have held : ∀ {W' : World}, BL w W' [(w.heap.size, #[.bool s1, .slice A1' n1 c1', .slice B1' m1 d1'], 26), (w.heap.size + 1, #[.bool s2, .slice A2' n2 c2', .slice B2' m2 d2'], 26), (w.heap.size + 2, #[.bool s3, .slice A3' n3 c3', .slice B3' m3 d3'], 26), (gq, #[.bool (sg f), .slice A17 (dig (nu f)).length c17, .slice B17 (dig f.den).length d17], 26)] → W'.cell? ⟨w.heap.size, 0, none⟩ = some (.bool s1) ∧ W'.cell? ⟨w.heap.size, 1, none⟩ = some (.slice A1' n1 c1') ∧ W'.cell? ⟨w.heap.size, 2, none⟩ = some (.slice B1' m1 d1') ∧ W'.cell? ⟨w.heap.size + 1, 0, none⟩ = some (.bool s2) ∧ W'.cell? ⟨w.heap.size + 1, 1, none⟩ = some (.slice A2' n2 c2') ∧ W'.cell? ⟨w.heap.size + 1, 2, none⟩ = some (.slice B2' m2 d2') ∧ W'.cell? ⟨w.heap.size + 2, 0, none⟩ = some (.bool s3) ∧ W'.cell? ⟨w.heap.size + 2, 1, none⟩ = some (.slice A3' n3 c3') ∧ W'.cell? ⟨w.heap.size + 2, 2, none⟩ = some (.slice B3' m3 d3') ∧ W'.cell? ⟨gq, 0, none⟩ = some (.bool (sg f)) ∧ W'.cell? ⟨gq, 1, none⟩ = some (.slice A17 (dig (nu f)).length c17) ∧ W'.cell? ⟨gq, 2, none⟩ = some (.slice B17 (dig f.den).length d17) := fun h => ⟨h.cell 0 0 rfl rfl, h.cell 0 1 rfl rfl, h.cell 0 2 rfl rfl, h.cell 1 0 rfl rfl, h.cell 1 1 rfl rfl, h.cell 1 2 rfl rfl, h.cell 2 0 rfl rfl, h.cell 2 1 rfl rfl, h.cell 2 2 rfl rfl, h.cell 3 0 rfl rfl, h.cell 3 1 rfl rfl, h.cell 3 2 rfl rfl⟩
      replace HX := HX.ext (drew_ext _)
      replace Pa := Pa.ext (drew_ext _)
      replace Pb := Pb.ext (drew_ext _)
      replace Pc := Pc.ext (drew_ext _)
      replace F17 := F17.ext (drew_ext _)
      skip
      go_region_held3 (fun W' => W'.cell? ⟨w.heap.size, 0, none⟩ = some (.bool s1) ∧ W'.cell? ⟨w.heap.size, 1, none⟩ = some (.slice A1' n1 c1') ∧ W'.cell? ⟨w.heap.size, 2, none⟩ = some (.slice B1' m1 d1') ∧ W'.cell? ⟨w.heap.size + 1, 0, none⟩ = some (.bool s2) ∧ W'.cell? ⟨w.heap.size + 1, 1, none⟩ = some (.slice A2' n2 c2') ∧ W'.cell? ⟨w.heap.size + 1, 2, none⟩ = some (.slice B2' m2 d2') ∧ W'.cell? ⟨w.heap.size + 2, 0, none⟩ = some (.bool s3) ∧ W'.cell? ⟨w.heap.size + 2, 1, none⟩ = some (.slice A3' n3 c3') ∧ W'.cell? ⟨w.heap.size + 2, 2, none⟩ = some (.slice B3' m3 d3') ∧ W'.cell? ⟨gq, 0, none⟩ = some (.bool (sg f)) ∧ W'.cell? ⟨gq, 1, none⟩ = some (.slice A17 (dig (nu f)).length c17) ∧ W'.cell? ⟨gq, 2, none⟩ = some (.slice B17 (dig f.den).length d17))
        (exact held HX)
        (first
          | (go_at_call_of 33 (Value.slice A17 (dig (nu f)).length c17); go_at_call_of 33 (Value.slice A1' n1 c1'); refine (fcmp_h Ht1 F17.fr Pa (by omega) (by omega)).mono ?_; rintro e w18 ⟨rfl, hb⟩; replace HX := HX.ext hb; replace Pa := Pa.ext hb; replace Pb := Pb.ext hb; replace Pc := Pc.ext hb; replace F17 := F17.ext hb; clear hb)
          | (go_at_call 15; refine (fof_h (x := 1) (y := 1) Hi1 zi1 (by omega) (by omega) (by omega) (by omega)).mono ?_; rintro e w19 ⟨A19, c19, B19, d19, rfl, F19, hb⟩; replace HX := HX.ext hb; replace Pa := Pa.ext hb; replace Pb := Pb.ext hb; replace Pc := Pc.ext hb; replace F17 := F17.ext hb; clear hb)
          | (go_at_call_of 23 (Value.slice A17 (dig (nu f)).length c17); go_at_call_of 23 (Value.slice A19 (dig (nu i1)).length c19); refine (fadd_h Hr zr F17.fr F19.fr (by omega) (by omega)).mono ?_; rintro e w20 ⟨A20, c20, B20, d20, rfl, F20, hb⟩; replace HX := HX.ext hb; replace Pa := Pa.ext hb; replace Pb := Pb.ext hb; replace Pc := Pc.ext hb; replace F17 := F17.ext hb; replace F19 := F19.ext hb; clear hb)
          | (go_at_call_of 33 (Value.slice A1' n1 c1'); go_at_call_of 33 (Value.slice A20 (dig (nu r)).length c20); refine (fcmp_h Ht2 Pa F20.fr (by omega) (by omega)).mono ?_; rintro e w21 ⟨rfl, hb⟩; replace HX := HX.ext hb; replace Pa := Pa.ext hb; replace Pb := Pb.ext hb; replace Pc := Pc.ext hb; replace F17 := F17.ext hb; replace F19 := F19.ext hb; replace F20 := F20.ext hb; clear hb)
          | (go_at_call_of 28 (Value.slice A17 (dig (nu f)).length c17); refine (ffloor_h Hff zf F17.fr (by omega)).mono ?_; rintro e w22 ⟨A22, c22, B22, d22, rfl, F22, hb⟩; replace HX := HX.ext hb; replace Pa := Pa.ext hb; replace Pb := Pb.ext hb; replace Pc := Pc.ext hb; replace F17 := F17.ext hb; replace F19 := F19.ext hb; replace F20 := F20.ext hb; clear hb)
          | (go_at_call_of 14 (Value.slice A22 (dig (nu f)).length c22); go_at_call_of 14 (Value.slice A17 (dig (nu f)).length c17); refine (bfrac_s F22 F17 (by omega) (by omega)).mono ?_; rintro e w23 ⟨rfl, hb⟩; replace HX := HX.ext hb; replace Pa := Pa.ext hb; replace Pb := Pb.ext hb; replace Pc := Pc.ext hb; replace F17 := F17.ext hb; replace F19 := F19.ext hb; replace F20 := F20.ext hb; replace F22 := F22.ext hb; clear hb))
      go_wp2
      go_ret
      exact ⟨rfl, HX.below⟩
  · have q2 : decide (n ≤ 0) = false := decide_eq_false q1
    have hc00 := HX.cell 0 0 rfl rfl
    have hc01 := HX.cell 0 1 rfl rfl
    have hc02 := HX.cell 0 2 rfl rfl
    have hc10 := HX.cell 1 0 rfl rfl
    have hc11 := HX.cell 1 1 rfl rfl
    have hc12 := HX.cell 1 2 rfl rfl
    simp only [] at hc00 hc01 hc02 hc10 hc11 hc12
    go_wp2_with fail
    refine (fcmp_h Hn Pa Pb (by omega) (by omega)).mono ?_
    rintro e w15 ⟨rfl, hb⟩
    replace HX := HX.ext hb
    replace Pa := Pa.ext hb
    replace Pb := Pb.ext hb
    replace Pc := Pc.ext hb
    clear hb
    clear hc00 hc01 hc02 hc10 hc11 hc12
    have hc00 := HX.cell 0 0 rfl rfl
    have hc01 := HX.cell 0 1 rfl rfl
    have hc02 := HX.cell 0 2 rfl rfl
    simp only [] at hc00 hc01 hc02
    go_wp2_with fail
    refine (ffloor_h Hf zf Pa (by omega)).mono ?_
    rintro e w16 ⟨A16, c16, B16, d16, rfl, F16, hb⟩
    replace HX := HX.ext hb
    replace Pa := Pa.ext hb
    replace Pb := Pb.ext hb
    replace Pc := Pc.ext hb
    clear hb
    clear hc00 hc01 hc02
    go_upto_region 11 with fail
    have hb := below_alloc w16 (.cells #[.bool (sg f), .slice A16 (dig (nu f)).length c16, .slice B16 (dig f.den).length d16] 26)
    replace HX := HX.new #[.bool (sg f), .slice A16 (dig (nu f)).length c16, .slice B16 (dig f.den).length d16] 26
    simp only [List.cons_append, List.nil_append] at HX
    replace Pa := Pa.ext hb
    replace Pb := Pb.ext hb
    replace Pc := Pc.ext hb
    replace F16 := F16.ext hb
    clear hb
    generalize w16.alloc (.cells #[.bool (sg f), .slice A16 (dig (nu f)).length c16, .slice B16 (dig f.den).length d16] 26) = W9 at *
    generalize w16.heap.size = gq at *
    clear held
    have held : ∀ {W' : World}, BL w W' [(w.heap.size, #[.bool s1, .slice A1' n1 c1', .slice B1' m1 d1'], 26), (w.heap.size + 1, #[.bool s2, .slice A2' n2 c2', .slice B2' m2 d2'], 26), (w.heap.size + 2, #[.bool s3, .slice A3' n3 c3', .slice B3' m3 d3'], 26), (gq, #[.bool (sg f), .slice A16 (dig (nu f)).length c16, .slice B16 (dig f.den).length d16], 26)] → W'.cell? ⟨w.heap.size, 0, none⟩ = some (.bool s1) ∧ W'.cell? ⟨w.heap.size, 1, none⟩ = some (.slice A1' n1 c1') ∧ W'.cell? ⟨w.heap.size, 2, none⟩ = some (.slice B1' m1 d1') ∧ W'.cell? ⟨w.heap.size + 1, 0, none⟩ = some (.bool s2) ∧ W'.cell? ⟨w.heap.size + 1, 1, none⟩ = some (.slice A2' n2 c2') ∧ W'.cell? ⟨w.heap.size + 1, 2, none⟩ = some (.slice B2' m2 d2') ∧ W'.cell? ⟨w.heap.size + 2, 0, none⟩ = some (.bool s3) ∧ W'.cell? ⟨w.heap.size + 2, 1, none⟩ = some (.slice A3' n3 c3') ∧ W'.cell? ⟨w.heap.size + 2, 2, none⟩ = some (.slice B3' m3 d3') ∧ W'.cell? ⟨gq, 0, none⟩ = some (.bool (sg f)) ∧ W'.cell? ⟨gq, 1, none⟩ = some (.slice A16 (dig (nu f)).length c16) ∧ W'.cell? ⟨gq, 2, none⟩ = some (.slice B16 (dig f.den).length d16) := fun h => ⟨h.cell 0 0 rfl rfl, h.cell 0 1 rfl rfl, h.cell 0 2 rfl rfl, h.cell 1 0 rfl rfl, h.cell 1 1 rfl rfl, h.cell 1 2 rfl rfl, h.cell 2 0 rfl rfl, h.cell 2 1 rfl rfl, h.cell 2 2 rfl rfl, h.cell 3 0 rfl rfl, h.cell 3 1 rfl rfl, h.cell 3 2 rfl rfl⟩
    replace HX := HX.ext (drew_ext _)
    replace Pa := Pa.ext (drew_ext _)
    replace Pb := Pb.ext (drew_ext _)
    replace Pc := Pc.ext (drew_ext _)
    replace F16 := F16.ext (drew_ext _)
    skip
    go_region_held3 (fun W' => W'.cell? ⟨w.heap.size, 0, none⟩ = some (.bool s1) ∧ W'.cell? ⟨w.heap.size, 1, none⟩ = some (.slice A1' n1 c1') ∧ W'.cell? ⟨w.heap.size, 2, none⟩ = some (.slice B1' m1 d1') ∧ W'.cell? ⟨w.heap.size + 1, 0, none⟩ = some (.bool s2) ∧ W'.cell? ⟨w.heap.size + 1, 1, none⟩ = some (.slice A2' n2 c2') ∧ W'.cell? ⟨w.heap.size + 1, 2, none⟩ = some (.slice B2' m2 d2') ∧ W'.cell? ⟨w.heap.size + 2, 0, none⟩ = some (.bool s3) ∧ W'.cell? ⟨w.heap.size + 2, 1, none⟩ = some (.slice A3' n3 c3') ∧ W'.cell? ⟨w.heap.size + 2, 2, none⟩ = some (.slice B3' m3 d3') ∧ W'.cell? ⟨gq, 0, none⟩ = some (.bool (sg f)) ∧ W'.cell? ⟨gq, 1, none⟩ = some (.slice A16 (dig (nu f)).length c16) ∧ W'.cell? ⟨gq, 2, none⟩ = some (.slice B16 (dig f.den).length d16))
      (exact held HX)
      (first
        | (go_at_call_of 33 (Value.slice A16 (dig (nu f)).length c16); go_at_call_of 33 (Value.slice A1' n1 c1'); refine (fcmp_h Ht1 F16.fr Pa (by omega) (by omega)).mono ?_; rintro e w17 ⟨rfl, hb⟩; replace HX := HX.ext hb; replace Pa := Pa.ext hb; replace Pb := Pb.ext hb; replace Pc := Pc.ext hb; replace F16 := F16.ext hb; clear hb)
        | (go_at_call 15; refine (fof_h (x := 1) (y := 1) Hi1 zi1 (by omega) (by omega) (by omega) (by omega)).mono ?_; rintro e w18 ⟨A18, c18, B18, d18, rfl, F18, hb⟩; replace HX := HX.ext hb; replace Pa := Pa.ext hb; replace Pb := Pb.ext hb; replace Pc := Pc.ext hb; replace F16 := F16.ext hb; clear hb)
        | (go_at_call_of 23 (Value.slice A16 (dig (nu f)).length c16); go_at_call_of 23 (Value.slice A18 (dig (nu i1)).length c18); refine (fadd_h Hr zr F16.fr F18.fr (by omega) (by omega)).mono ?_; rintro e w19 ⟨A19, c19, B19, d19, rfl, F19, hb⟩; replace HX := HX.ext hb; replace Pa := Pa.ext hb; replace Pb := Pb.ext hb; replace Pc := Pc.ext hb; replace F16 := F16.ext hb; replace F18 := F18.ext hb; clear hb)
        | (go_at_call_of 33 (Value.slice A1' n1 c1'); go_at_call_of 33 (Value.slice A19 (dig (nu r)).length c19); refine (fcmp_h Ht2 Pa F19.fr (by omega) (by omega)).mono ?_; rintro e w20 ⟨rfl, hb⟩; replace HX := HX.ext hb; replace Pa := Pa.ext hb; replace Pb := Pb.ext hb; replace Pc := Pc.ext hb; replace F16 := F16.ext hb; replace F18 := F18.ext hb; replace F19 := F19.ext hb; clear hb)
        | (go_at_call_of 28 (Value.slice A16 (dig (nu f)).length c16); refine (ffloor_h Hff zf F16.fr (by omega)).mono ?_; rintro e w21 ⟨A21, c21, B21, d21, rfl, F21, hb⟩; replace HX := HX.ext hb; replace Pa := Pa.ext hb; replace Pb := Pb.ext hb; replace Pc := Pc.ext hb; replace F16 := F16.ext hb; replace F18 := F18.ext hb; replace F19 := F19.ext hb; clear hb)
        | (go_at_call_of 14 (Value.slice A21 (dig (nu f)).length c21); go_at_call_of 14 (Value.slice A16 (dig (nu f)).length c16); refine (bfrac_s F21 F16 (by omega) (by omega)).mono ?_; rintro e w22 ⟨rfl, hb⟩; replace HX := HX.ext hb; replace Pa := Pa.ext hb; replace Pb := Pb.ext hb; replace Pc := Pc.ext hb; replace F16 := F16.ext hb; replace F18 := F18.ext hb; replace F19 := F19.ext hb; replace F21 := F21.ext hb; clear hb))
    go_wp2
    go_ret
    exact ⟨rfl, HX.below⟩

theorem forder_any {s1 : Bool} {A1' B1' : Option Addr} {n1 c1' m1 d1' : Nat} {s2 : Bool} {A2' B2' : Option Addr} {n2 c2' m2 d2' : Nat} {s3 : Bool} {A3' B3' : Option Addr} {n3 c3' m3 d3' : Nat} (w : World) (hT : Tab w) (Pa : Arg w s1 A1' n1 c1' B1' m1 d1') (Pb : Arg w s2 A2' n2 c2' B2' m2 d2') (Pc : Arg w s3 A3' n3 c3' B3' m3 d3') :
    Calls Tryd.prog 8 #[.agg #[.bool s1, .slice A1' n1 c1', .slice B1' m1 d1'], .agg #[.bool s2, .slice A2' n2 c2', .slice B2' m2 d2'], .agg #[.bool s3, .slice A3' n3 c3', .slice B3' m3 d3']] w (RetB w true) := by
  have hlens : ∀ x ∈ [(FE.mk s1 A1' n1 c1' B1' m1 d1'), (FE.mk s2 A2' n2 c2' B2' m2 d2'), (FE.mk s3 A3' n3 c3' B3' m3 d3')], x.n ≤ 9223372036854775807 ∧ x.m ≤ 9223372036854775807 := by
    intro x hx
    simp only [List.mem_cons, List.not_mem_nil, or_false] at hx
    rcases hx with rfl | rfl | rfl
    · exact ⟨Pa.hn, Pa.hm⟩
    · exact ⟨Pb.hn, Pb.hm⟩
    · exact ⟨Pc.hn, Pc.hm⟩
  cases hf : fewB [(FE.mk s1 A1' n1 c1' B1' m1 d1'), (FE.mk s2 A2' n2 c2' B2' m2 d2'), (FE.mk s3 A3' n3 c3' B3' m3 d3')]
  · exact forder_few w hT (Lib.hid hlens) (Lib.hid hf)
  · have hf2 := hf
    rw [fewB3] at hf2
    simp only [Bool.and_eq_true, decide_eq_true_eq] at hf2
    obtain ⟨a, Pa'⟩ : ∃ q, Fr w s1 A1' n1 c1' B1' m1 d1' q 6 := Pa.fr (by omega) (by omega)
    obtain ⟨b, Pb'⟩ : ∃ q, Fr w s2 A2' n2 c2' B2' m2 d2' q 6 := Pb.fr (by omega) (by omega)
    obtain ⟨c, Pc'⟩ : ∃ q, Fr w s3 A3' n3 c3' B3' m3 d3' q 6 := Pc.fr (by omega) (by omega)
    exact forder_yes w hT Pa' Pb' Pc' (Lib.hid hlens) (Lib.hid hf)
end Go.Proofs.YtfndbmflllmpgaaDoor
