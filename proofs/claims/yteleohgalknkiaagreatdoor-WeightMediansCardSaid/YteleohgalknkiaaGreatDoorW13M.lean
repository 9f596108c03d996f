/- The statements WeightTables, WeightMedians. -/
import Derived.Test.YteleohgalknkiaaGreatDoorW11M
namespace Go.Proofs.YteleohgalknkiaaGreatDoor
open Go.RowKit Go.Proofs Go

theorem sum_bdn {l : List Int} {M : Int} (h : ∀ x ∈ l, 0 ≤ x ∧ x ≤ M) : ∀ j : Nat, j ≤ l.length → 0 ≤ (l.take j).sum ∧ (l.take j).sum ≤ M * j
  | 0, _ => by simp
  | j + 1, hj => by
    have ih := sum_bdn h j (by omega)
    have h2 := h _ (at0_mem (s := l) (i := j) hj)
    have h3 : M * ((j + 1 : Nat) : Int) = M * (j : Int) + M := by rw [Int.natCast_add, Int.mul_add]; simp
    rw [sum_one hj, h3]; omega
/-- what is said of a table -/
theorem tabR_facts {l L : List Int} {a b d E : Int} (h : tabR l a b d = (L, E)) (hl : l.length ≤ 100) : (∀ x ∈ L, 0 ≤ x ∧ x ≤ 100) ∧ L.length ≤ 66 ∧ (E = 0 → L.sum = l.length) := by
  unfold tabR at h
  split at h
  · rename_i hc
    split at h
    · obtain ⟨rfl, rfl⟩ := Prod.mk.inj h
      exact ⟨fun x hx => by simp at hx, by simp, fun h => by cases h⟩
    · rename_i hb
      obtain ⟨rfl, rfl⟩ := Prod.mk.inj h
      unfold BadT at hb
      refine ⟨fun x hx => ?_, by rw [tabF_len]; omega, fun _ => tabF_sum (by omega) (by omega) (chkE_zero.1 hc).2 _⟩
      have := mem_nn_tabF hx
      omega
  · rename_i hc
    obtain ⟨rfl, rfl⟩ := Prod.mk.inj h
    exact ⟨fun x hx => by simp at hx, by simp, fun h => absurd h hc⟩
theorem countP_one {p : Int → Bool} {l : List Int} {j : Nat} (hj : j < l.length) : (l.take (j + 1)).countP p = (l.take j).countP p + (if p (at0 l j) = true then 1 else 0) := by
  rw [take_one hj, List.countP_append, List.countP_singleton]
theorem countP_bd {p : Int → Bool} {l : List Int} (j : Nat) : (l.take j).countP p ≤ j := by
  have h1 := List.countP_le_length (p := p) (l := l.take j)
  rw [List.length_take] at h1; omega
theorem chkE_rev (l : List Int) : chkE l.reverse = chkE l := by
  have h : WV l.reverse ↔ WV l := ⟨fun h x hx => h x (List.mem_reverse.2 hx), WV.rev⟩
  unfold chkE
  rw [List.length_reverse]
  split
  · rfl
  · by_cases hw : WV l
    · rw [if_pos hw, if_pos (h.2 hw)]
    · rw [if_neg hw, if_neg fun k => hw (h.1 k)]
theorem someE_rev (l : List Int) : someE l.reverse = someE l := by unfold someE; rw [chkE_rev, List.length_reverse]
theorem drop_rev {l : List Int} {p : Nat} (h : p < l.length) : (l.drop p).reverse = (l.drop (p + 1)).reverse ++ [at0 l p] := by
  have h1 : l[p] = at0 l p := by have := at0_get h; rw [List.getElem?_eq_getElem h] at this; exact Option.some.inj this
  rw [List.drop_eq_getElem_cons h, List.reverse_cons, h1]
set_option maxHeartbeats 4000000 in
set_option maxRecDepth 100000 in
theorem weightTables_any {a b d : Int} {A : Option Addr} {c : Nat} {l : List Int} (w : World) (HE : Env w) (H : IEs w A l) (hl : l.length ≤ 9223372036854775807) :
    Calls Tryz.prog 5 #[.slice A l.length c, .agg #[.int .i64 a, .int .i64 b, .int .i64 d]] w (RetB w true) := by
  by_cases h100 : 100 < l.length
  · go_enter Tryz.func5, Tryz.ntmps5
    go_wp2_with fail
    have HX := BL.one w #[.int .i64 a, .int .i64 b, .int .i64 d] 54
    replace HE := HE.ext HX.below
    refine (wawake_any _ HE).mono ?_
    rintro e w1 ⟨rfl, hb⟩
    replace HX := HX.ext hb
    replace HE := HE.ext hb
    clear hb
    have hc00 := HX.cell 0 0 rfl rfl
    have hc01 := HX.cell 0 1 rfl rfl
    have hc02 := HX.cell 0 2 rfl rfl
    try simp only [List.getElem_toArray, List.getElem_cons_zero, List.getElem_cons_succ] at hc00 hc01 hc02
    go_wp2_with fail
    refine (wawake_any _ HE).mono ?_
    rintro e w2 ⟨rfl, hb⟩
    clear hc00 hc01 hc02
    replace HX := HX.ext hb
    clear hb
    go_wp2
    go_ret
    exact ⟨by first | rfl | simp, HX.below⟩
  · by_cases h1000 : 1000 < d
    · have hd : decide (1000 < d) = true := decide_eq_true h1000
      go_enter Tryz.func5, Tryz.ntmps5
      go_wp2_with fail
      have HX := BL.one w #[.int .i64 a, .int .i64 b, .int .i64 d] 54
      replace HE := HE.ext HX.below
      refine (wawake_any _ HE).mono ?_
      rintro e w1 ⟨rfl, hb⟩
      replace HX := HX.ext hb
      replace HE := HE.ext hb
      clear hb
      have hc00 := HX.cell 0 0 rfl rfl
      have hc01 := HX.cell 0 1 rfl rfl
      have hc02 := HX.cell 0 2 rfl rfl
      try simp only [List.getElem_toArray, List.getElem_cons_zero, List.getElem_cons_succ] at hc00 hc01 hc02
      go_wp2_with fail
      refine (wawake_any _ HE).mono ?_
      rintro e w2 ⟨rfl, hb⟩
      clear hc00 hc01 hc02
      replace HX := HX.ext hb
      clear hb
      go_wp2
      go_ret
      exact ⟨by first | rfl | simp, HX.below⟩
    · have hd : decide (1000 < d) = false := decide_eq_false h1000
      obtain ⟨L, E, hT⟩ : ∃ L E, tabR l a b d = (L, E) := ⟨_, _, rfl⟩
      obtain ⟨hf1, hf2, hf3⟩ := tabR_facts hT (by omega)
      replace hT := Lib.hid hT
      replace hf1 := Lib.hid hf1
      replace hf3 := Lib.hid hf3
      go_enter Tryz.func5, Tryz.ntmps5
      go_wp2_with fail
      have HX := BL.one w #[.int .i64 a, .int .i64 b, .int .i64 d] 54
      replace HE := HE.ext HX.below
      replace H := H.ext HX.below
      refine (wawake_any _ HE).mono ?_
      rintro e w1 ⟨rfl, hb⟩
      replace HX := HX.ext hb
      replace H := H.ext hb
      clear hb
      have hc00 := HX.cell 0 0 rfl rfl
      have hc01 := HX.cell 0 1 rfl rfl
      have hc02 := HX.cell 0 2 rfl rfl
      try simp only [List.getElem_toArray, List.getElem_cons_zero, List.getElem_cons_succ] at hc00 hc01 hc02
      go_wp2_with fail
      refine (wtable_any A c l _ H (by omega) hT).mono ?_
      rintro e w2 ⟨A2, c2, rfl, HI2, hb⟩
      clear hc00 hc01 hc02
      replace HX := HX.ext hb
      replace H := H.ext hb
      clear hb
      have hc00 := HX.cell 0 0 rfl rfl
      have hc01 := HX.cell 0 1 rfl rfl
      have hc02 := HX.cell 0 2 rfl rfl
      try simp only [List.getElem_toArray, List.getElem_cons_zero, List.getElem_cons_succ] at hc00 hc01 hc02
      go_wp2_with fail
      refine (rtable_any A c l _ H (by omega) hT).mono ?_
      rintro e w3 ⟨A3, c3, rfl, HI3, hb⟩
      clear hc00 hc01 hc02
      replace HX := HX.ext hb
      replace H := H.ext hb
      replace HI2 := HI2.ext hb
      clear hb
      go_wp2
      go_loopg [9, 10] L.length (fun g t i wr => ∃ j : Nat, j + g = L.length ∧ t = .int .i64 (L.take j).sum ∧ i = .int .i64 (j : Int) ∧ Below w3.heap.size w3 wr)
      case atStart => exact ⟨0, by omega, rfl, rfl, Below.refl _ _⟩
      case round =>
        obtain ⟨j, hj, rfl, rfl, hbw⟩ := hrel
        have hsb := sum_bdn hf1.out j (by omega)
        have hsc : (100 : Int) * (j : Int) ≤ 6600 := by omega
        by_cases hj0 : j < L.length
        · obtain ⟨ad, rfl, hbk, c0⟩ := (HI2.ext hbw).at_ (at0_get hj0)
          have hsu := Lib.hid (sum_one hj0)
          have hz := hf1.out _ (at0_mem hj0)
          generalize (L.take j).sum = n at *
          generalize at0 L j = x at *
          obtain ⟨s1, s2⟩ := hsb
          obtain ⟨z1, z2⟩ := hz
          go_wp2
          go_roundg (L.length - (j + 1))
          case measure => omega
          case rel => exact ⟨j + 1, by omega, by rw [hsu.out], by go_num, hbw⟩
        · have hjl : L.take j = L := List.take_of_length_le (by omega)
          rw [hjl] at hsb ⊢
          replace HX := HX.ext hbw
          by_cases hE0 : E = 0
          · have hs := hf3.out hE0
            subst hE0
            rw [hs] at hsb ⊢
            clear hs hf3
            go_wp2_with fail
            refine (bints_any (b := true) A2 A3 c2 c3 L L _ (HI2.ext hbw) (HI3.ext hbw) (by omega) (by omega) (yes rfl)).mono ?_
            rintro e w5 ⟨rfl, hb⟩
            replace HX := HX.ext hb
            clear hb
            go_wp2
            go_ret
            exact ⟨by first | rfl | simp, HX.below⟩
          · have hE1 : (E != 0) = true := bne_iff_ne.2 hE0
            clear hE0 hf3
            generalize L.sum = n at *
            go_wp2_with fail
            refine (bints_any (b := true) A2 A3 c2 c3 L L _ (HI2.ext hbw) (HI3.ext hbw) (by omega) (by omega) (yes rfl)).mono ?_
            rintro e w5 ⟨rfl, hb⟩
            replace HX := HX.ext hb
            clear hb
            go_wp2
            go_ret
            exact ⟨by first | rfl | simp, HX.below⟩
set_option maxHeartbeats 4000000 in
set_option maxRecDepth 100000 in
theorem weightMedians_any {A : Option Addr} {c : Nat} {l : List Int} (w : World) (HE : Env w) (H : IEs w A l) (hl : l.length ≤ 9223372036854775807) :
    Calls Tryz.prog 7 #[.slice A l.length c] w (RetB w true) := by
  by_cases h100 : 100 < l.length
  · go_enter Tryz.func7, Tryz.ntmps7
    go_wp2_with fail
    have HX := BL.nil w
    refine (wawake_any _ HE).mono ?_
    rintro e w1 ⟨rfl, hb⟩
    replace HX := HX.ext hb
    replace HE := HE.ext hb
    clear hb
    go_wp2_with fail
    refine (wawake_any _ HE).mono ?_
    rintro e w2 ⟨rfl, hb⟩
    replace HX := HX.ext hb
    replace HE := HE.ext hb
    clear hb
    go_wp2
    go_ret
    exact ⟨by first | rfl | simp, HX.below⟩
  · by_cases hE0 : someE l = 0
    · have hE := Lib.hid hE0
      obtain ⟨h64, hV, h0⟩ := someE_zero.1 hE0
      replace hV := Lib.hid hV
      have hbt := twi_bd hV.out h0
      have hm1 := med_below l
      have hm2 := med_above l
      obtain ⟨t, htt⟩ : ∃ t, twi l = t := ⟨_, rfl⟩
      obtain ⟨u, hu⟩ : ∃ u, Hid (quo (twi l) 2 = u) := ⟨_, Lib.hid rfl⟩
      have hut := Lib.hid ((congrArg (fun t => quo t 2) htt.symm).trans hu.out)
      rw [htt] at hbt hm1 hm2
      replace hm1 := Lib.hid hm1
      replace hm2 := Lib.hid hm2
      clear hE0 htt
      obtain ⟨t1, t2⟩ := hbt
      go_enter Tryz.func7, Tryz.ntmps7
      go_wp2_with fail
      have HX := BL.nil w
      refine (wawake_any _ HE).mono ?_
      rintro e w1 ⟨rfl, hb⟩
      replace HX := HX.ext hb
      replace H := H.ext hb
      clear hb
      go_wp2_with fail
      refine (wmedian_go A c l _ H hE hu).mono ?_
      rintro e w2 ⟨A2, c2, B2, d2, rfl, F2, hb⟩
      replace HX := HX.ext hb
      replace H := H.ext hb
      clear hb
      go_upto_region 4 with fail
      have hb := below_alloc w2 (.cells #[.bool (sg u), .slice A2 (dig (nu u)).length c2, .slice B2 (dig u.den).length d2] 37)
      replace HX := HX.new #[.bool (sg u), .slice A2 (dig (nu u)).length c2, .slice B2 (dig u.den).length d2] 37
      simp only [List.cons_append, List.nil_append] at HX
      replace H := H.ext hb
      replace F2 := F2.ext hb
      clear hb
      generalize w2.alloc (.cells #[.bool (sg u), .slice A2 (dig (nu u)).length c2, .slice B2 (dig u.den).length d2] 37) = V2 at *
      generalize w2.heap.size = g2 at *
      go_wp2_with fail
      refine (rmedian_go A c l _ H hE hu).mono ?_
      rintro e w3 ⟨A3, c3, B3, d3, rfl, F3, hb⟩
      replace HX := HX.ext hb
      replace H := H.ext hb
      replace F2 := F2.ext hb
      clear hb
      go_upto_region 5 with fail
      have hlg30 := HX.lt 0 rfl
      simp only [] at hlg30
      have hb := below_alloc w3 (.cells #[.bool (sg u), .slice A3 (dig (nu u)).length c3, .slice B3 (dig u.den).length d3] 37)
      replace HX := HX.new #[.bool (sg u), .slice A3 (dig (nu u)).length c3, .slice B3 (dig u.den).length d3] 37
      simp only [List.cons_append, List.nil_append] at HX
      replace H := H.ext hb
      replace F2 := F2.ext hb
      replace F3 := F3.ext hb
      clear hb
      generalize w3.alloc (.cells #[.bool (sg u), .slice A3 (dig (nu u)).length c3, .slice B3 (dig u.den).length d3] 37) = V3 at *
      generalize w3.heap.size = g3 at *
      have hc00 := HX.cell 0 0 rfl rfl
      have hc01 := HX.cell 0 1 rfl rfl
      have hc02 := HX.cell 0 2 rfl rfl
      try simp only [List.getElem_toArray, List.getElem_cons_zero, List.getElem_cons_succ] at hc00 hc01 hc02
      have hc10 := HX.cell 1 0 rfl rfl
      have hc11 := HX.cell 1 1 rfl rfl
      have hc12 := HX.cell 1 2 rfl rfl
      try simp only [List.getElem_toArray, List.getElem_cons_zero, List.getElem_cons_succ] at hc10 hc11 hc12
      go_wp2_with fail
      refine (bfrac_s F2 F3 (by omega) (by omega)).mono ?_
      rintro e w4 ⟨rfl, hb⟩
      clear hc00 hc01 hc02
      clear hc10 hc11 hc12
      replace HX := HX.ext hb
      replace H := H.ext hb
      replace F2 := F2.ext hb
      replace F3 := F3.ext hb
      clear hb
      generalize w4 = V4 at *
      go_wp2
      go_loopg [7, 8, 9] l.length (fun g y z i wr => ∃ j : Nat, j + g = l.length ∧ y = .int .i64 ((l.take j).countP (fun x => decide (2 * x < t)) : Nat) ∧ z = .int .i64 ((l.take j).countP (fun x => decide (t < 2 * x)) : Nat) ∧ i = .int .i64 (j : Int) ∧ Below V4.heap.size V4 wr)
      case atStart => exact ⟨0, by omega, rfl, rfl, rfl, Below.refl _ _⟩
      case round =>
        obtain ⟨j, hj, rfl, rfl, rfl, hbw⟩ := hrel
        have n1 := countP_bd (p := fun x => decide (2 * x < t)) (l := l) j
        have n2 := countP_bd (p := fun x => decide (t < 2 * x)) (l := l) j
        by_cases hj0 : j < l.length
        · obtain ⟨ad, rfl, hbk, c0⟩ := (H.ext hbw).at_ (at0_get hj0)
          have hat := Lib.hid (at0_get hj0)
          clear c0
          have hb1 := countP_one (p := fun x => decide (2 * x < t)) hj0
          have hb2 := countP_one (p := fun x => decide (t < 2 * x)) hj0
          have hz := hV.out _ (at0_mem hj0)
          have j1 : (0 : Int) ≤ (j : Int) := by omega
          have j2 : (j : Int) < (l.length : Int) := by omega
          generalize (l.take j).countP (fun x => decide (2 * x < t)) = nb at *
          generalize (l.take j).countP (fun x => decide (t < 2 * x)) = na at *
          generalize at0 l j = x at *
          obtain ⟨z1, z2⟩ := hz
          obtain ⟨q1, hq1⟩ : ∃ q, Hid (quo x 1 = q) := ⟨_, Lib.hid rfl⟩
          have hcm := cmp_quo x t (d := 1) (e := 2) (by decide) (by decide)
          rw [hq1.out, hut.out] at hcm
          have HY := HX.ext hbw
          have HL := H.ext hbw
          have G2 := F2.ext hbw
          have held : ∀ {W' : World}, BL w W' [(g2, #[.bool (sg u), .slice A2 (dig (nu u)).length c2, .slice B2 (dig u.den).length d2], 37), (g3, #[.bool (sg u), .slice A3 (dig (nu u)).length c3, .slice B3 (dig u.den).length d3], 37)] → IEs W' (some ad) l → W'.cell? ⟨g2, 0, none⟩ = some (.bool (sg u)) ∧ W'.cell? ⟨g2, 1, none⟩ = some (.slice A2 (dig (nu u)).length c2) ∧ W'.cell? ⟨g2, 2, none⟩ = some (.slice B2 (dig u.den).length d2) ∧ W'.cell? (ad.add j) = some (.int .i64 x) := fun h k => ⟨h.cell 0 0 rfl rfl, h.cell 0 1 rfl rfl, h.cell 0 2 rfl rfl, by
            obtain ⟨ad1, e1, _, r1⟩ := k.at_ hat.out
            obtain rfl := Option.some.inj e1
            exact r1⟩
          rcases Int.lt_trichotomy (2 * x) t with h3 | h3 | h3
          · rw [if_pos (by omega)] at hcm
            replace hr := Lib.hid hcm
            rw [if_pos (by simp; omega)] at hb1
            rw [if_neg (by simp; omega)] at hb2
            clear hcm
            have hs3 := Lib.hid hb1
            have hs4 := Lib.hid hb2
            clear hb1 hb2 h3
            go_upto_region 11 with fail
            replace HY := HY.ext (drew_ext _)
            replace HL := HL.ext (drew_ext _)
            replace G2 := G2.ext (drew_ext _)
            replace hbw := bel_trans hbw (drew_ext _)
            go_region_held3 (fun W' => W'.cell? ⟨g2, 0, none⟩ = some (.bool (sg u)) ∧ W'.cell? ⟨g2, 1, none⟩ = some (.slice A2 (dig (nu u)).length c2) ∧ W'.cell? ⟨g2, 2, none⟩ = some (.slice B2 (dig u.den).length d2) ∧ W'.cell? (ad.add j) = some (.int .i64 x))
              (exact held HY HL)
              (first
                | (go_at_call 41; refine (qof_q (by decide) hq1 (by omega) (by omega) (by decide) (by with_reducible rfl)).mono ?_; rintro e w7 ⟨A7, c7, B7, d7, rfl, F7, hb⟩; replace HY := HY.ext hb; replace HL := HL.ext hb; replace G2 := G2.ext hb; replace hbw := bel_trans hbw hb; clear hb)
                | (go_at_call 40; refine (qcmp_h hr F7.fr G2.fr (by omega) (by omega)).mono ?_; rintro e w8 ⟨rfl, hb⟩; replace HY := HY.ext hb; replace HL := HL.ext hb; replace G2 := G2.ext hb; replace hbw := bel_trans hbw hb; clear hb))
            all_goals (
              go_wp2
              go_roundg (l.length - (j + 1))
              case measure => omega
              case rel => exact ⟨j + 1, by omega, by rw [hs3.out]; go_num, by rw [hs4.out]; go_num, by go_num, hbw⟩)
          · rw [if_neg (by omega), if_pos (by omega)] at hcm
            replace hr := Lib.hid hcm
            rw [if_neg (by simp; omega)] at hb1
            rw [if_neg (by simp; omega)] at hb2
            clear hcm
            have hs3 := Lib.hid hb1
            have hs4 := Lib.hid hb2
            clear hb1 hb2 h3
            go_upto_region 11 with fail
            replace HY := HY.ext (drew_ext _)
            replace HL := HL.ext (drew_ext _)
            replace G2 := G2.ext (drew_ext _)
            replace hbw := bel_trans hbw (drew_ext _)
            go_region_held3 (fun W' => W'.cell? ⟨g2, 0, none⟩ = some (.bool (sg u)) ∧ W'.cell? ⟨g2, 1, none⟩ = some (.slice A2 (dig (nu u)).length c2) ∧ W'.cell? ⟨g2, 2, none⟩ = some (.slice B2 (dig u.den).length d2) ∧ W'.cell? (ad.add j) = some (.int .i64 x))
              (exact held HY HL)
              (first
                | (go_at_call 41; refine (qof_q (by decide) hq1 (by omega) (by omega) (by decide) (by with_reducible rfl)).mono ?_; rintro e w7 ⟨A7, c7, B7, d7, rfl, F7, hb⟩; replace HY := HY.ext hb; replace HL := HL.ext hb; replace G2 := G2.ext hb; replace hbw := bel_trans hbw hb; clear hb)
                | (go_at_call 40; refine (qcmp_h hr F7.fr G2.fr (by omega) (by omega)).mono ?_; rintro e w8 ⟨rfl, hb⟩; replace HY := HY.ext hb; replace HL := HL.ext hb; replace G2 := G2.ext hb; replace hbw := bel_trans hbw hb; clear hb))
            all_goals (
              go_wp2
              go_roundg (l.length - (j + 1))
              case measure => omega
              case rel => exact ⟨j + 1, by omega, by rw [hs3.out]; go_num, by rw [hs4.out]; go_num, by go_num, hbw⟩)
          · rw [if_neg (by omega), if_neg (by omega)] at hcm
            replace hr := Lib.hid hcm
            rw [if_neg (by simp; omega)] at hb1
            rw [if_pos (by simp; omega)] at hb2
            clear hcm
            have hs3 := Lib.hid hb1
            have hs4 := Lib.hid hb2
            clear hb1 hb2 h3
            go_upto_region 11 with fail
            replace HY := HY.ext (drew_ext _)
            replace HL := HL.ext (drew_ext _)
            replace G2 := G2.ext (drew_ext _)
            replace hbw := bel_trans hbw (drew_ext _)
            go_region_held3 (fun W' => W'.cell? ⟨g2, 0, none⟩ = some (.bool (sg u)) ∧ W'.cell? ⟨g2, 1, none⟩ = some (.slice A2 (dig (nu u)).length c2) ∧ W'.cell? ⟨g2, 2, none⟩ = some (.slice B2 (dig u.den).length d2) ∧ W'.cell? (ad.add j) = some (.int .i64 x))
              (exact held HY HL)
              (first
                | (go_at_call 41; refine (qof_q (by decide) hq1 (by omega) (by omega) (by decide) (by with_reducible rfl)).mono ?_; rintro e w7 ⟨A7, c7, B7, d7, rfl, F7, hb⟩; replace HY := HY.ext hb; replace HL := HL.ext hb; replace G2 := G2.ext hb; replace hbw := bel_trans hbw hb; clear hb)
                | (go_at_call 40; refine (qcmp_h hr F7.fr G2.fr (by omega) (by omega)).mono ?_; rintro e w8 ⟨rfl, hb⟩; replace HY := HY.ext hb; replace HL := HL.ext hb; replace G2 := G2.ext hb; replace hbw := bel_trans hbw hb; clear hb))
            all_goals (
              go_wp2
              go_roundg (l.length - (j + 1))
              case measure => omega
              case rel => exact ⟨j + 1, by omega, by rw [hs3.out]; go_num, by rw [hs4.out]; go_num, by go_num, hbw⟩)
        · have hjl : l.take j = l := List.take_of_length_le (by omega)
          rw [hjl] at n1 n2 ⊢
          have e1 := hm1.out
          have e2 := hm2.out
          generalize l.countP (fun x => decide (2 * x < t)) = nb at *
          generalize l.countP (fun x => decide (t < 2 * x)) = na at *
          replace HX := HX.ext hbw
          have d1 : 2 * (nb : Int) ≤ (l.length : Int) := by omega
          have d2 : 2 * (na : Int) ≤ (l.length : Int) := by omega
          go_wp2
          go_ret
          exact ⟨by first | rfl | simp, HX.below⟩
    · obtain ⟨E, hEE⟩ : ∃ E, someE l = E := ⟨_, rfl⟩
      have hE := Lib.hid hEE
      have hn : (E != 0) = true := bne_iff_ne.2 (hEE ▸ hE0)
      clear hE0 hEE
      go_enter Tryz.func7, Tryz.ntmps7
      go_wp2_with fail
      have HX := BL.nil w
      refine (wawake_any _ HE).mono ?_
      rintro e w1 ⟨rfl, hb⟩
      replace HX := HX.ext hb
      replace H := H.ext hb
      clear hb
      go_wp2_with fail
      refine (wmedian_err A c l _ H (by omega) hE hn).mono ?_
      rintro e w2 ⟨rfl, hb⟩
      replace HX := HX.ext hb
      replace H := H.ext hb
      clear hb
      go_upto_region 4 with fail
      have hb := below_alloc w2 (.cells #[.bool false, .slice none 0 0, .slice none 0 0] 37)
      replace HX := HX.new #[.bool false, .slice none 0 0, .slice none 0 0] 37
      simp only [List.cons_append, List.nil_append] at HX
      replace H := H.ext hb
      clear hb
      generalize w2.alloc (.cells #[.bool false, .slice none 0 0, .slice none 0 0] 37) = V2 at *
      generalize w2.heap.size = g2 at *
      go_wp2_with fail
      refine (rmedian_err A c l _ H (by omega) hE hn).mono ?_
      rintro e w3 ⟨rfl, hb⟩
      replace HX := HX.ext hb
      replace H := H.ext hb
      clear hb
      go_upto_region 5 with fail
      have hlg30 := HX.lt 0 rfl
      simp only [] at hlg30
      have hb := below_alloc w3 (.cells #[.bool false, .slice none 0 0, .slice none 0 0] 37)
      replace HX := HX.new #[.bool false, .slice none 0 0, .slice none 0 0] 37
      simp only [List.cons_append, List.nil_append] at HX
      replace H := H.ext hb
      clear hb
      generalize w3.alloc (.cells #[.bool false, .slice none 0 0, .slice none 0 0] 37) = V3 at *
      generalize w3.heap.size = g3 at *
      have hc00 := HX.cell 0 0 rfl rfl
      have hc01 := HX.cell 0 1 rfl rfl
      have hc02 := HX.cell 0 2 rfl rfl
      try simp only [List.getElem_toArray, List.getElem_cons_zero, List.getElem_cons_succ] at hc00 hc01 hc02
      have hc10 := HX.cell 1 0 rfl rfl
      have hc11 := HX.cell 1 1 rfl rfl
      have hc12 := HX.cell 1 2 rfl rfl
      try simp only [List.getElem_toArray, List.getElem_cons_zero, List.getElem_cons_succ] at hc10 hc11 hc12
      go_wp2_with fail
      refine (bfrac_0).mono ?_
      rintro e w4 ⟨rfl, hb⟩
      clear hc00 hc01 hc02
      clear hc10 hc11 hc12
      replace HX := HX.ext hb
      replace H := H.ext hb
      clear hb
      have hc00 := HX.cell 0 0 rfl rfl
      have hc01 := HX.cell 0 1 rfl rfl
      have hc02 := HX.cell 0 2 rfl rfl
      try simp only [List.getElem_toArray, List.getElem_cons_zero, List.getElem_cons_succ] at hc00 hc01 hc02
      have hc10 := HX.cell 1 0 rfl rfl
      have hc11 := HX.cell 1 1 rfl rfl
      have hc12 := HX.cell 1 2 rfl rfl
      try simp only [List.getElem_toArray, List.getElem_cons_zero, List.getElem_cons_succ] at hc10 hc11 hc12
      go_wp2_with fail
      refine (bfrac_0).mono ?_
      rintro e w5 ⟨rfl, hb⟩
      clear hc00 hc01 hc02
      clear hc10 hc11 hc12
      replace HX := HX.ext hb
      clear hb
      go_wp2
      go_ret
      exact ⟨by first | rfl | simp, HX.below⟩
end Go.Proofs.YteleohgalknkiaaGreatDoor
