/- The statements WeightDeviates, WeightQuantiles. -/
import Derived.Test.YteleohgalknkiaaGreatDoorW11M
namespace Go.Proofs.YteleohgalknkiaaGreatDoor
open Go.RowKit Go.Proofs Go

structure Arg (w : World) (s : Bool) (A : Option Addr) (n c : Nat) (B : Option Addr) (m d : Nat) : Prop where
  ex : ∃ l r, Lim w A c l ∧ Lim w B d r ∧ n = l.length ∧ m = r.length
  hn : n ≤ 9223372036854775807
  hm : m ≤ 9223372036854775807
theorem Arg.fr {w : World} {s : Bool} {A : Option Addr} {n c : Nat} {B : Option Addr} {m d : Nat} (h : Arg w s A n c B m d) (h1 : n ≤ 6) (h2 : m ≤ 6) : ∃ q, Fr w s A n c B m d q 6 := by
  obtain ⟨⟨l, r, a1, a2, a3, a4⟩, _, _⟩ := h
  exact ⟨_, ⟨l, r, a1, a2, a3, a4, rfl⟩, h1, h2⟩
/-- the sum of the distances from a number -/
def sumA (l : List Int) (y : Int) : Int := (l.map fun x => max (x - y) (y - x)).sum
theorem sumA_one {l : List Int} {j : Nat} (hj : j < l.length) (y : Int) : sumA (l.take (j + 1)) y = sumA (l.take j) y + max (at0 l j - y) (y - at0 l j) := by
  rw [take_one hj, sumA, sumA, List.map_append, List.sum_append]; simp
theorem sumA_two (l : List Int) (y : Int) : sumM l (2 * y) = 2 * sumA l y := by
  induction l with
  | nil => rfl
  | cons x l ih =>
    have h1 : sumM (x :: l) (2 * y) = mg x (2 * y) + sumM l (2 * y) := by simp [sumM]
    have h2 : sumA (x :: l) y = max (x - y) (y - x) + sumA l y := by simp [sumA]
    have h3 : mg x (2 * y) = 2 * max (x - y) (y - x) := by unfold mg; split <;> omega
    rw [h1, h2, h3, ih]; omega
theorem sumA_bd {l : List Int} (h : WV l) {y : Int} (hy : -1000000 ≤ y ∧ y ≤ 1000000) (h64 : l.length ≤ 64) (j : Nat) : 0 ≤ sumA (l.take j) y ∧ sumA (l.take j) y ≤ 160000000 := by
  have h1 := sumM_bd (t := 2 * y) (by omega) (h.take j)
  have h2 : (l.take j).length ≤ 64 := by rw [List.length_take]; omega
  rw [sumA_two] at h1
  omega
theorem dev_mul {l : List Int} (h0 : 0 < l.length) : quo (sumM l (twi l)) (2 * (l.length : Int)) * quo (l.length : Int) 1 = quo (sumM l (twi l) * (l.length : Int)) (2 * (l.length : Int) * 1) :=
  quo_mul _ _ (by omega) (by omega)
theorem dev_ok {l : List Int} (h0 : 0 < l.length) (y : Int) : quo (sumM l (twi l)) (2 * (l.length : Int)) * quo (l.length : Int) 1 ≤ quo (sumA l y) 1 := by
  rw [dev_mul h0]
  refine quo_le (by omega) (by omega) ?_
  have h1 := dev_least l (2 * y)
  rw [sumA_two] at h1
  have h2 := Int.mul_le_mul_of_nonneg_right h1 (show 0 ≤ (l.length : Int) by omega)
  have h3 : 2 * sumA l y * (l.length : Int) = sumA l y * (2 * (l.length : Int) * 1) := by rw [Int.mul_one, ← Int.mul_assoc, Int.mul_comm (sumA l y) 2]
  rw [Int.mul_one, ← h3]
  exact h2
theorem dev_sz {l : List Int} (h64 : l.length ≤ 64) (hV : WV l) (h0 : 0 < l.length) : Sz (quo (sumM l (twi l)) (2 * (l.length : Int)) * quo (l.length : Int) 1) 2 := by
  rw [dev_mul h0]
  have h1 := twi_bd hV h0
  have h2 := sumM_bd (t := twi l) (by omega) hV
  have h3 : 0 ≤ sumM l (twi l) * (l.length : Int) := Int.mul_nonneg h2.1 (by omega)
  have h4 := Int.mul_le_mul (show sumM l (twi l) ≤ 320000000 by omega) (show (l.length : Int) ≤ 64 by omega) (by omega) (by omega)
  exact quo_sz (by omega) (by omega) (by omega) (by omega)
theorem clip_any {x y : Int} (w : World) (h1 : min x 1000000 = y ∨ (min x 1000000 < -1000000 ∧ y = -1000000)) (hy : -1000000 ≤ y) :
    Calls Tryz.prog 51 #[.int .i64 x, .int .i64 (-1000000), .int .i64 1000000] w (RetI w y) := by
  have h2 : max (-1000000) (min x 1000000) = y := by omega
  go_enter Tryz.func51, Tryz.ntmps51
  go_wp2
  all_goals (
    go_ret
    exact ⟨by first | rfl | (congr 2; omega) | (simp; omega), Below.refl _ _⟩)
theorem countP_one {p : Int → Bool} {l : List Int} {j : Nat} (hj : j < l.length) : (l.take (j + 1)).countP p = (l.take j).countP p + (if p (at0 l j) = true then 1 else 0) := by
  rw [take_one hj, List.countP_append, List.countP_singleton]
theorem countP_bd {p : Int → Bool} {l : List Int} (j : Nat) : (l.take j).countP p ≤ j := by
  have h1 := List.countP_le_length (p := p) (l := l.take j)
  rw [List.length_take] at h1; omega
set_option maxHeartbeats 4000000 in
set_option maxRecDepth 100000 in
theorem weightDeviates_any {x0 : Int} {A : Option Addr} {c : Nat} {l : List Int} (w : World) (HE : Env w) (H : IEs w A l) (hl : l.length ≤ 9223372036854775807) :
    Calls Tryz.prog 10 #[.slice A l.length c, .int .i64 x0] w (RetB w true) := by
  by_cases h64 : 64 < l.length
  · have hne : ((l.length : Int) == 0) = false := beq_eq_false_iff_ne.2 (by omega)
    go_enter Tryz.func10, Tryz.ntmps10
    go_wp2_with fail
    have HX := BL.nil w
    refine (wawake_any _ HE).mono ?_
    rintro e w1 ⟨rfl, hb⟩
    replace HX := HX.ext hb
    replace HE := HE.ext hb
    clear hb
    go_wp2_with fail
    refine (wawake_any _ HE).mono ?_
    rintro e w2 ⟨rfl, hb⟩
    replace HX := HX.ext hb
    replace HE := HE.ext hb
    clear hb
    go_wp2
    go_ret
    exact ⟨by first | rfl | simp, HX.below⟩
  by_cases h00 : l.length = 0
  · obtain rfl := List.eq_nil_of_length_eq_zero h00
    clear h00
    go_enter Tryz.func10, Tryz.ntmps10
    go_wp2_with fail
    have HX := BL.nil w
    refine (wawake_any _ HE).mono ?_
    rintro e w1 ⟨rfl, hb⟩
    replace HX := HX.ext hb
    replace HE := HE.ext hb
    clear hb
    go_wp2_with fail
    refine (wawake_any _ HE).mono ?_
    rintro e w2 ⟨rfl, hb⟩
    replace HX := HX.ext hb
    replace HE := HE.ext hb
    clear hb
    go_wp2
    go_ret
    exact ⟨by first | rfl | simp, HX.below⟩
  have hne : ((l.length : Int) == 0) = false := beq_eq_false_iff_ne.2 (by omega)
  have h0 : 0 < l.length := by omega
  clear h00
  by_cases hC0 : chkE l = 0
  · have hC := Lib.hid hC0
    have hs0 : someE l = 0 := someE_zero.2 ⟨by omega, (chkE_zero.1 hC0).2, h0⟩
    have hE := Lib.hid hs0
    have hV := Lib.hid (chkE_zero.1 hC0).2
    clear hs0 hC0
    obtain ⟨y, hy1, hy2, hy3⟩ : ∃ y, (min x0 1000000 = y ∨ (min x0 1000000 < -1000000 ∧ y = -1000000)) ∧ -1000000 ≤ y ∧ y ≤ 1000000 := by
      by_cases h : min x0 1000000 < -1000000
      · exact ⟨_, .inr ⟨h, rfl⟩, by omega, by omega⟩
      · exact ⟨_, .inl rfl, by omega, by omega⟩
    replace hy1 := Lib.hid hy1
    obtain ⟨v, hv⟩ : ∃ v, Hid (quo (sumM l (twi l)) (2 * (l.length : Int)) = v) := ⟨_, Lib.hid rfl⟩
    obtain ⟨o1, ho1⟩ : ∃ o1, Hid (quo (l.length : Int) 1 = o1) := ⟨_, Lib.hid rfl⟩
    obtain ⟨o2, ho2⟩ : ∃ o2, Hid (quo (sumA l y) 1 = o2) := ⟨_, Lib.hid rfl⟩
    obtain ⟨u2, hu2⟩ : ∃ u2, Hid (v * o1 = u2) := ⟨_, Lib.hid rfl⟩
    have zu : Sz u2 2 := by rw [← hu2.out, ← hv.out, ← ho1.out]; exact dev_sz (by omega) hV.out h0
    obtain ⟨r, hr⟩ : ∃ r, Hid (cmpQ u2 o2 = r) := ⟨_, Lib.hid rfl⟩
    have hr0 : r ≤ 0 := by rw [← hr.out]; exact cmpQ_le.2 (by rw [← hu2.out, ← hv.out, ← ho1.out, ← ho2.out]; exact dev_ok h0 y)
    have hdr : decide (r ≤ 0) = true := decide_eq_true hr0
    go_enter Tryz.func10, Tryz.ntmps10
    go_wp2_with fail
    have HX := BL.nil w
    refine (wawake_any _ HE).mono ?_
    rintro e w1 ⟨rfl, hb⟩
    replace HX := HX.ext hb
    replace H := H.ext hb
    clear hb
    go_wp2_with fail
    refine (rcheck_any A c l _ H (by omega) hC).mono ?_
    rintro e w2 ⟨rfl, hb⟩
    replace HX := HX.ext hb
    replace H := H.ext hb
    clear hb
    go_wp2_with fail
    refine (clip_any _ hy1.out hy2).mono ?_
    rintro e w3 ⟨rfl, hb⟩
    replace HX := HX.ext hb
    replace H := H.ext hb
    clear hb
    go_wp2_with fail
    refine (wdev_go A c l _ H hE hv).mono ?_
    rintro e w4 ⟨A4, c4, B4, d4, rfl, F4, hb⟩
    replace HX := HX.ext hb
    replace H := H.ext hb
    clear hb
    go_upto_region 5 with fail
    have hb := below_alloc w4 (.cells #[.bool (sg v), .slice A4 (dig (nu v)).length c4, .slice B4 (dig v.den).length d4] 37)
    replace HX := HX.new #[.bool (sg v), .slice A4 (dig (nu v)).length c4, .slice B4 (dig v.den).length d4] 37
    simp only [List.nil_append] at HX
    replace H := H.ext hb
    replace F4 := F4.ext hb
    clear hb
    generalize w4.alloc (.cells #[.bool (sg v), .slice A4 (dig (nu v)).length c4, .slice B4 (dig v.den).length d4] 37) = V4 at *
    generalize w4.heap.size = g4 at *
    go_wp2
    go_loopg [7, 8] l.length (fun g n i wr => ∃ j : Nat, j + g = l.length ∧ n = .int .i64 (sumA (l.take j) y) ∧ i = .int .i64 (j : Int) ∧ Below V4.heap.size V4 wr)
    case atStart => exact ⟨0, by omega, rfl, rfl, Below.refl _ _⟩
    case round =>
      obtain ⟨j, hj, rfl, rfl, hbw⟩ := hrel
      have hsb := sumA_bd hV.out ⟨hy2, hy3⟩ (by omega) j
      by_cases hj0 : j < l.length
      · obtain ⟨ad, rfl, hbk, c0⟩ := (H.ext hbw).at_ (at0_get hj0)
        have hsu := sumA_one hj0 y
        have hz := hV.out _ (at0_mem hj0)
        have j1 : (0 : Int) ≤ (j : Int) := by omega
        have j2 : (j : Int) < (l.length : Int) := by omega
        generalize sumA (l.take j) y = n at *
        generalize at0 l j = x at *
        obtain ⟨s1, s2⟩ := hsb
        obtain ⟨z1, z2⟩ := hz
        have v2 : IntKind.i64.wrap (x - y) = x - y := Go.IntWalk.i64_in _ (by omega)
        have v3 : IntKind.i64.wrap (y - x) = y - x := Go.IntWalk.i64_in _ (by omega)
        generalize wr = V8 at *
        go_upto_region 9 with fail
        rcases Int.lt_trichotomy x y with h3 | h3 | h3
        · have hs3 := Lib.hid (hsu.trans (by rw [show max (x - y) (y - x) = y - x by omega]))
          have v4 : IntKind.i64.wrap (n + (y - x)) = n + (y - x) := Go.IntWalk.i64_in _ (by omega)
          have d1 : max (x - y) (y - x) = y - x := by omega
          have d2 : x - y < y - x := by omega
          clear hsu
          go_region
          all_goals (
            go_wp2
            go_roundg (l.length - (j + 1))
            case measure => omega
            case rel => exact ⟨j + 1, by omega, (by rw [hs3.out] <;> simp), by first | rfl | go_num, drew_below hbw 1⟩)
        · have hs3 := Lib.hid (hsu.trans (by rw [show max (x - y) (y - x) = 0 by omega]))
          have v4 : IntKind.i64.wrap (n + (0)) = n + (0) := Go.IntWalk.i64_in _ (by omega)
          have d1 : max (x - y) (y - x) = 0 := by omega
          have d2 : x - y = 0 := by omega
          have d3 : y - x = 0 := by omega
          clear hsu
          go_region
          all_goals (
            go_wp2
            go_roundg (l.length - (j + 1))
            case measure => omega
            case rel => exact ⟨j + 1, by omega, (by rw [hs3.out] <;> simp), by first | rfl | go_num, drew_below hbw 1⟩)
        · have hs3 := Lib.hid (hsu.trans (by rw [show max (x - y) (y - x) = x - y by omega]))
          have v4 : IntKind.i64.wrap (n + (x - y)) = n + (x - y) := Go.IntWalk.i64_in _ (by omega)
          have d1 : max (x - y) (y - x) = x - y := by omega
          have d2 : y - x < x - y := by omega
          clear hsu
          go_region
          all_goals (
            go_wp2
            go_roundg (l.length - (j + 1))
            case measure => omega
            case rel => exact ⟨j + 1, by omega, (by rw [hs3.out] <;> simp), by first | rfl | go_num, drew_below hbw 1⟩)
      · have hjl : l.take j = l := List.take_of_length_le (by omega)
        rw [hjl] at hsb ⊢
        generalize sumA l y = n at *
        obtain ⟨s1, s2⟩ := hsb
        replace HX := HX.ext hbw
        replace F4 := F4.ext hbw
        go_upto_region 10 with fail
        have held : ∀ {W' : World}, BL w W' [(g4, #[.bool (sg v), .slice A4 (dig (nu v)).length c4, .slice B4 (dig v.den).length d4], 37)] → W'.cell? ⟨g4, 0, none⟩ = some (.bool (sg v)) ∧ W'.cell? ⟨g4, 1, none⟩ = some (.slice A4 (dig (nu v)).length c4) ∧ W'.cell? ⟨g4, 2, none⟩ = some (.slice B4 (dig v.den).length d4) := fun h => ⟨h.cell 0 0 rfl rfl, h.cell 0 1 rfl rfl, h.cell 0 2 rfl rfl⟩
        replace HX := HX.ext (drew_ext _)
        replace F4 := F4.ext (drew_ext _)
        go_region_held3 (fun W' => W'.cell? ⟨g4, 0, none⟩ = some (.bool (sg v)) ∧ W'.cell? ⟨g4, 1, none⟩ = some (.slice A4 (dig (nu v)).length c4) ∧ W'.cell? ⟨g4, 2, none⟩ = some (.slice B4 (dig v.den).length d4))
          (exact held HX)
          (first
            | (go_at_call_of 41 (Value.int IntKind.i64 (l.length : Int)); refine (qof_q (y := 1) (by decide) ho1 (by omega) (by omega) (by decide) (by with_reducible rfl)).mono ?_; rintro e w7 ⟨A7, c7, B7, d7, rfl, F7, hb⟩; replace HX := HX.ext hb; replace F4 := F4.ext hb; (try replace F8 := F8.ext hb); (try replace F9 := F9.ext hb); clear hb)
            | (go_at_call_of 41 (Value.int IntKind.i64 n); refine (qof_q (y := 1) (by decide) ho2 (by omega) (by omega) (by decide) (by with_reducible rfl)).mono ?_; rintro e w9 ⟨A9, c9, B9, d9, rfl, F9, hb⟩; replace HX := HX.ext hb; replace F4 := F4.ext hb; (try replace F7 := F7.ext hb); (try replace F8 := F8.ext hb); clear hb)
            | (go_at_call 44; refine (qmul_h hu2 zu F4.fr F7.fr (by omega) (by omega)).mono ?_; rintro e w8 ⟨A8, c8, B8, d8, rfl, F8, hb⟩; replace HX := HX.ext hb; replace F4 := F4.ext hb; (try replace F7 := F7.ext hb); (try replace F9 := F9.ext hb); clear hb)
            | (go_at_call 40; refine (qcmp_h hr F8.fr F9.fr (by omega) (by omega)).mono ?_; rintro e w10 ⟨rfl, hb⟩; replace HX := HX.ext hb; replace F4 := F4.ext hb; (try replace F7 := F7.ext hb); (try replace F8 := F8.ext hb); (try replace F9 := F9.ext hb); clear hb))
        all_goals (
          go_wp2
          go_ret
          exact ⟨by first | rfl | simp, HX.below⟩)
  · obtain ⟨E, hCC⟩ : ∃ E, chkE l = E := ⟨_, rfl⟩
    have hC := Lib.hid hCC
    have hn : (E != 0) = true := bne_iff_ne.2 (hCC ▸ hC0)
    clear hC0 hCC
    go_enter Tryz.func10, Tryz.ntmps10
    go_wp2_with fail
    have HX := BL.nil w
    refine (wawake_any _ HE).mono ?_
    rintro e w1 ⟨rfl, hb⟩
    replace HX := HX.ext hb
    replace HE := HE.ext hb
    replace H := H.ext hb
    clear hb
    go_wp2_with fail
    refine (rcheck_any A c l _ H (by omega) hC).mono ?_
    rintro e w2 ⟨rfl, hb⟩
    replace HX := HX.ext hb
    replace HE := HE.ext hb
    clear hb
    go_wp2_with fail
    refine (wawake_any _ HE).mono ?_
    rintro e w3 ⟨rfl, hb⟩
    replace HX := HX.ext hb
    replace HE := HE.ext hb
    clear hb
    go_wp2
    go_ret
    exact ⟨by first | rfl | simp, HX.below⟩
set_option maxHeartbeats 4000000 in
set_option maxRecDepth 100000 in
theorem weightQuantiles_any {s : Bool} {A' B' : Option Addr} {n' c' m' d' : Nat} {A : Option Addr} {c : Nat} {l : List Int} (w : World) (HE : Env w) (H : IEs w A l) (hl : l.length ≤ 9223372036854775807) (PA : Arg w s A' n' c' B' m' d') :
    Calls Tryz.prog 8 #[.slice A l.length c, .agg #[.bool s, .slice A' n' c', .slice B' m' d']] w (RetB w true) := by
  have hn' := PA.hn
  have hm' := PA.hm
  by_cases h100 : 100 < l.length
  · go_enter Tryz.func8, Tryz.ntmps8
    go_wp2_with fail
    have HX := BL.one w #[.bool s, .slice A' n' c', .slice B' m' d'] 37
    replace HE := HE.ext HX.below
    refine (wawake_any _ HE).mono ?_
    rintro e w1 ⟨rfl, hb⟩
    replace HX := HX.ext hb
    replace HE := HE.ext hb
    clear hb
    have hc00 := HX.cell 0 0 rfl rfl
    have hc01 := HX.cell 0 1 rfl rfl
    have hc02 := HX.cell 0 2 rfl rfl
    try simp only [List.getElem_toArray, List.getElem_cons_zero, List.getElem_cons_succ] at hc00 hc01 hc02
    go_wp2_with fail
    refine (wawake_any _ HE).mono ?_
    rintro e w2 ⟨rfl, hb⟩
    clear hc00 hc01 hc02
    replace HX := HX.ext hb
    clear hb
    go_wp2
    go_ret
    exact ⟨by first | rfl | simp, HX.below⟩
  by_cases h4 : 4 < n'
  · go_enter Tryz.func8, Tryz.ntmps8
    go_wp2_with fail
    have HX := BL.one w #[.bool s, .slice A' n' c', .slice B' m' d'] 37
    replace HE := HE.ext HX.below
    refine (wawake_any _ HE).mono ?_
    rintro e w1 ⟨rfl, hb⟩
    replace HX := HX.ext hb
    replace HE := HE.ext hb
    clear hb
    have hc00 := HX.cell 0 0 rfl rfl
    have hc01 := HX.cell 0 1 rfl rfl
    have hc02 := HX.cell 0 2 rfl rfl
    try simp only [List.getElem_toArray, List.getElem_cons_zero, List.getElem_cons_succ] at hc00 hc01 hc02
    go_wp2_with fail
    refine (wawake_any _ HE).mono ?_
    rintro e w2 ⟨rfl, hb⟩
    clear hc00 hc01 hc02
    replace HX := HX.ext hb
    clear hb
    go_wp2
    go_ret
    exact ⟨by first | rfl | simp, HX.below⟩
  by_cases h5 : 4 < m'
  · go_enter Tryz.func8, Tryz.ntmps8
    go_wp2_with fail
    have HX := BL.one w #[.bool s, .slice A' n' c', .slice B' m' d'] 37
    replace HE := HE.ext HX.below
    refine (wawake_any _ HE).mono ?_
    rintro e w1 ⟨rfl, hb⟩
    replace HX := HX.ext hb
    replace HE := HE.ext hb
    clear hb
    have hc00 := HX.cell 0 0 rfl rfl
    have hc01 := HX.cell 0 1 rfl rfl
    have hc02 := HX.cell 0 2 rfl rfl
    try simp only [List.getElem_toArray, List.getElem_cons_zero, List.getElem_cons_succ] at hc00 hc01 hc02
    go_wp2_with fail
    refine (wawake_any _ HE).mono ?_
    rintro e w2 ⟨rfl, hb⟩
    clear hc00 hc01 hc02
    replace HX := HX.ext hb
    clear hb
    go_wp2
    go_ret
    exact ⟨by first | rfl | simp, HX.below⟩
  obtain ⟨q, P⟩ := PA.fr (by omega) (by omega)
  clear PA
  obtain ⟨r, E, hQ⟩ := QuanR.ex l q
  replace hQ := Lib.hid hQ
  go_enter Tryz.func8, Tryz.ntmps8
  go_wp2_with fail
  have HX := BL.one w #[.bool s, .slice A' n' c', .slice B' m' d'] 37
  replace HE := HE.ext HX.below
  replace H := H.ext HX.below
  replace P := P.ext HX.below
  refine (wawake_any _ HE).mono ?_
  rintro e w1 ⟨rfl, hb⟩
  replace HX := HX.ext hb
  replace H := H.ext hb
  replace P := P.ext hb
  clear hb
  have hc00 := HX.cell 0 0 rfl rfl
  have hc01 := HX.cell 0 1 rfl rfl
  have hc02 := HX.cell 0 2 rfl rfl
  try simp only [List.getElem_toArray, List.getElem_cons_zero, List.getElem_cons_succ] at hc00 hc01 hc02
  go_wp2_with fail
  refine (wquant_any A c l _ H (by omega) P (by omega) hQ.out).mono ?_
  rintro e w2 ⟨rfl, hb⟩
  clear hc00 hc01 hc02
  replace HX := HX.ext hb
  replace H := H.ext hb
  replace P := P.ext hb
  clear hb
  have hc00 := HX.cell 0 0 rfl rfl
  have hc01 := HX.cell 0 1 rfl rfl
  have hc02 := HX.cell 0 2 rfl rfl
  try simp only [List.getElem_toArray, List.getElem_cons_zero, List.getElem_cons_succ] at hc00 hc01 hc02
  go_wp2_with fail
  refine (rquant_any A c l _ H (by omega) P (by omega) hQ.out).mono ?_
  rintro e w3 ⟨rfl, hb⟩
  clear hc00 hc01 hc02
  replace HX := HX.ext hb
  replace H := H.ext hb
  replace P := P.ext hb
  clear hb
  by_cases hE0 : E = 0
  · subst hE0
    obtain ⟨hs0, hq0, i, hi, hri⟩ : someE l = 0 ∧ 0 < q ∧ ∃ i, QAt q l.length i ∧ r = at0 (srt l) i := by
      rcases hQ.out with ⟨_, h, _⟩ | ⟨_, _, _, h⟩ | ⟨h1, h2, ⟨i, h3, h4⟩, _⟩
      · exact absurd rfl h
      · cases h
      · exact ⟨h1, h2.1, i, h3, h4⟩
    have hV := Lib.hid (someE_zero.1 hs0)
    have h64 : l.length ≤ 64 := hV.out.1
    have h0 : 0 < l.length := hV.out.2.2
    have hrm : r ∈ l := (srt_perm l).mem_iff.1 (hri ▸ at0_mem (by rw [srt_len]; exact hi.1))
    have HT : Hid (Tells true (r ∈ l)) := Lib.hid (yes hrm)
    have hrb := hV.out.2.1 r hrm
    have hmost := quant_most hi
    have hless := quant_less hq0 hi
    rw [← hri] at hmost hless
    clear hri hi hQ hs0 hq0 hrm
    obtain ⟨r1, r2⟩ := hrb
    obtain ⟨q1, ho1⟩ : ∃ q1, Hid (quo ((l.countP fun x => decide (x ≤ r) : Nat) : Int) 1 = q1) := ⟨_, Lib.hid rfl⟩
    obtain ⟨q2, ho2⟩ : ∃ q2, Hid (quo ((l.countP fun x => decide (x < r) : Nat) : Int) 1 = q2) := ⟨_, Lib.hid rfl⟩
    obtain ⟨N, hN⟩ : ∃ N, Hid (q * quo (l.length : Int) 1 = N) := ⟨_, Lib.hid rfl⟩
    rw [ho1.out, hN.out] at hmost
    rw [ho2.out, hN.out] at hless
    obtain ⟨x1, hr1⟩ : ∃ x1, Hid (cmpQ q1 N = x1) := ⟨_, Lib.hid rfl⟩
    obtain ⟨x2, hr2⟩ : ∃ x2, Hid (cmpQ q2 N = x2) := ⟨_, Lib.hid rfl⟩
    rw [hr1.out] at hmost
    rw [hr2.out] at hless
    have hd1 : decide (0 ≤ x1) = true := decide_eq_true hmost
    have hd2 : decide (x2 < 0) = true := decide_eq_true hless
    obtain ⟨o2, HO2⟩ : ∃ o2, Hid (quo (l.length : Int) 1 = o2) := ⟨_, Lib.hid rfl⟩
    have hN2 : Hid (q * o2 = N) := Lib.hid (by rw [← HO2.out]; exact hN.out)
    have zN : Sz N (6 + 1 + 1) := by
      rw [← hN2.out, ← HO2.out]
      exact P.sz.mul (quo_sz1 (x := (l.length : Int)) (d := 1) (by omega) (by omega) (by decide) (by decide)) (by omega)
    clear hN
    generalize w3 = V4 at *
    go_wp2
    go_loopg [9, 10, 11] l.length (fun g y z i wr => ∃ j : Nat, j + g = l.length ∧ y = .int .i64 ((l.take j).countP (fun x => decide (x < r)) : Nat) ∧ z = .int .i64 ((l.take j).countP (fun x => decide (x ≤ r)) : Nat) ∧ i = .int .i64 (j : Int) ∧ Below V4.heap.size V4 wr)
    case atStart => exact ⟨0, by omega, rfl, rfl, rfl, Below.refl _ _⟩
    case round =>
      obtain ⟨j, hj, rfl, rfl, rfl, hbw⟩ := hrel
      have n1 := countP_bd (p := fun x => decide (x < r)) (l := l) j
      have n2 := countP_bd (p := fun x => decide (x ≤ r)) (l := l) j
      by_cases hj0 : j < l.length
      · obtain ⟨ad, rfl, hbk, c0⟩ := (H.ext hbw).at_ (at0_get hj0)
        have hb1 := countP_one (p := fun x => decide (x < r)) hj0
        have hb2 := countP_one (p := fun x => decide (x ≤ r)) hj0
        generalize (l.take j).countP (fun x => decide (x < r)) = nb at *
        generalize (l.take j).countP (fun x => decide (x ≤ r)) = na at *
        generalize at0 l j = x at *
        rcases Int.lt_trichotomy x r with h3 | h3 | h3
        · rw [if_pos (decide_eq_true h3)] at hb1
          rw [if_pos (decide_eq_true (by omega))] at hb2
          have hs3 := Lib.hid hb1
          have hs4 := Lib.hid hb2
          have e1 : decide (x < r) = true := decide_eq_true h3
          have e2 : decide (x ≤ r) = true := decide_eq_true (by omega)
          clear hb1 hb2 h3
          go_wp2
          go_roundg (l.length - (j + 1))
          case measure => omega
          case rel => exact ⟨j + 1, by omega, by rw [hs3.out]; go_num, by rw [hs4.out]; go_num, by go_num, hbw⟩
        · rw [if_neg (by simp; omega)] at hb1
          rw [if_pos (decide_eq_true (by omega))] at hb2
          have hs3 := Lib.hid hb1
          have hs4 := Lib.hid hb2
          have e1 : decide (x < r) = false := decide_eq_false (by omega)
          have e2 : decide (x ≤ r) = true := decide_eq_true (by omega)
          clear hb1 hb2 h3
          go_wp2
          go_roundg (l.length - (j + 1))
          case measure => omega
          case rel => exact ⟨j + 1, by omega, by rw [hs3.out]; go_num, by rw [hs4.out]; go_num, by go_num, hbw⟩
        · rw [if_neg (by simp; omega)] at hb1
          rw [if_neg (by simp; omega)] at hb2
          have hs3 := Lib.hid hb1
          have hs4 := Lib.hid hb2
          have e1 : decide (x < r) = false := decide_eq_false (by omega)
          have e2 : decide (x ≤ r) = false := decide_eq_false (by omega)
          clear hb1 hb2 h3
          go_wp2
          go_roundg (l.length - (j + 1))
          case measure => omega
          case rel => exact ⟨j + 1, by omega, by rw [hs3.out]; go_num, by rw [hs4.out]; go_num, by go_num, hbw⟩
      · have hjl : l.take j = l := List.take_of_length_le (by omega)
        rw [hjl] at n1 n2 ⊢
        generalize l.countP (fun x => decide (x < r)) = nl at *
        generalize l.countP (fun x => decide (x ≤ r)) = nm at *
        replace HX := HX.ext hbw
        replace H := H.ext hbw
        replace P := P.ext hbw
        clear hbw hjl
        generalize wr = V8 at *
        have hlt0 := HX.lt 0 rfl
        simp only [] at hlt0
        go_upto_region 15 with fail
        refine wp_region_x (al := [5]) (late := []) (dst := fun i => 12) (zt := fun _ => (#[.bool false, .slice none 0 0, .slice none 0 0], 37)) (B := V8.heap.size) (n := 5) (r := 1) (by kernel_rfl) (by kernel_rfl) (by decide) ?_ (by kernel_rfl) (by kernel_rfl) (by intro _ _ _ d _ h; cases d <;> exact h) (sz := 7) (by rfl) (by rfl) (Nat.le_refl _) ?_
        · intro i hi
          simp only [List.mem_cons, List.not_mem_nil, or_false] at hi
          subst hi
          exact ⟨_, rfl, rfl, rfl, rfl, fun _ _ => by kernel_rfl⟩
        have hE : Ext V8 V8.drew := drew_ext V8
        replace HX := HX.ext hE
        replace H := H.ext hE
        replace P := P.ext hE
        clear hE
        refine wpX_take (i := 0) (v := .agg #[.bool s, .slice A' n' c', .slice B' m' d']) rfl (by kernel_rfl) (by kernel_rfl) (by kernel_rfl) (fun _ _ _ h => h) (Or.inl ⟨by rfl, fun W hW => ?_⟩) ?_
        · have h0 := (HX.ext hW).cell 0 0 rfl rfl
          have h1 := (HX.ext hW).cell 0 1 rfl rfl
          have h2 := (HX.ext hW).cell 0 2 rfl rfl
          simp only [] at h0 h1 h2
          go_simp
          try rfl
        try simp only [Act.put, List.setIfInBounds_toArray]
        refine wpX_take (i := 1) (v := .slice A l.length c) rfl (by kernel_rfl) (by kernel_rfl) (by kernel_rfl) (fun _ _ _ h => h) (Or.inl ⟨by rfl, fun W hW => ?_⟩) ?_
        · go_simp
          try rfl
        try simp only [Act.put]
        refine wpX_take (i := 2) (v := .int .i64 (l.length : Int)) rfl (by kernel_rfl) (by kernel_rfl) (by kernel_rfl) (fun _ _ _ h => h) (Or.inl ⟨by rfl, fun W hW => ?_⟩) ?_
        · go_simp
          try rfl
        try simp only [Act.put]
        refine wpX_step (i := 3) (by kernel_rfl) rfl (fun W1 K hE hK => ?_)
        replace HX := HX.ext hE
        replace H := H.ext hE
        replace P := P.ext hE
        clear hE
        go_simp
        refine (qof_q (y := 1) (by decide) HO2 (by omega) (by omega) (by decide) rfl).mono ?_
        rintro e W2 ⟨A6, c6, B6, d6, rfl, F6, hb⟩
        go_wp2_with fail
        refine hK.out _ _ hb ?_
        clear hK K
        replace HX := HX.ext hb
        replace H := H.ext hb
        replace P := P.ext hb
        clear hb
        try simp only [Act.put, List.setIfInBounds_toArray, List.set_cons_zero, List.set_cons_succ]
        skip
        refine wpX_step (i := 4) (by kernel_rfl) rfl (fun W1 K hE hK => ?_)
        replace HX := HX.ext hE
        replace H := H.ext hE
        replace P := P.ext hE
        replace F6 := F6.ext hE
        clear hE
        go_simp
        refine (qmul_h hN2 zN P F6.fr (by omega) (by omega)).mono ?_
        rintro e W2 ⟨A7, c7, B7, d7, rfl, FN, hb⟩
        go_wp2_with fail
        refine hK.out _ _ hb ?_
        clear hK K
        replace HX := HX.ext hb
        replace H := H.ext hb
        replace P := P.ext hb
        replace F6 := F6.ext hb
        clear hb
        try simp only [Act.put, List.setIfInBounds_toArray, List.set_cons_zero, List.set_cons_succ]
        skip
        refine wpX_end (by kernel_rfl) (fun W7 ga m hE hg hm => ?_)
        replace HX := HX.ext hE
        replace H := H.ext hE
        replace P := P.ext hE
        replace F6 := F6.ext hE
        replace FN := FN.ext hE
        clear hE
        obtain ⟨hlg12, hkg12⟩ := hg.1 5 (by simp)
        clear hg
        simp only [putAll]
        try simp only [Act.put, List.setIfInBounds_toArray, List.set_cons_zero, List.set_cons_succ]
        generalize ga 5 = g12 at *
        clear ga
        replace HX := HX.add hkg12
        clear hkg12
        simp only [List.cons_append, List.nil_append] at HX
        have hc10 := HX.cell 1 0 rfl rfl
        have hf10 := HX.free 1 0 rfl
        have hc11 := HX.cell 1 1 rfl rfl
        have hf11 := HX.free 1 1 rfl
        have hc12 := HX.cell 1 2 rfl rfl
        have hf12 := HX.free 1 2 rfl
        try simp only [List.getElem_toArray, List.getElem_cons_zero, List.getElem_cons_succ] at hc10 hf10 hc11 hf11 hc12 hf12
        refine wpAny_step (i := 6) (by kernel_rfl) rfl (by omega) (fun K hK => ?_)
        go_simp
        refine hK.out _ _ ?_
        clear hK K
        clear hc10 hf10 hc11 hf11 hc12 hf12
        have hk := HX.keep3 1 rfl rfl rfl rfl (by omega) (.bool (sg N)) (.slice A7 (dig (nu N)).length c7) (.slice B7 (dig N.den).length d7)
        replace HX := HX.put3 1 rfl (by omega) (by intro k q hk hne; match k, hk with | 0, hk => (simp at hk; subst hk; simp at hne ⊢; try omega) | 1, hk => (simp at hk; subst hk; simp at hne ⊢; try omega) | k + 2, hk => simp at hk) (.bool (sg N)) (.slice A7 (dig (nu N)).length c7) (.slice B7 (dig N.den).length d7)
        replace H := H.stay hk
        replace P := P.stay hk
        replace F6 := F6.stay hk
        replace FN := FN.stay hk
        clear hk
        simp only [List.set_cons_zero, List.set_cons_succ] at HX
        refine wpAny_done (by kernel_rfl) ?_ _
        clear P F6 HO2 hN2
        generalize ((W7.setCell ⟨g12, 0, none⟩ (.bool (sg N))).setCell ⟨g12, 1, none⟩ (.slice A7 (dig (nu N)).length c7)).setCell ⟨g12, 2, none⟩ (.slice B7 (dig N.den).length d7) = W8 at *
        go_upto_region 16 with fail
        have held : ∀ {W' : World}, BL w W' [(w.heap.size, #[.bool s, .slice A' n' c', .slice B' m' d'], 37), (g12, #[.bool (sg N), .slice A7 (dig (nu N)).length c7, .slice B7 (dig N.den).length d7], 37)] → W'.cell? ⟨g12, 0, none⟩ = some (.bool (sg N)) ∧ W'.cell? ⟨g12, 1, none⟩ = some (.slice A7 (dig (nu N)).length c7) ∧ W'.cell? ⟨g12, 2, none⟩ = some (.slice B7 (dig N.den).length d7) := fun h => ⟨h.cell 1 0 rfl rfl, h.cell 1 1 rfl rfl, h.cell 1 2 rfl rfl⟩
        replace HX := HX.ext (drew_ext _)
        replace H := H.ext (drew_ext _)
        replace FN := FN.ext (drew_ext _)
        go_region_held3 (fun W' => W'.cell? ⟨g12, 0, none⟩ = some (.bool (sg N)) ∧ W'.cell? ⟨g12, 1, none⟩ = some (.slice A7 (dig (nu N)).length c7) ∧ W'.cell? ⟨g12, 2, none⟩ = some (.slice B7 (dig N.den).length d7))
          (exact held HX)
          (first
            | (go_at_call 45; refine (bhas_any (b := true) A c l _ H (by omega) HT.out).mono ?_; rintro e w9 ⟨rfl, hb⟩; replace HX := HX.ext hb; replace H := H.ext hb; replace FN := FN.ext hb; (try replace F1 := F1.ext hb); (try replace F2 := F2.ext hb); clear hb)
            | (go_at_call_of 41 (Value.int IntKind.i64 (nm : Int)); refine (qof_q (y := 1) (by decide) ho1 (by omega) (by omega) (by decide) (by with_reducible rfl)).mono ?_; rintro e w10 ⟨A10, c10, B10, d10, rfl, F1, hb⟩; replace HX := HX.ext hb; replace H := H.ext hb; replace FN := FN.ext hb; (try replace F2 := F2.ext hb); clear hb)
            | (go_at_call_of 41 (Value.int IntKind.i64 (nl : Int)); refine (qof_q (y := 1) (by decide) ho2 (by omega) (by omega) (by decide) (by with_reducible rfl)).mono ?_; rintro e w11 ⟨A11, c11, B11, d11, rfl, F2, hb⟩; replace HX := HX.ext hb; replace H := H.ext hb; replace FN := FN.ext hb; (try replace F1 := F1.ext hb); clear hb)
            | (go_at_call_of 40 (Value.slice A10 (dig (nu q1)).length c10); refine (qcmp_h hr1 F1.fr FN.fr (by omega) (by omega)).mono ?_; rintro e w12 ⟨rfl, hb⟩; replace HX := HX.ext hb; replace H := H.ext hb; replace FN := FN.ext hb; (try replace F1 := F1.ext hb); (try replace F2 := F2.ext hb); clear hb)
            | (go_at_call_of 40 (Value.slice A11 (dig (nu q2)).length c11); refine (qcmp_h hr2 F2.fr FN.fr (by omega) (by omega)).mono ?_; rintro e w13 ⟨rfl, hb⟩; replace HX := HX.ext hb; replace H := H.ext hb; replace FN := FN.ext hb; (try replace F1 := F1.ext hb); (try replace F2 := F2.ext hb); clear hb))
        all_goals (
          go_wp2
          go_ret
          exact ⟨by first | rfl | simp, HX.below⟩)
  · have hE1 : (E != 0) = true := bne_iff_ne.2 hE0
    clear hE0 hQ
    go_wp2
    go_ret
    exact ⟨by first | rfl | simp, HX.below⟩
end Go.Proofs.YteleohgalknkiaaGreatDoor
