/- The package fraction, third part: Sign, Of, Cmp. -/
import Derived.Test.YthempimelfmipaaGreatDoorFrac2
namespace Go.Proofs.YthempimelfmipaaGreatDoor
open Go.RowKit Go.Proofs


set_option maxHeartbeats 400000 in
set_option maxRecDepth 100000 in
theorem fsign_any {s : Bool} {A B : Option Addr} {n c m d : Nat} {q : Rat} {k : Nat} (w : World) (h : Fr w s A n c B m d q k) (hk : k ≤ 536870912) :
    Calls Tryz.prog 18 #[.agg #[.bool s, .slice A n c, .slice B m d]] w fun e w' => e = .returned (.int .i64 (sgn q)) ∧ Below w.heap.size w w' := by
  obtain ⟨⟨l, r, HA, HB, hn, hm, rfl⟩, hnk, hmk⟩ := h
  rw [sgn_rv]
  have HN := Lib.hid hn
  have HM := Lib.hid hm
  clear hn hm
  by_cases h0 : val l = 0
  · rw [if_pos (.inl h0)]
    have hz := decide_eq_true h0
    clear h0
    go_enter Tryz.func18, Tryz.ntmps18
    go_wp2_with fail
    have HX := Bx.one w #[.bool s, .slice A n c, .slice B m d] 33
    refine (zero_any A n c l _ (HA.ext HX.below) HN.out (by omega)).mono ?_
    rintro e w1 ⟨rfl, hb1⟩
    rw [hz]
    have HX := HX.ext hb1
    go_wp2
    go_ret
    exact ⟨rfl, HX.below⟩
  · by_cases h1 : val r = 0
    · rw [if_pos (.inr h1)]
      have hz := decide_eq_false h0
      have hz2 := decide_eq_true h1
      clear h0 h1
      go_enter Tryz.func18, Tryz.ntmps18
      go_wp2_with fail
      have HX := Bx.one w #[.bool s, .slice A n c, .slice B m d] 33
      refine (zero_any A n c l _ (HA.ext HX.below) HN.out (by omega)).mono ?_
      rintro e w1 ⟨rfl, hb1⟩
      rw [hz]
      have HX := HX.ext hb1
      have hc02 := HX.cell0 2 rfl rfl
      go_wp2_with fail
      refine (zero_any B m d r _ (HB.ext HX.below) HM.out (by omega)).mono ?_
      rintro e w2 ⟨rfl, hb2⟩
      rw [hz2]
      have HX := HX.ext hb2
      go_wp2
      go_ret
      exact ⟨rfl, HX.below⟩
    · rw [if_neg (by omega)]
      have hz := decide_eq_false h0
      have hz2 := decide_eq_false h1
      clear h0 h1
      go_enter Tryz.func18, Tryz.ntmps18
      go_wp2_with fail
      have HX := Bx.one w #[.bool s, .slice A n c, .slice B m d] 33
      refine (zero_any A n c l _ (HA.ext HX.below) HN.out (by omega)).mono ?_
      rintro e w1 ⟨rfl, hb1⟩
      rw [hz]
      have HX := HX.ext hb1
      have hc02 := HX.cell0 2 rfl rfl
      go_wp2_with fail
      refine (zero_any B m d r _ (HB.ext HX.below) HM.out (by omega)).mono ?_
      rintro e w2 ⟨rfl, hb2⟩
      rw [hz2]
      have HX := HX.ext hb2
      have hc00 := HX.cell0 0 rfl rfl
      cases s
      · go_wp2
        go_ret
        exact ⟨rfl, HX.below⟩
      · go_wp2
        go_ret
        exact ⟨rfl, HX.below⟩

set_option maxHeartbeats 400000 in
set_option maxRecDepth 100000 in
theorem magnitude_any (n : Int) (hlo : -9223372036854775808 ≤ n) (hhi : n ≤ 9223372036854775807) (w : World) :
    Calls Tryz.prog 52 #[.int .i64 n] w (RetN w n.natAbs) := by
  obtain ⟨u, hu⟩ : ∃ u, n.natAbs = u := ⟨_, rfl⟩
  rw [hu]
  have hu2 : u ≤ 9223372036854775808 := by omega
  by_cases h0 : n < 0
  · have hw : IntKind.u64.wrap (-IntKind.u64.wrap n) = (u : Int) := by
      unfold IntKind.wrap; simp only [IntKind.signed, IntKind.bits]; simp; omega
    clear hu
    go_enter Tryz.func52, Tryz.ntmps52
    go_wp2_with fail
    refine (nof_any u _ (by omega)).mono ?_
    rintro e w1 ⟨A1, c1, rfl, H1, hb1⟩
    have HX := (Bx.one w #[.slice none 0 0] 31).ext hb1
    have hc := HX.cell0 0 rfl rfl
    have hf := HX.free0 0 rfl
    go_wp2
    have hav := H1.avoid_blk (HX.blk0 rfl) (by simp [Value.noInt])
    have hq := set_same (v := .slice A1 (dig u).length c1) hc
    exact bodyPost_ret (v := .agg #[.slice A1 (dig u).length c1]) (by simp [results, Tryz.results52, go_sem, hq]) rfl ⟨A1, c1, rfl, H1.setCell hav _, HX.below.setCell (by simp) _⟩
  · obtain rfl : n = (u : Int) := by omega
    clear hu
    go_enter Tryz.func52, Tryz.ntmps52
    go_wp2_with fail
    refine (nof_any u _ (by omega)).mono ?_
    rintro e w1 ⟨A1, c1, rfl, H1, hb1⟩
    have HX := (Bx.one w #[.slice none 0 0] 31).ext hb1
    have hc := HX.cell0 0 rfl rfl
    have hf := HX.free0 0 rfl
    go_wp2
    have hav := H1.avoid_blk (HX.blk0 rfl) (by simp [Value.noInt])
    have hq := set_same (v := .slice A1 (dig u).length c1) hc
    exact bodyPost_ret (v := .agg #[.slice A1 (dig u).length c1]) (by simp [results, Tryz.results52, go_sem, hq]) rfl ⟨A1, c1, rfl, H1.setCell hav _, HX.below.setCell (by simp) _⟩

theorem cmpQ_parts {s t : Bool} {a b c d : Nat} (h : sgn (rv s a b) = sgn (rv t c d)) (h0 : sgn (rv s a b) ≠ 0) : cmpQ (rv s a b) (rv t c d) = sgn (rv s a b) * cmpI (a * d) (c * b) := by
  rw [sgn_rv] at h h0
  rw [sgn_rv] at h
  by_cases z : a = 0 ∨ b = 0
  · rw [if_pos z] at h0; exact absurd rfl h0
  · rw [if_neg z] at h h0
    by_cases z2 : c = 0 ∨ d = 0
    · rw [if_pos z2] at h; cases s <;> simp at h
    · rw [if_neg z2] at h
      obtain rfl : s = t := by cases s <;> cases t <;> simp at h ⊢
      rw [cmpQ_same s (by omega) (by omega), sgn_rv, if_neg z]
theorem cmpI_range (a b : Nat) : cmpI a b = -1 ∨ cmpI a b = 0 ∨ cmpI a b = 1 := by unfold cmpI; split; exact .inl rfl; split; exact .inr (.inr rfl); exact .inr (.inl rfl)
theorem sgn_range (q : Rat) : sgn q = -1 ∨ sgn q = 0 ∨ sgn q = 1 := by rcases sgn_cases q with h | h | h <;> simp [h.2]

set_option maxHeartbeats 800000 in
set_option maxRecDepth 100000 in
theorem fcmp_any {s t : Bool} {A B A' B' : Option Addr} {n c m d n' c' m' d' : Nat} {p q : Rat} {k k' : Nat} (w : World) (h : Fr w s A n c B m d p k) (h' : Fr w t A' n' c' B' m' d' q k') (hk : k ≤ 268435455) (hk' : k' ≤ 268435455) :
    Calls Tryz.prog 17 #[.agg #[.bool s, .slice A n c, .slice B m d], .agg #[.bool t, .slice A' n' c', .slice B' m' d']] w fun e w' => e = .returned (.int .i64 (cmpQ p q)) ∧ Below w.heap.size w w' := by
  have hcp : cmpQ p q = if sgn p < sgn q then -1 else if sgn p > sgn q then 1 else if sgn p = 0 then 0 else cmpQ p q := by
    split
    · rename_i h1; exact sgn_lt h1
    · split
      · rename_i h1 h2; exact sgn_gt h2
      · split
        · rename_i h1 h2 h3; rw [cmpQ_eq ((sgn_eq_zero.1 h3).trans (sgn_eq_zero.1 (by omega)).symm)]
        · rfl
  have hrp := sgn_range p
  have hrq := sgn_range q
  obtain ⟨⟨l, r, HA, HB, hn, hm, hp⟩, hnk, hmk⟩ := id h
  obtain ⟨⟨l', r', HA', HB', hn', hm', hq⟩, hnk', hmk'⟩ := id h'
  have hpar : sgn p = sgn q → sgn p ≠ 0 → cmpQ p q = sgn p * cmpI (val l * val r') (val l' * val r) := by
    rw [hp, hq]; exact cmpQ_parts
  obtain ⟨P, hP⟩ : ∃ P, cmpQ p q = P := ⟨_, rfl⟩
  obtain ⟨S, hS⟩ : ∃ S, sgn p = S := ⟨_, rfl⟩
  obtain ⟨T, hT⟩ : ∃ T, sgn q = T := ⟨_, rfl⟩
  rw [hP, hS, hT] at hcp hpar
  rw [hS] at hrp
  rw [hT] at hrq
  rw [hP]
  have e1 := len_mul (dig_len_of HA.small hn) (dig_len_of HB'.small hm')
  have e2 := len_mul (dig_len_of HA'.small hn') (dig_len_of HB.small hm)
  have HN := Lib.hid hn
  have HM := Lib.hid hm
  have HN' := Lib.hid hn'
  have HM' := Lib.hid hm'
  have HS := Lib.hid hS
  have HT := Lib.hid hT
  have HC := Lib.hid hcp
  have HP := Lib.hid hpar
  clear hn hm hn' hm' hp hq hS hT hcp hpar hP
  go_enter Tryz.func17, Tryz.ntmps17
  go_wp2_with fail
  obtain ⟨W, hW⟩ : ∃ W, W = (w.alloc (.cells #[.bool s, .slice A n c, .slice B m d] 33)).alloc (.cells #[.bool t, .slice A' n' c', .slice B' m' d'] 33) := ⟨_, rfl⟩
  have HX := Bx.two w #[.bool s, .slice A n c, .slice B m d] #[.bool t, .slice A' n' c', .slice B' m' d'] 33 33
  rw [← hW] at HX
  rw [← hW]
  clear hW
  have HX1 := HX.ext (drew_ext W)
  have held : ∀ {W' : World}, Bx w W' [(#[.bool s, .slice A n c, .slice B m d], 33), (#[.bool t, .slice A' n' c', .slice B' m' d'], 33)] → W'.cell? ⟨w.heap.size, 0, none⟩ = some (.bool s) ∧ W'.cell? ⟨w.heap.size, 1, none⟩ = some (.slice A n c) ∧ W'.cell? ⟨w.heap.size, 2, none⟩ = some (.slice B m d) ∧ W'.cell? ⟨w.heap.size + 1, 0, none⟩ = some (.bool t) ∧ W'.cell? ⟨w.heap.size + 1, 1, none⟩ = some (.slice A' n' c') ∧ W'.cell? ⟨w.heap.size + 1, 2, none⟩ = some (.slice B' m' d') :=
    fun h => ⟨h.cell 0 0 rfl rfl, h.cell 0 1 rfl rfl, h.cell 0 2 rfl rfl, h.cell 1 0 rfl rfl, h.cell 1 1 rfl rfl, h.cell 1 2 rfl rfl⟩
  go_region_held3 (fun W' => W'.cell? ⟨w.heap.size, 0, none⟩ = some (.bool s) ∧ W'.cell? ⟨w.heap.size, 1, none⟩ = some (.slice A n c) ∧ W'.cell? ⟨w.heap.size, 2, none⟩ = some (.slice B m d) ∧ W'.cell? ⟨w.heap.size + 1, 0, none⟩ = some (.bool t) ∧ W'.cell? ⟨w.heap.size + 1, 1, none⟩ = some (.slice A' n' c') ∧ W'.cell? ⟨w.heap.size + 1, 2, none⟩ = some (.slice B' m' d'))
    (first | exact held HX | exact held HX1 | exact held HX2 | exact held HX3)
    (first
      | (go_at_call_of 18 (Value.agg #[.bool s, .slice A n c, .slice B m d]); refine (fsign_any _ (h.ext HX1.below) (by omega)).mono ?_; rintro e w1 ⟨rfl, hb1⟩; rw [HS.out]; have HX2 := HX1.ext hb1)
      | (go_at_call_of 18 (Value.agg #[.bool t, .slice A' n' c', .slice B' m' d']); refine (fsign_any _ (h'.ext HX2.below) (by omega)).mono ?_; rintro e w2 ⟨rfl, hb2⟩; rw [HT.out]; have HX3 := HX2.ext hb2))
  have HXX : Bx w _ _ := HX3
  clear HX HX1 HX2 hb1 hb2
  by_cases hlt : S < T
  · have hP1 : P = -1 := by rw [HC.out, if_pos hlt]
    subst hP1
    go_wp2
    go_ret
    exact ⟨rfl, HX3.below⟩
  · by_cases hgt : S > T
    · have hP1 : P = 1 := by rw [HC.out, if_neg hlt, if_pos hgt]
      subst hP1
      go_wp2
      go_ret
      exact ⟨rfl, HX3.below⟩
    · have hST : S = T := by omega
      by_cases hz : S = 0
      · have hP1 : P = 0 := by rw [HC.out, if_neg hlt, if_neg hgt, if_pos hz]
        subst hP1
        go_wp2
        go_ret
        exact ⟨rfl, HX3.below⟩
      · have hP1 := HP.out hST hz
        have HX5 := HX3.ext (drew_ext w2)
        have hzz : (S == 0) = false := by simp [hz]
        have hcr := cmpI_range (val l * val r') (val l' * val r)
        have hP2 := Lib.hid hP1
        clear hP1 hST
        go_upto_region 8 with fail
        go_region_held3 (fun W' => W'.cell? ⟨w.heap.size, 0, none⟩ = some (.bool s) ∧ W'.cell? ⟨w.heap.size, 1, none⟩ = some (.slice A n c) ∧ W'.cell? ⟨w.heap.size, 2, none⟩ = some (.slice B m d) ∧ W'.cell? ⟨w.heap.size + 1, 0, none⟩ = some (.bool t) ∧ W'.cell? ⟨w.heap.size + 1, 1, none⟩ = some (.slice A' n' c') ∧ W'.cell? ⟨w.heap.size + 1, 2, none⟩ = some (.slice B' m' d'))
          (first | exact held HX3 | exact held HX5 | exact held HX6 | exact held HX7 | exact held HX8)
          (first
            | (go_at_call_of 49 (Value.agg #[.slice A n c]); refine (nmul_any A B' n m' c d' l r' _ (HA.ext HX5.below) (HB'.ext HX5.below) HN.out HM'.out (by omega) (by omega)).mono ?_; rintro e w3 ⟨A1, c1, rfl, H1, hb3⟩; have HX6 := HX5.ext hb3)
            | (go_at_call_of 49 (Value.agg #[.slice A' n' c']); refine (nmul_any A' B n' m c' d l' r _ (HA'.ext HX6.below) (HB.ext HX6.below) HN'.out HM.out (by omega) (by omega)).mono ?_; rintro e w4 ⟨A2, c2, rfl, H2, hb4⟩; have HX7 := HX6.ext hb4; have H1 := H1.ext hb4)
            | (go_at_call 48; refine (ncmp_any _ _ _ _ _ _ _ _ _ H1 H2 rfl rfl (by omega) (by omega)).mono ?_; rintro e w5 ⟨rfl, hb5⟩; rw [val_dig, val_dig]; have HX8 := HX7.ext hb5))
        go_wp2
        have hw : IntKind.i64.wrap (S * cmpI (val l * val r') (val l' * val r)) = P := by
          rw [hP2.out]
          rcases hrp with h1 | h1 | h1 <;> rcases hcr with h2 | h2 | h2 <;> rw [h1, h2] <;> decide
        go_ret
        exact ⟨ret_int hw, HX8.below⟩

set_option maxHeartbeats 400000 in
set_option maxRecDepth 100000 in
theorem fof_any (n d : Int) (hlo : -9223372036854775808 ≤ n) (hhi : n ≤ 9223372036854775807) (hlo2 : -9223372036854775808 ≤ d) (hhi2 : d ≤ 9223372036854775807) (w : World) :
    Calls Tryz.prog 19 #[.int .i64 n, .int .i64 d] w (RetQ w (rv (!(decide (n < 0) == decide (d < 0))) n.natAbs d.natAbs)) := by
  obtain ⟨x, hx⟩ : ∃ x, n.natAbs = x := ⟨_, rfl⟩
  obtain ⟨y, hy⟩ : ∃ y, d.natAbs = y := ⟨_, rfl⟩
  have e1 : (dig x).length ≤ 3 := dig_len_le (Nat.lt_of_le_of_lt (show x ≤ 9223372036854775808 by omega) (by decide))
  have e2 : (dig y).length ≤ 3 := dig_len_le (Nat.lt_of_le_of_lt (show y ≤ 9223372036854775808 by omega) (by decide))
  rw [hx, hy]
  have hx := Lib.hid hx
  have hy := Lib.hid hy
  go_enter Tryz.func19, Tryz.ntmps19
  go_wp2_with fail
  have HX := Bx.one w #[.bool false, .slice none 0 0, .slice none 0 0] 33
  refine (magnitude_any n hlo hhi _).mono ?_
  rw [hx.out]
  rintro e w1 ⟨A1, c1, rfl, H1, hb1⟩
  have HX := HX.ext hb1
  go_wp2_with fail
  refine (magnitude_any d hlo2 hhi2 _).mono ?_
  rw [hy.out]
  rintro e w2 ⟨A2, c2, rfl, H2, hb2⟩
  have HX := HX.ext hb2
  have H1 := H1.ext hb2
  go_wp2_with fail
  refine (made_fr (Fr.of2 (k := 3) H1 H2 e1 e2) (by omega)).mono ?_
  rintro e w3 ⟨A3, c3, B3, d3, rfl, H3, H4, hb3⟩
  have HX := HX.ext hb3
  generalize rv (!(decide (n < 0) == decide (d < 0))) x y = q at *
  have hc10 := HX.cell0 0 rfl rfl
  have hf10 := HX.free0 0 rfl
  have hc11 := HX.cell0 1 rfl rfl
  have hf11 := HX.free0 1 rfl
  have hc12 := HX.cell0 2 rfl rfl
  have hf12 := HX.free0 2 rfl
  go_wp2
  obtain ⟨hq0, hq1, hq2, hq, hkeep, hbel⟩ := set3 (w := w) (HX.blk0 rfl) rfl rfl rfl HX.below (by omega) (.bool (sg q)) (.slice A3 (dig (nu q)).length c3) (.slice B3 (dig q.den).length d3)
  exact bodyPost_ret (v := .agg #[.bool (sg q), .slice A3 (dig (nu q)).length c3, .slice B3 (dig q.den).length d3]) (by simp [results, Tryz.results19, go_sem, hq0, hq1, hq2]) rfl ⟨A3, c3, B3, d3, rfl, H3.stay hkeep, H4.stay hkeep, hbel⟩
end Go.Proofs.YthempimelfmipaaGreatDoor
