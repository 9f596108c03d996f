/- The package fraction, third part: Sign, Of, Cmp. -/
import Derived.Test.YtlnajhochpbgpaaGreatDoorFrac2
namespace Go.Proofs.YtlnajhochpbgpaaGreatDoor
open Go.RowKit Go.Proofs


set_option maxHeartbeats 400000 in
set_option maxRecDepth 100000 in
theorem magnitude_any (n : Int) (hlo : -9223372036854775808 ≤ n) (hhi : n ≤ 9223372036854775807) (w : World) :
    Calls Tryz.prog 62 #[.int .i64 n] w (RetN w n.natAbs) := by
  obtain ⟨u, hu⟩ : ∃ u, n.natAbs = u := ⟨_, rfl⟩
  rw [hu]
  have hu2 : u ≤ 9223372036854775808 := by omega
  by_cases h0 : n < 0
  · have hw : IntKind.u64.wrap (-IntKind.u64.wrap n) = (u : Int) := by
      unfold IntKind.wrap; simp only [IntKind.signed, IntKind.bits]; simp; omega
    clear hu
    go_enter Tryz.func62, Tryz.ntmps62
    go_wp2_with fail
    refine (nof_any u _ (by omega)).mono ?_
    rintro e w1 ⟨A1, c1, rfl, H1, hb1⟩
    have HX := (Bx.one w #[.slice none 0 0] 40).ext hb1
    have hc := HX.cell0 0 rfl rfl
    have hf := HX.free0 0 rfl
    go_wp2
    have hav := H1.avoid_blk (HX.blk0 rfl) (by simp [Value.noInt])
    have hq := set_same (v := .slice A1 (dig u).length c1) hc
    exact bodyPost_ret (v := .agg #[.slice A1 (dig u).length c1]) (by simp [results, Tryz.results62, go_sem, hq]) rfl ⟨A1, c1, rfl, H1.setCell hav _, HX.below.setCell (by simp) _⟩
  · obtain rfl : n = (u : Int) := by omega
    clear hu
    go_enter Tryz.func62, Tryz.ntmps62
    go_wp2_with fail
    refine (nof_any u _ (by omega)).mono ?_
    rintro e w1 ⟨A1, c1, rfl, H1, hb1⟩
    have HX := (Bx.one w #[.slice none 0 0] 40).ext hb1
    have hc := HX.cell0 0 rfl rfl
    have hf := HX.free0 0 rfl
    go_wp2
    have hav := H1.avoid_blk (HX.blk0 rfl) (by simp [Value.noInt])
    have hq := set_same (v := .slice A1 (dig u).length c1) hc
    exact bodyPost_ret (v := .agg #[.slice A1 (dig u).length c1]) (by simp [results, Tryz.results62, go_sem, hq]) rfl ⟨A1, c1, rfl, H1.setCell hav _, HX.below.setCell (by simp) _⟩

theorem cmpQ_parts {s t : Bool} {a b c d : Nat} (h : sgn (rv s a b) = sgn (rv t c d)) (h0 : sgn (rv s a b) ≠ 0) : cmpQ (rv s a b) (rv t c d) = sgn (rv s a b) * cmpI (a * d) (c * b) := by
  rw [sgn_rv] at h h0
  rw [sgn_rv] at h
  by_cases z : a = 0 ∨ b = 0
  · rw [if_pos z] at h0; exact absurd rfl h0
  · rw [if_neg z] at h h0
    by_cases z2 : c = 0 ∨ d = 0
    · rw [if_pos z2] at h; cases s <;> simp at h
    · rw [if_neg z2] at h
      obtain rfl : s = t := by cases s <;> cases t <;> simp at h ⊢
      rw [cmpQ_same s (by omega) (by omega), sgn_rv, if_neg z]
theorem cmpI_range (a b : Nat) : cmpI a b = -1 ∨ cmpI a b = 0 ∨ cmpI a b = 1 := by unfold cmpI; split; exact .inl rfl; split; exact .inr (.inr rfl); exact .inr (.inl rfl)
theorem sgn_range (q : Rat) : sgn q = -1 ∨ sgn q = 0 ∨ sgn q = 1 := by rcases sgn_cases q with h | h | h <;> simp [h.2]

set_option maxHeartbeats 400000 in
set_option maxRecDepth 100000 in
theorem fof_any (n d : Int) (hlo : -9223372036854775808 ≤ n) (hhi : n ≤ 9223372036854775807) (hlo2 : -9223372036854775808 ≤ d) (hhi2 : d ≤ 9223372036854775807) (w : World) :
    Calls Tryz.prog 38 #[.int .i64 n, .int .i64 d] w (RetQ w (rv (!(decide (n < 0) == decide (d < 0))) n.natAbs d.natAbs)) := by
  obtain ⟨x, hx⟩ : ∃ x, n.natAbs = x := ⟨_, rfl⟩
  obtain ⟨y, hy⟩ : ∃ y, d.natAbs = y := ⟨_, rfl⟩
  have e1 : (dig x).length ≤ 3 := dig_len_le (Nat.lt_of_le_of_lt (show x ≤ 9223372036854775808 by omega) (by decide))
  have e2 : (dig y).length ≤ 3 := dig_len_le (Nat.lt_of_le_of_lt (show y ≤ 9223372036854775808 by omega) (by decide))
  rw [hx, hy]
  have hx := Lib.hid hx
  have hy := Lib.hid hy
  go_enter Tryz.func38, Tryz.ntmps38
  go_wp2_with fail
  have HX := Bx.one w #[.bool false, .slice none 0 0, .slice none 0 0] 42
  refine (magnitude_any n hlo hhi _).mono ?_
  rw [hx.out]
  rintro e w1 ⟨A1, c1, rfl, H1, hb1⟩
  have HX := HX.ext hb1
  go_wp2_with fail
  refine (magnitude_any d hlo2 hhi2 _).mono ?_
  rw [hy.out]
  rintro e w2 ⟨A2, c2, rfl, H2, hb2⟩
  have HX := HX.ext hb2
  have H1 := H1.ext hb2
  go_wp2_with fail
  refine (made_fr (Fr.of2 (k := 3) H1 H2 e1 e2) (by omega)).mono ?_
  rintro e w3 ⟨A3, c3, B3, d3, rfl, H3, H4, hb3⟩
  have HX := HX.ext hb3
  generalize rv (!(decide (n < 0) == decide (d < 0))) x y = q at *
  have hc10 := HX.cell0 0 rfl rfl
  have hf10 := HX.free0 0 rfl
  have hc11 := HX.cell0 1 rfl rfl
  have hf11 := HX.free0 1 rfl
  have hc12 := HX.cell0 2 rfl rfl
  have hf12 := HX.free0 2 rfl
  go_wp2
  obtain ⟨hq0, hq1, hq2, hq, hkeep, hbel⟩ := set3 (w := w) (HX.blk0 rfl) rfl rfl rfl HX.below (by omega) (.bool (sg q)) (.slice A3 (dig (nu q)).length c3) (.slice B3 (dig q.den).length d3)
  exact bodyPost_ret (v := .agg #[.bool (sg q), .slice A3 (dig (nu q)).length c3, .slice B3 (dig q.den).length d3]) (by simp [results, Tryz.results38, go_sem, hq0, hq1, hq2]) rfl ⟨A3, c3, B3, d3, rfl, H3.stay hkeep, H4.stay hkeep, hbel⟩
end Go.Proofs.YtlnajhochpbgpaaGreatDoor
