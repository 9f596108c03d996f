/- The statement NaturalSmalls: its walk. -/
import Derived.Test.YtjacffmoccpogaaDoorNCom
namespace Go.Proofs.YtjacffmoccpogaaDoor
open Go.RowKit Go.Proofs Go

set_option maxHeartbeats 4000000 in
set_option maxRecDepth 100000 in
theorem nsmalls_any (n m : Nat) (w : World) (hT : Tab w) (hn : n < 18446744073709551616) (hm : m < 18446744073709551616) :
    Calls Tryd.prog 12 #[.int .u64 (n : Int), .int .u64 (m : Int)] w (RetB w true) := by
  have len3 : ∀ x : Nat, x < 18446744073709551616 → (dig x).length ≤ 60 := fun x hx => Nat.le_trans (dig_len_le (k := 3) (Nat.lt_of_lt_of_le hx (by decide))) (by omega)
  obtain ⟨n1, hn1⟩ : ∃ n1, n = n1 := ⟨_, rfl⟩
  obtain ⟨m1, hm1⟩ : ∃ m1, m = m1 := ⟨_, rfl⟩
  have zn1 : (dig n1).length ≤ 60 := hn1 ▸ len3 n hn
  have zm1 : (dig m1).length ≤ 60 := hm1 ▸ len3 m hm
  have Hn := Lib.hid hn1
  have Hm := Lib.hid hm1
  have Hsn : Hid ((smallV n1 : Int) = (n : Int)) := Lib.hid (by rw [← hn1, smallV, if_pos hn])
  have Hfn : Hid (decide (n1 < 18446744073709551616) = true) := Lib.hid (by rw [← hn1]; exact decide_eq_true hn)
  obtain ⟨c, hc⟩ : ∃ c : Int, cmpI n m = c := ⟨_, rfl⟩
  have Hc : Hid (cmpI n1 m1 = c) := Lib.hid (by rw [← hn1, ← hm1]; exact hc)
  obtain ⟨bl, hbl⟩ : ∃ bl : Bool, decide (n < m) = bl := ⟨_, rfl⟩
  obtain ⟨be, hbe⟩ : ∃ be : Bool, (n == m) = be := ⟨_, rfl⟩
  have hbi : ((n : Int) == (m : Int)) = be := by rw [← hbe, Bool.eq_iff_iff, beq_iff_eq, beq_iff_eq]; omega
  have hcl : decide (c < 0) = bl := by
    rw [← hbl, ← hc]
    rcases Nat.lt_trichotomy n m with h | h | h
    · rw [cmpI_lt h]; simp; omega
    · rw [cmpI_eq h]; simp; omega
    · rw [cmpI_gt h]; simp; omega
  have hce : (c == 0) = be := by
    rw [← hbe, ← hc]
    rcases Nat.lt_trichotomy n m with h | h | h
    · rw [cmpI_lt h]; simp; omega
    · rw [cmpI_eq h]; simp; omega
    · rw [cmpI_gt h]; simp; omega
  have HLEN := Lib.hid len3
  obtain ⟨n2, en2⟩ : ∃ n2, n / 2 = n2 := ⟨_, rfl⟩
  obtain ⟨m2, em2⟩ : ∃ m2, m / 2 = m2 := ⟨_, rfl⟩
  obtain ⟨n3, en3⟩ : ∃ n3, n / 4294967296 = n3 := ⟨_, rfl⟩
  obtain ⟨m3, em3⟩ : ∃ m3, m / 4294967296 = m3 := ⟨_, rfl⟩
  have in2 : (n : Int) / 2 = (n2 : Int) := by omega
  have im2 : (m : Int) / 2 = (m2 : Int) := by omega
  have in3 : (n : Int) / 4294967296 = (n3 : Int) := by omega
  have im3 : (m : Int) / 4294967296 = (m3 : Int) := by omega
  have ln2 : n2 < 9223372036854775808 := by omega
  have lm2 : m2 < 9223372036854775808 := by omega
  have ln3 : n3 < 4294967296 := by omega
  have lm3 : m3 < 4294967296 := by omega
  have zn2 := len3 n2 (by omega)
  have zm2 := len3 m2 (by omega)
  have zn3 := len3 n3 (by omega)
  have zm3 := len3 m3 (by omega)
  obtain ⟨S, hS⟩ : ∃ S, n2 + m2 = S := ⟨_, rfl⟩
  have zS := len3 S (by omega)
  have HS := Lib.hid hS
  have hSs : Hid ((smallV S : Int) = (n2 : Int) + (m2 : Int)) := Lib.hid (by rw [smallV, if_pos (by omega), ← hS]; omega)
  have hSf : Hid (decide (S < 18446744073709551616) = true) := Lib.hid (decide_eq_true (by omega))
  have hpl : n3 * m3 ≤ 4294967295 * 4294967295 := Nat.mul_le_mul (by omega) (by omega)
  have hpi : (n3 : Int) * (m3 : Int) ≤ 18446744065119617025 := by
    have h2 := Int.ofNat_le.2 hpl
    rw [Int.natCast_mul] at h2
    exact h2
  have hp0 : (0 : Int) ≤ (n3 : Int) * (m3 : Int) := by
    have h2 := Int.natCast_nonneg (n3 * m3)
    rwa [Int.natCast_mul] at h2
  have hwr : IntKind.u64.wrap ((n3 : Int) * (m3 : Int)) = (n3 : Int) * (m3 : Int) := by
    unfold IntKind.wrap; simp only [IntKind.signed, IntKind.bits]; simp; omega
  obtain ⟨X, hX⟩ : ∃ X, n3 * m3 = X := ⟨_, rfl⟩
  have hXl : X < 18446744073709551616 := by rw [← hX]; exact Nat.lt_of_le_of_lt hpl (by decide)
  have zX := len3 X hXl
  have HX0 := Lib.hid hX
  have hXs : Hid ((smallV X : Int) = (n3 : Int) * (m3 : Int)) := Lib.hid (by rw [smallV, if_pos hXl, ← hX, Int.natCast_mul])
  have hXf : Hid (decide (X < 18446744073709551616) = true) := Lib.hid (decide_eq_true hXl)
  have r2 : Hid (n2 = n2 + 0) := Lib.hid rfl
  clear len3 hc hn1 hm1 en2 em2 en3 em3 hS hX hpl r2
  go_enter Tryd.func12, Tryd.ntmps12
  go_wp2_with fail
  have HX := BL.nil w
  refine (awake_h hT).mono ?_
  rintro e w1 ⟨rfl, hb⟩
  replace HX := HX.ext hb
  replace hT := hT.ext hb
  clear hb
  go_wp2_with fail
  refine (nof_h Hn zn1 (by omega)).mono ?_
  rintro e w2 ⟨A2, c2, rfl, F2, hb⟩
  replace HX := HX.ext hb
  replace hT := hT.ext hb
  clear hb
  go_wp2_with fail
  refine (nof_h Hm zm1 (by omega)).mono ?_
  rintro e w3 ⟨A3, c3, rfl, F3, hb⟩
  replace HX := HX.ext hb
  replace hT := hT.ext hb
  replace F2 := F2.ext hb
  clear hb
  go_upto_region 4 with fail
  have hb := below_alloc w3 (.cells #[.slice A2 (dig n1).length c2] 24)
  replace HX := HX.new #[.slice A2 (dig n1).length c2] 24
  simp only [List.cons_append, List.nil_append] at HX
  replace F2 := F2.ext hb
  replace F3 := F3.ext hb
  replace hT := hT.ext hb
  clear hb
  have hb := below_alloc (w3.alloc (.cells #[.slice A2 (dig n1).length c2] 24)) (.cells #[.slice A3 (dig m1).length c3] 24)
  replace HX := HX.new #[.slice A3 (dig m1).length c3] 24
  simp only [List.cons_append, List.nil_append] at HX
  replace F2 := F2.ext hb
  replace F3 := F3.ext hb
  replace hT := hT.ext hb
  clear hb
  rw [show (w3.alloc (.cells #[.slice A2 (dig n1).length c2] 24)).heap.size = w3.heap.size + 1 from by simp] at HX
  generalize ((w3.alloc (.cells #[.slice A2 (dig n1).length c2] 24)).alloc (.cells #[.slice A3 (dig m1).length c3] 24)) = W4 at *
  generalize w3.heap.size = g4 at *
  have hc0 := HX.cell 0 0 rfl rfl
  try simp only [List.getElem_toArray, List.getElem_cons_zero, List.getElem_cons_succ] at hc0
  go_wp2_with fail
  refine (nsmall_h Hsn Hfn F2.nr (by omega)).mono ?_
  rintro e w4 ⟨rfl, hb⟩
  clear hc0
  replace HX := HX.ext hb
  replace hT := hT.ext hb
  replace F2 := F2.ext hb
  replace F3 := F3.ext hb
  clear hb
  have hc0 := HX.cell 0 0 rfl rfl
  have hc1 := HX.cell 1 0 rfl rfl
  try simp only [List.getElem_toArray, List.getElem_cons_zero, List.getElem_cons_succ] at hc0 hc1
  go_wp2_with fail
  refine (ncmp_h Hc F2.nr F3.nr (by omega) (by omega)).mono ?_
  rintro e w5 ⟨rfl, hb⟩
  replace HX := HX.ext hb
  replace hT := hT.ext hb
  replace F2 := F2.ext hb
  replace F3 := F3.ext hb
  clear hb
  clear hc0 hc1
  have hc0 := HX.cell 0 0 rfl rfl
  have hc1 := HX.cell 1 0 rfl rfl
  try simp only [List.getElem_toArray, List.getElem_cons_zero, List.getElem_cons_succ] at hc0 hc1
  go_wp2_with fail
  refine (ncmp_h Hc F2.nr F3.nr (by omega) (by omega)).mono ?_
  rintro e w6 ⟨rfl, hb⟩
  replace HX := HX.ext hb
  replace hT := hT.ext hb
  replace F2 := F2.ext hb
  replace F3 := F3.ext hb
  clear hb
  clear hc0 hc1
  obtain ⟨n2', hn2'⟩ : ∃ v, n2 = v := ⟨_, rfl⟩
  have zn2' : (dig n2').length ≤ 60 := hn2' ▸ zn2
  have Hn2' := Lib.hid hn2'
  clear hn2'
  obtain ⟨m2', hm2'⟩ : ∃ v, m2 = v := ⟨_, rfl⟩
  have zm2' : (dig m2').length ≤ 60 := hm2' ▸ zm2
  have Hm2' := Lib.hid hm2'
  clear hm2'
  obtain ⟨n3', hn3'⟩ : ∃ v, n3 = v := ⟨_, rfl⟩
  have zn3' : (dig n3').length ≤ 60 := hn3' ▸ zn3
  have Hn3' := Lib.hid hn3'
  clear hn3'
  obtain ⟨m3', hm3'⟩ : ∃ v, m3 = v := ⟨_, rfl⟩
  have zm3' : (dig m3').length ≤ 60 := hm3' ▸ zm3
  have Hm3' := Lib.hid hm3'
  clear hm3'
  go_wp2_with fail
  refine (nof_h Hn2' zn2' (by omega)).mono ?_
  rintro e w7 ⟨A7, c7, rfl, F7, hb⟩
  replace HX := HX.ext hb
  replace hT := hT.ext hb
  replace F2 := F2.ext hb
  replace F3 := F3.ext hb
  clear hb
  clear hcl hce hbl hbe hbi
  go_wp2_with fail
  refine (nof_h Hm2' zm2' (by omega)).mono ?_
  rintro e w8 ⟨A8, c8, rfl, F8, hb⟩
  replace HX := HX.ext hb
  replace hT := hT.ext hb
  replace F2 := F2.ext hb
  replace F3 := F3.ext hb
  replace F7 := F7.ext hb
  clear hb
  have HSS : Hid (n2' + m2' = S) := Lib.hid (by rw [← Hn2'.out, ← Hm2'.out]; exact HS.out)
  go_wp2_with fail
  refine (nadd_h HSS zS F7.nr F8.nr (by omega) (by omega)).mono ?_
  rintro e w9 ⟨A9, c9, rfl, F9, hb⟩
  replace HX := HX.ext hb
  replace hT := hT.ext hb
  replace F2 := F2.ext hb
  replace F3 := F3.ext hb
  replace F7 := F7.ext hb
  replace F8 := F8.ext hb
  clear hb
  clear F7
  clear F8
  go_wp2_with fail
  refine (nsmall_h hSs hSf F9.nr (by omega)).mono ?_
  rintro e w10 ⟨rfl, hb⟩
  replace HX := HX.ext hb
  replace hT := hT.ext hb
  replace F2 := F2.ext hb
  replace F3 := F3.ext hb
  replace F9 := F9.ext hb
  clear hb
  clear F9
  go_wp2_with fail
  refine (nof_h Hn3' zn3' (by omega)).mono ?_
  rintro e w11 ⟨A11, c11, rfl, F11, hb⟩
  replace HX := HX.ext hb
  replace hT := hT.ext hb
  replace F2 := F2.ext hb
  replace F3 := F3.ext hb
  clear hb
  go_wp2_with fail
  refine (nof_h Hm3' zm3' (by omega)).mono ?_
  rintro e w12 ⟨A12, c12, rfl, F12, hb⟩
  replace HX := HX.ext hb
  replace hT := hT.ext hb
  replace F2 := F2.ext hb
  replace F3 := F3.ext hb
  replace F11 := F11.ext hb
  clear hb
  have HXX : Hid (n3' * m3' = X) := Lib.hid (by rw [← Hn3'.out, ← Hm3'.out]; exact HX0.out)
  go_wp2_with fail
  refine (nmul_h HXX zX F11.nr F12.nr (by omega) (by omega)).mono ?_
  rintro e w13 ⟨A13, c13, rfl, F13, hb⟩
  replace HX := HX.ext hb
  replace hT := hT.ext hb
  replace F2 := F2.ext hb
  replace F3 := F3.ext hb
  replace F11 := F11.ext hb
  replace F12 := F12.ext hb
  clear hb
  clear F11
  clear F12
  go_wp2_with fail
  refine (nsmall_h hXs hXf F13.nr (by omega)).mono ?_
  rintro e w14 ⟨rfl, hb⟩
  replace HX := HX.ext hb
  replace hT := hT.ext hb
  replace F2 := F2.ext hb
  replace F3 := F3.ext hb
  replace F13 := F13.ext hb
  clear hb
  clear F13
  by_cases hm0 : m = 0
  · have hmb : ((m : Int) == 0) = true := by rw [hm0]; rfl
    clear hm0
    go_wp2
    go_ret
    exact ⟨rfl, HX.below⟩
  · have hmb : ((m : Int) == 0) = false := by rw [beq_eq_false_iff_ne]; omega
    have hmp : 0 < m := by omega
    obtain ⟨q, hq⟩ : ∃ q, n1 / m1 = q := ⟨_, rfl⟩
    obtain ⟨r, hr⟩ : ∃ r, n1 % m1 = r := ⟨_, rfl⟩
    have zq : (dig q).length ≤ 60 := hq ▸ Nat.le_trans (dig_mono (Nat.div_le_self n1 m1)) zn1
    have zr : (dig r).length ≤ 60 := hr ▸ Nat.le_trans (dig_mono (Nat.mod_le n1 m1)) zn1
    have Hq := Lib.hid hq
    have Hr := Lib.hid hr
    have Hmp : Hid (0 < m1) := Lib.hid (by rw [← Hm.out]; exact hmp)
    have hq2 : q = n / m := by rw [← hq, ← Hn.out, ← Hm.out]
    have hr2 : r = n % m := by rw [← hr, ← Hn.out, ← Hm.out]
    have hql : q < 18446744073709551616 := by rw [hq2]; exact Nat.lt_of_le_of_lt (Nat.div_le_self n m) hn
    have hrl : r < 18446744073709551616 := by rw [hr2]; exact Nat.lt_of_le_of_lt (Nat.mod_le n m) hn
    have hqs : Hid ((smallV q : Int) = (q : Int)) := Lib.hid (by rw [smallV, if_pos hql])
    have hdq : Hid ((n : Int) / (m : Int) = (q : Int)) := Lib.hid (by rw [hq2, Int.natCast_ediv])
    have hqf : Hid (decide (q < 18446744073709551616) = true) := Lib.hid (decide_eq_true hql)
    have hrs : Hid ((smallV r : Int) = (r : Int)) := Lib.hid (by rw [smallV, if_pos hrl])
    have hdr : Hid ((n : Int) % (m : Int) = (r : Int)) := Lib.hid (by rw [hr2, Int.natCast_emod])
    have hrf : Hid (decide (r < 18446744073709551616) = true) := Lib.hid (decide_eq_true hrl)
    clear hq hr hq2 hr2
    have hc0 := HX.cell 0 0 rfl rfl
    have hc1 := HX.cell 1 0 rfl rfl
    try simp only [List.getElem_toArray, List.getElem_cons_zero, List.getElem_cons_succ] at hc0 hc1
    go_wp2_with fail
    refine (ndivmod_h Hq Hr Hmp zq zr F2.nr F3.nr (by omega) (by omega)).mono ?_
    rintro e w15 ⟨A15, c15, B15, d15, rfl, F15, E15, hb⟩
    replace HX := HX.ext hb
    replace hT := hT.ext hb
    replace F2 := F2.ext hb
    replace F3 := F3.ext hb
    clear hb
    clear hc0 hc1
    go_upto_region 14 with fail
    have hb := below_alloc w15 (.cells #[.slice A15 (dig q).length c15] 24)
    replace HX := HX.new #[.slice A15 (dig q).length c15] 24
    simp only [List.cons_append, List.nil_append] at HX
    replace F2 := F2.ext hb
    replace F3 := F3.ext hb
    replace F15 := F15.ext hb
    replace E15 := E15.ext hb
    replace hT := hT.ext hb
    clear hb
    have hb := below_alloc (w15.alloc (.cells #[.slice A15 (dig q).length c15] 24)) (.cells #[.slice B15 (dig r).length d15] 24)
    replace HX := HX.new #[.slice B15 (dig r).length d15] 24
    simp only [List.cons_append, List.nil_append] at HX
    replace F2 := F2.ext hb
    replace F3 := F3.ext hb
    replace F15 := F15.ext hb
    replace E15 := E15.ext hb
    replace hT := hT.ext hb
    clear hb
    rw [show (w15.alloc (.cells #[.slice A15 (dig q).length c15] 24)).heap.size = w15.heap.size + 1 from by simp] at HX
    generalize ((w15.alloc (.cells #[.slice A15 (dig q).length c15] 24)).alloc (.cells #[.slice B15 (dig r).length d15] 24)) = W5 at *
    generalize w15.heap.size = g5 at *
    have hc2 := HX.cell 2 0 rfl rfl
    try simp only [List.getElem_toArray, List.getElem_cons_zero, List.getElem_cons_succ] at hc2
    go_wp2_with fail
    refine (nsmall_h hqs hqf F15.nr (by omega)).mono ?_
    rintro e w16 ⟨rfl, hb⟩
    clear hc2
    replace HX := HX.ext hb
    replace hT := hT.ext hb
    replace F2 := F2.ext hb
    replace F3 := F3.ext hb
    replace F15 := F15.ext hb
    replace E15 := E15.ext hb
    clear hb
    have hc3 := HX.cell 3 0 rfl rfl
    try simp only [List.getElem_toArray, List.getElem_cons_zero, List.getElem_cons_succ] at hc3
    go_wp2_with fail
    refine (nsmall_h hrs hrf E15.nr (by omega)).mono ?_
    rintro e w17 ⟨rfl, hb⟩
    clear hc3
    replace HX := HX.ext hb
    replace hT := hT.ext hb
    replace F2 := F2.ext hb
    replace F3 := F3.ext hb
    replace F15 := F15.ext hb
    replace E15 := E15.ext hb
    clear hb
    have e1 := hdq.out
    have e2 := hdr.out
    clear hpi hp0 hwr in2 im2 in3 im3 zn2 zm2 zn3 zm3 zS zX HLEN
    go_wp2
    go_ret
    exact ⟨by first | rfl | simp, HX.below⟩
end Go.Proofs.YtjacffmoccpogaaDoor
