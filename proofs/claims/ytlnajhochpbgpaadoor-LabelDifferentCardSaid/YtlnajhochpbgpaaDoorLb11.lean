/- The statements LabelTexts, LabelParses, LabelCompares, LabelDifferent: their walks. -/
import Derived.Test.YtlnajhochpbgpaaDoorLb10
namespace Go.Proofs.YtlnajhochpbgpaaDoor
open Go.RowKit Go.Proofs Go

set_option maxHeartbeats 4000000 in
set_option maxRecDepth 100000 in
theorem ltexts_any {a b c : Int} (w : World) (hE : Env w) :
    Calls Tryd.prog 3 #[.agg #[.int .i64 a, .int .i64 b, .int .i64 c]] w (RetB w true) := by
  obtain ⟨T, hT⟩ := PT.ex a b c
  have hTl := hT.len
  have hsT : (str T).size = T.length := str_size T
  have HP := Lib.hid hT
  by_cases hk : LOk a b c
  · have HV := yes hk
    have HPL : Hid (PL T a b c 0) := Lib.hid (by
      rcases hT with ⟨h1, h2⟩ | ⟨h1, _⟩
      · exact .inl ⟨rfl, h1, h2⟩
      · exact absurd hk h1)
    clear hT hk
    go_enter Tryd.func3, Tryd.ntmps3
    go_wp2_with fail
    have HX := BL.one w #[.int .i64 a, .int .i64 b, .int .i64 c] 23
    go_wp2_with fail
    refine (lawake_any _ (hE.ext HX.below)).mono ?_
    rintro e w1 ⟨rfl, hb⟩
    replace HX := HX.ext hb
    clear hb
    have hc00 := HX.cell 0 0 rfl rfl
    have hc01 := HX.cell 0 1 rfl rfl
    have hc02 := HX.cell 0 2 rfl rfl
    try simp only [List.getElem_toArray, List.getElem_cons_zero, List.getElem_cons_succ] at hc00 hc01 hc02
    go_wp2_with fail
    refine (ltext_any _ (hE.ext HX.below).tab HP.out).mono ?_
    rintro e w2 ⟨rfl, hb⟩
    clear hc00 hc01 hc02
    replace HX := HX.ext hb
    clear hb
    have hc00 := HX.cell 0 0 rfl rfl
    have hc01 := HX.cell 0 1 rfl rfl
    have hc02 := HX.cell 0 2 rfl rfl
    try simp only [List.getElem_toArray, List.getElem_cons_zero, List.getElem_cons_succ] at hc00 hc01 hc02
    go_upto_region 4 with fail
    clear hc00 hc01 hc02
    replace HX := HX.ext (drew_ext _)
    have held : ∀ {W' : World}, BL w W' [(w.heap.size, #[.int .i64 a, .int .i64 b, .int .i64 c], 23)] → W'.cell? ⟨w.heap.size, 0, none⟩ = some (.int .i64 a) ∧ W'.cell? ⟨w.heap.size, 1, none⟩ = some (.int .i64 b) ∧ W'.cell? ⟨w.heap.size, 2, none⟩ = some (.int .i64 c) := fun h => ⟨h.cell 0 0 rfl rfl, h.cell 0 1 rfl rfl, h.cell 0 2 rfl rfl⟩
    have hsb : ((str T).toList == (str T).toList) = true := beq_self_eq_true _
    go_region_held3 (fun W' => W'.cell? ⟨w.heap.size, 0, none⟩ = some (.int .i64 a) ∧ W'.cell? ⟨w.heap.size, 1, none⟩ = some (.int .i64 b) ∧ W'.cell? ⟨w.heap.size, 2, none⟩ = some (.int .i64 c))
      (exact held HX)
      (first
        | (go_at_call 13; refine (lvalid_any (v := true) _ HV).mono ?_; rintro e w3 ⟨rfl, hb⟩; replace HX := HX.ext hb; clear hb)
        | (go_at_call 14; refine (rvalid_any (v := true) _ HV).mono ?_; rintro e w4 ⟨rfl, hb⟩; replace HX := HX.ext hb; clear hb)
        | (go_at_call 15; refine (rltext_any _ HP.out).mono ?_; rintro e w5 ⟨rfl, hb⟩; replace HX := HX.ext hb; clear hb))
    all_goals (
      go_wp2_with fail
      refine (lparse_any _ (hE.ext HX.below) (by omega) HPL.out).mono ?_
      rintro e w6 ⟨rfl, hb⟩
      replace HX := HX.ext hb
      clear hb
      go_upto_region 7 with fail
      have hlg60 := HX.lt 0 rfl
      simp only [] at hlg60
      replace HX := HX.new #[.int .i64 a, .int .i64 b, .int .i64 c] 23
      simp only [List.cons_append, List.nil_append] at HX
      generalize w6.alloc (.cells #[.int .i64 a, .int .i64 b, .int .i64 c] 23) = W6 at *
      generalize w6.heap.size = g6 at *
      have hc00 := HX.cell 0 0 rfl rfl
      have hc01 := HX.cell 0 1 rfl rfl
      have hc02 := HX.cell 0 2 rfl rfl
      try simp only [List.getElem_toArray, List.getElem_cons_zero, List.getElem_cons_succ] at hc00 hc01 hc02
      go_wp2_with fail
      refine (rvalid_any (v := true) _ HV).mono ?_
      rintro e w7 ⟨rfl, hb⟩
      clear hc00 hc01 hc02
      replace HX := HX.ext hb
      clear hb
      have hc00 := HX.cell 0 0 rfl rfl
      have hc01 := HX.cell 0 1 rfl rfl
      have hc02 := HX.cell 0 2 rfl rfl
      try simp only [List.getElem_toArray, List.getElem_cons_zero, List.getElem_cons_succ] at hc00 hc01 hc02
      have hc10 := HX.cell 1 0 rfl rfl
      have hc11 := HX.cell 1 1 rfl rfl
      have hc12 := HX.cell 1 2 rfl rfl
      try simp only [List.getElem_toArray, List.getElem_cons_zero, List.getElem_cons_succ] at hc10 hc11 hc12
      go_wp2
      go_ret
      exact ⟨by first | rfl | simp, HX.below⟩)
  · have HV := no hk
    obtain rfl : T = [] := by
      rcases hT with ⟨h1, _⟩ | ⟨_, h2⟩
      · exact absurd h1 hk
      · exact h2
    have HPL : Hid (PL [] 0 0 0 3) := Lib.hid (.inr ⟨rfl, ⟨rfl, rfl, rfl⟩, fun a b c _ h => by rw [labT] at h; cases h⟩)
    have hse : (str []).toList = [] := by rw [str_toList]
    have hse2 : ((str []).toList == []) = true := by rw [str_toList]; rfl
    clear hT hk
    go_enter Tryd.func3, Tryd.ntmps3
    go_wp2_with fail
    have HX := BL.one w #[.int .i64 a, .int .i64 b, .int .i64 c] 23
    go_wp2_with fail
    refine (lawake_any _ (hE.ext HX.below)).mono ?_
    rintro e w1 ⟨rfl, hb⟩
    replace HX := HX.ext hb
    clear hb
    have hc00 := HX.cell 0 0 rfl rfl
    have hc01 := HX.cell 0 1 rfl rfl
    have hc02 := HX.cell 0 2 rfl rfl
    try simp only [List.getElem_toArray, List.getElem_cons_zero, List.getElem_cons_succ] at hc00 hc01 hc02
    go_wp2_with fail
    refine (ltext_any _ (hE.ext HX.below).tab HP.out).mono ?_
    rintro e w2 ⟨rfl, hb⟩
    clear hc00 hc01 hc02
    replace HX := HX.ext hb
    clear hb
    have hc00 := HX.cell 0 0 rfl rfl
    have hc01 := HX.cell 0 1 rfl rfl
    have hc02 := HX.cell 0 2 rfl rfl
    try simp only [List.getElem_toArray, List.getElem_cons_zero, List.getElem_cons_succ] at hc00 hc01 hc02
    go_upto_region 4 with fail
    clear hc00 hc01 hc02
    replace HX := HX.ext (drew_ext _)
    have held : ∀ {W' : World}, BL w W' [(w.heap.size, #[.int .i64 a, .int .i64 b, .int .i64 c], 23)] → W'.cell? ⟨w.heap.size, 0, none⟩ = some (.int .i64 a) ∧ W'.cell? ⟨w.heap.size, 1, none⟩ = some (.int .i64 b) ∧ W'.cell? ⟨w.heap.size, 2, none⟩ = some (.int .i64 c) := fun h => ⟨h.cell 0 0 rfl rfl, h.cell 0 1 rfl rfl, h.cell 0 2 rfl rfl⟩
    have hsb : ((str []).toList == (str []).toList) = true := beq_self_eq_true _
    go_region_held3 (fun W' => W'.cell? ⟨w.heap.size, 0, none⟩ = some (.int .i64 a) ∧ W'.cell? ⟨w.heap.size, 1, none⟩ = some (.int .i64 b) ∧ W'.cell? ⟨w.heap.size, 2, none⟩ = some (.int .i64 c))
      (exact held HX)
      (first
        | (go_at_call 13; refine (lvalid_any (v := false) _ HV).mono ?_; rintro e w3 ⟨rfl, hb⟩; replace HX := HX.ext hb; clear hb)
        | (go_at_call 14; refine (rvalid_any (v := false) _ HV).mono ?_; rintro e w4 ⟨rfl, hb⟩; replace HX := HX.ext hb; clear hb)
        | (go_at_call 15; refine (rltext_any _ HP.out).mono ?_; rintro e w5 ⟨rfl, hb⟩; replace HX := HX.ext hb; clear hb))
    all_goals (
      go_wp2_with fail
      refine (lparse_any _ (hE.ext HX.below) (by omega) HPL.out).mono ?_
      rintro e w6 ⟨rfl, hb⟩
      replace HX := HX.ext hb
      clear hb
      go_upto_region 7 with fail
      have hlg60 := HX.lt 0 rfl
      simp only [] at hlg60
      replace HX := HX.new #[.int .i64 0, .int .i64 0, .int .i64 0] 23
      simp only [List.cons_append, List.nil_append] at HX
      generalize w6.alloc (.cells #[.int .i64 0, .int .i64 0, .int .i64 0] 23) = W6 at *
      generalize w6.heap.size = g6 at *
      have hc00 := HX.cell 0 0 rfl rfl
      have hc01 := HX.cell 0 1 rfl rfl
      have hc02 := HX.cell 0 2 rfl rfl
      try simp only [List.getElem_toArray, List.getElem_cons_zero, List.getElem_cons_succ] at hc00 hc01 hc02
      go_wp2_with fail
      refine (rvalid_any (v := false) _ HV).mono ?_
      rintro e w7 ⟨rfl, hb⟩
      clear hc00 hc01 hc02
      replace HX := HX.ext hb
      clear hb
      have hc00 := HX.cell 0 0 rfl rfl
      have hc01 := HX.cell 0 1 rfl rfl
      have hc02 := HX.cell 0 2 rfl rfl
      try simp only [List.getElem_toArray, List.getElem_cons_zero, List.getElem_cons_succ] at hc00 hc01 hc02
      have hc10 := HX.cell 1 0 rfl rfl
      have hc11 := HX.cell 1 1 rfl rfl
      have hc12 := HX.cell 1 2 rfl rfl
      try simp only [List.getElem_toArray, List.getElem_cons_zero, List.getElem_cons_succ] at hc10 hc11 hc12
      go_wp2
      go_ret
      exact ⟨by first | rfl | simp, HX.below⟩)
set_option maxHeartbeats 4000000 in
set_option maxRecDepth 100000 in
theorem lparses_any {L : List UInt8} (w : World) (hE : Env w) (hl : L.length ≤ 9223372036854775807) :
    Calls Tryd.prog 4 #[.string (str L)] w (RetB w true) := by
  have hsL : (str L).size = L.length := str_size L
  by_cases h100 : 100 < L.length
  · go_enter Tryd.func4, Tryd.ntmps4
    go_wp2_with fail
    have HX := BL.nil w
    go_wp2_with fail
    refine (lawake_any _ hE).mono ?_
    rintro e w1 ⟨rfl, hb⟩
    replace HX := HX.ext hb
    clear hb
    go_wp2_with fail
    refine (lawake_any _ (hE.ext HX.below)).mono ?_
    rintro e w2 ⟨rfl, hb⟩
    replace HX := HX.ext hb
    clear hb
    go_wp2
    go_ret
    exact ⟨by first | rfl | simp, HX.below⟩
  · have hl2 : L.length ≤ 20000 := by omega
    have hsb : ((str L).toList == (str L).toList) = true := beq_self_eq_true _
    obtain ⟨a, b, c, E, hP⟩ := PL.ex L
    have HPL := Lib.hid hP
    rcases hP with ⟨rfl, h1, h2⟩ | ⟨rfl, ⟨rfl, rfl, rfl⟩, _⟩
    · have HPT : Hid (PT a b c L) := Lib.hid (.inl ⟨h1, h2⟩)
      clear h1 h2
      go_enter Tryd.func4, Tryd.ntmps4
      go_wp2_with fail
      have HX := BL.nil w
      go_wp2_with fail
      refine (lawake_any _ hE).mono ?_
      rintro e w1 ⟨rfl, hb⟩
      replace HX := HX.ext hb
      clear hb
      go_wp2_with fail
      refine (lparse_any _ (hE.ext HX.below) hl2 HPL.out).mono ?_
      rintro e w2 ⟨rfl, hb⟩
      replace HX := HX.ext hb
      clear hb
      go_upto_region 4 with fail
      replace HX := HX.new #[.int .i64 a, .int .i64 b, .int .i64 c] 23
      simp only [List.cons_append, List.nil_append] at HX
      generalize w2.alloc (.cells #[.int .i64 a, .int .i64 b, .int .i64 c] 23) = W2 at *
      generalize w2.heap.size = g2 at *
      go_wp2_with fail
      refine (rparse_any5 _ hl2 HPL.out).mono ?_
      rintro e w3 ⟨rfl, hb⟩
      replace HX := HX.ext hb
      clear hb
      go_upto_region 5 with fail
      have hlg30 := HX.lt 0 rfl
      simp only [] at hlg30
      replace HX := HX.new #[.int .i64 a, .int .i64 b, .int .i64 c] 23
      simp only [List.cons_append, List.nil_append] at HX
      generalize w3.alloc (.cells #[.int .i64 a, .int .i64 b, .int .i64 c] 23) = W3 at *
      generalize w3.heap.size = g3 at *
      have hc00 := HX.cell 0 0 rfl rfl
      have hc01 := HX.cell 0 1 rfl rfl
      have hc02 := HX.cell 0 2 rfl rfl
      try simp only [List.getElem_toArray, List.getElem_cons_zero, List.getElem_cons_succ] at hc00 hc01 hc02
      have hc10 := HX.cell 1 0 rfl rfl
      have hc11 := HX.cell 1 1 rfl rfl
      have hc12 := HX.cell 1 2 rfl rfl
      try simp only [List.getElem_toArray, List.getElem_cons_zero, List.getElem_cons_succ] at hc10 hc11 hc12
      go_wp2_with fail
      refine (ltext_any _ (hE.ext HX.below).tab HPT.out).mono ?_
      rintro e w4 ⟨rfl, hb⟩
      clear hc00 hc01 hc02
      clear hc10 hc11 hc12
      replace HX := HX.ext hb
      clear hb
      go_wp2
      go_ret
      exact ⟨by first | rfl | simp, HX.below⟩
    · go_enter Tryd.func4, Tryd.ntmps4
      go_wp2_with fail
      have HX := BL.nil w
      go_wp2_with fail
      refine (lawake_any _ hE).mono ?_
      rintro e w1 ⟨rfl, hb⟩
      replace HX := HX.ext hb
      clear hb
      go_wp2_with fail
      refine (lparse_any _ (hE.ext HX.below) hl2 HPL.out).mono ?_
      rintro e w2 ⟨rfl, hb⟩
      replace HX := HX.ext hb
      clear hb
      go_upto_region 4 with fail
      replace HX := HX.new #[.int .i64 0, .int .i64 0, .int .i64 0] 23
      simp only [List.cons_append, List.nil_append] at HX
      generalize w2.alloc (.cells #[.int .i64 0, .int .i64 0, .int .i64 0] 23) = W2 at *
      generalize w2.heap.size = g2 at *
      go_wp2_with fail
      refine (rparse_any5 _ hl2 HPL.out).mono ?_
      rintro e w3 ⟨rfl, hb⟩
      replace HX := HX.ext hb
      clear hb
      go_upto_region 5 with fail
      have hlg30 := HX.lt 0 rfl
      simp only [] at hlg30
      replace HX := HX.new #[.int .i64 0, .int .i64 0, .int .i64 0] 23
      simp only [List.cons_append, List.nil_append] at HX
      generalize w3.alloc (.cells #[.int .i64 0, .int .i64 0, .int .i64 0] 23) = W3 at *
      generalize w3.heap.size = g3 at *
      have hc00 := HX.cell 0 0 rfl rfl
      have hc01 := HX.cell 0 1 rfl rfl
      have hc02 := HX.cell 0 2 rfl rfl
      try simp only [List.getElem_toArray, List.getElem_cons_zero, List.getElem_cons_succ] at hc00 hc01 hc02
      have hc10 := HX.cell 1 0 rfl rfl
      have hc11 := HX.cell 1 1 rfl rfl
      have hc12 := HX.cell 1 2 rfl rfl
      try simp only [List.getElem_toArray, List.getElem_cons_zero, List.getElem_cons_succ] at hc10 hc11 hc12
      go_wp2
      go_ret
      exact ⟨by first | rfl | simp, HX.below⟩
theorem cmpI_anti (x y : Int) : Lib.compareInt y x = - Lib.compareInt x y := by unfold Lib.compareInt; split <;> split <;> (try split) <;> omega
theorem cmpI_bd (x y : Int) : -1 ≤ Lib.compareInt x y ∧ Lib.compareInt x y ≤ 1 := by unfold Lib.compareInt; split <;> (try split) <;> omega
theorem cmpL_anti (a b c a' b' c' : Int) : cmpL a' b' c' a b c = - cmpL a b c a' b' c' := by
  unfold cmpL
  by_cases h : a = a'
  · subst h
    by_cases h2 : b = b'
    · subst h2; simp [cmpI_anti c c']
    · rw [if_pos rfl, if_pos rfl, if_neg h2, if_neg (fun e => h2 e.symm), cmpI_anti b b']
  · rw [if_neg h, if_neg (fun e => h e.symm), cmpI_anti a a']
theorem cmpL_bd (a b c a' b' c' : Int) : -1 ≤ cmpL a b c a' b' c' ∧ cmpL a b c a' b' c' ≤ 1 := by
  unfold cmpL
  split
  · split
    · exact cmpI_bd _ _
    · exact cmpI_bd _ _
  · exact cmpI_bd _ _
theorem cmpL_zero (a b c a' b' c' : Int) : cmpL a b c a' b' c' = 0 ↔ a = a' ∧ b = b' ∧ c = c' := by
  unfold cmpL
  by_cases h : a = a'
  · rw [if_pos h]
    by_cases h2 : b = b'
    · rw [if_pos h2, cmpI_zero]; exact ⟨fun e => ⟨h, h2, e⟩, fun e => e.2.2⟩
    · rw [if_neg h2, cmpI_zero]; exact ⟨fun e => absurd e h2, fun e => e.2.1⟩
  · rw [if_neg h, cmpI_zero]; exact ⟨fun e => absurd e h, fun e => e.1⟩
theorem cmpI_le (x y : Int) : Lib.compareInt x y ≤ 0 ↔ x ≤ y := by unfold Lib.compareInt; split <;> (try split) <;> omega
theorem cmpL_le (a b c a' b' c' : Int) : cmpL a b c a' b' c' ≤ 0 ↔ a < a' ∨ a = a' ∧ (b < b' ∨ b = b' ∧ c ≤ c') := by
  unfold cmpL
  split
  · split
    · rw [cmpI_le]; omega
    · rw [cmpI_le]; omega
  · rw [cmpI_le]; omega
theorem cmpL_trans {a b c a' b' c' a2 b2 c2 : Int} (h1 : cmpL a b c a' b' c' ≤ 0) (h2 : cmpL a' b' c' a2 b2 c2 ≤ 0) : cmpL a b c a2 b2 c2 ≤ 0 := by
  rw [cmpL_le] at *; omega
set_option maxHeartbeats 4000000 in
set_option maxRecDepth 100000 in
theorem lcompares_any {a b c a' b' c' a2 b2 c2 : Int} (w : World) (hE : Env w) :
    Calls Tryd.prog 5 #[.agg #[.int .i64 a, .int .i64 b, .int .i64 c], .agg #[.int .i64 a', .int .i64 b', .int .i64 c'], .agg #[.int .i64 a2, .int .i64 b2, .int .i64 c2]] w (RetB w true) := by
  obtain ⟨n, hn⟩ : ∃ n, cmpL a b c a' b' c' = n := ⟨_, rfl⟩
  obtain ⟨m, hm⟩ : ∃ m, cmpL a' b' c' a2 b2 c2 = m := ⟨_, rfl⟩
  obtain ⟨k, hk⟩ : ∃ k, cmpL a b c a2 b2 c2 = k := ⟨_, rfl⟩
  have hn2 := cmpL_anti a b c a' b' c'
  have hz := cmpL_zero a b c a' b' c'
  have nb := cmpL_bd a b c a' b' c'
  have mb := cmpL_bd a' b' c' a2 b2 c2
  have kb := cmpL_bd a b c a2 b2 c2
  have ht : n ≤ 0 → m ≤ 0 → k ≤ 0 := by rw [← hn, ← hm, ← hk]; exact cmpL_trans
  rw [hn] at hn2 hz nb
  rw [hm] at mb
  rw [hk] at kb
  have HN := Lib.hid hn
  have HM := Lib.hid hm
  have HK := Lib.hid hk
  have HN2 := Lib.hid hn2
  have hk := ht
  clear hn hm hn2 ht
  obtain ⟨nb1, nb2⟩ := nb
  obtain ⟨mb1, mb2⟩ := mb
  obtain ⟨kb1, kb2⟩ := kb
  by_cases he : a = a' ∧ b = b' ∧ c = c'
  · have hn00 := hz.2 he
    obtain ⟨rfl, rfl, rfl⟩ := he
    have hnb : (n == 0) = true := beq_iff_eq.2 hn00
    clear hz hn00
    go_enter Tryd.func5, Tryd.ntmps5
    go_wp2_with fail
    have HX := BL.three w #[.int .i64 a, .int .i64 b, .int .i64 c] #[.int .i64 a, .int .i64 b, .int .i64 c] #[.int .i64 a2, .int .i64 b2, .int .i64 c2] 23 23 23
    go_wp2_with fail
    refine (lawake_any _ (hE.ext HX.below)).mono ?_
    rintro e w1 ⟨rfl, hb⟩
    replace HX := HX.ext hb
    clear hb
    have hc00 := HX.cell 0 0 rfl rfl
    have hc01 := HX.cell 0 1 rfl rfl
    have hc02 := HX.cell 0 2 rfl rfl
    try simp only [List.getElem_toArray, List.getElem_cons_zero, List.getElem_cons_succ] at hc00 hc01 hc02
    have hc10 := HX.cell 1 0 rfl rfl
    have hc11 := HX.cell 1 1 rfl rfl
    have hc12 := HX.cell 1 2 rfl rfl
    try simp only [List.getElem_toArray, List.getElem_cons_zero, List.getElem_cons_succ] at hc10 hc11 hc12
    go_wp2_with fail
    refine (lcmp_any _).mono ?_
    rw [HN.out]
    rintro e w2 ⟨rfl, hb⟩
    clear hc00 hc01 hc02
    clear hc10 hc11 hc12
    replace HX := HX.ext hb
    clear hb
    have hc00 := HX.cell 0 0 rfl rfl
    have hc01 := HX.cell 0 1 rfl rfl
    have hc02 := HX.cell 0 2 rfl rfl
    try simp only [List.getElem_toArray, List.getElem_cons_zero, List.getElem_cons_succ] at hc00 hc01 hc02
    have hc10 := HX.cell 1 0 rfl rfl
    have hc11 := HX.cell 1 1 rfl rfl
    have hc12 := HX.cell 1 2 rfl rfl
    try simp only [List.getElem_toArray, List.getElem_cons_zero, List.getElem_cons_succ] at hc10 hc11 hc12
    go_wp2_with fail
    refine (rlcmp_any _).mono ?_
    rw [HN.out]
    rintro e w3 ⟨rfl, hb⟩
    clear hc00 hc01 hc02
    clear hc10 hc11 hc12
    replace HX := HX.ext hb
    clear hb
    have hc00 := HX.cell 0 0 rfl rfl
    have hc01 := HX.cell 0 1 rfl rfl
    have hc02 := HX.cell 0 2 rfl rfl
    try simp only [List.getElem_toArray, List.getElem_cons_zero, List.getElem_cons_succ] at hc00 hc01 hc02
    have hc10 := HX.cell 1 0 rfl rfl
    have hc11 := HX.cell 1 1 rfl rfl
    have hc12 := HX.cell 1 2 rfl rfl
    try simp only [List.getElem_toArray, List.getElem_cons_zero, List.getElem_cons_succ] at hc10 hc11 hc12
    go_wp2_with fail
    refine (lcmp_any _).mono ?_
    rw [HN2.out]
    rintro e w4 ⟨rfl, hb⟩
    clear hc00 hc01 hc02
    clear hc10 hc11 hc12
    replace HX := HX.ext hb
    clear hb
    have hc00 := HX.cell 0 0 rfl rfl
    have hc01 := HX.cell 0 1 rfl rfl
    have hc02 := HX.cell 0 2 rfl rfl
    try simp only [List.getElem_toArray, List.getElem_cons_zero, List.getElem_cons_succ] at hc00 hc01 hc02
    have hc10 := HX.cell 1 0 rfl rfl
    have hc11 := HX.cell 1 1 rfl rfl
    have hc12 := HX.cell 1 2 rfl rfl
    try simp only [List.getElem_toArray, List.getElem_cons_zero, List.getElem_cons_succ] at hc10 hc11 hc12
    have hc20 := HX.cell 2 0 rfl rfl
    have hc21 := HX.cell 2 1 rfl rfl
    have hc22 := HX.cell 2 2 rfl rfl
    try simp only [List.getElem_toArray, List.getElem_cons_zero, List.getElem_cons_succ] at hc20 hc21 hc22
    by_cases hn0 : 0 < n
    · go_wp2
      go_ret
      exact ⟨by first | rfl | simp, HX.below⟩
    · by_cases hm0 : 0 < m
      · go_wp2_with fail
        refine (lcmp_any _).mono ?_
        rw [HM.out]
        rintro e w5 ⟨rfl, hb⟩
        clear hc00 hc01 hc02
        clear hc10 hc11 hc12
        clear hc20 hc21 hc22
        replace HX := HX.ext hb
        clear hb
        have hc00 := HX.cell 0 0 rfl rfl
        have hc01 := HX.cell 0 1 rfl rfl
        have hc02 := HX.cell 0 2 rfl rfl
        try simp only [List.getElem_toArray, List.getElem_cons_zero, List.getElem_cons_succ] at hc00 hc01 hc02
        have hc10 := HX.cell 1 0 rfl rfl
        have hc11 := HX.cell 1 1 rfl rfl
        have hc12 := HX.cell 1 2 rfl rfl
        try simp only [List.getElem_toArray, List.getElem_cons_zero, List.getElem_cons_succ] at hc10 hc11 hc12
        have hc20 := HX.cell 2 0 rfl rfl
        have hc21 := HX.cell 2 1 rfl rfl
        have hc22 := HX.cell 2 2 rfl rfl
        try simp only [List.getElem_toArray, List.getElem_cons_zero, List.getElem_cons_succ] at hc20 hc21 hc22
        go_wp2
        go_ret
        exact ⟨by first | rfl | simp, HX.below⟩
      · have hk0 : k ≤ 0 := hk (by omega) (by omega)
        go_wp2_with fail
        refine (lcmp_any _).mono ?_
        rw [HM.out]
        rintro e w5 ⟨rfl, hb⟩
        clear hc00 hc01 hc02
        clear hc10 hc11 hc12
        clear hc20 hc21 hc22
        replace HX := HX.ext hb
        clear hb
        have hc00 := HX.cell 0 0 rfl rfl
        have hc01 := HX.cell 0 1 rfl rfl
        have hc02 := HX.cell 0 2 rfl rfl
        try simp only [List.getElem_toArray, List.getElem_cons_zero, List.getElem_cons_succ] at hc00 hc01 hc02
        have hc10 := HX.cell 1 0 rfl rfl
        have hc11 := HX.cell 1 1 rfl rfl
        have hc12 := HX.cell 1 2 rfl rfl
        try simp only [List.getElem_toArray, List.getElem_cons_zero, List.getElem_cons_succ] at hc10 hc11 hc12
        have hc20 := HX.cell 2 0 rfl rfl
        have hc21 := HX.cell 2 1 rfl rfl
        have hc22 := HX.cell 2 2 rfl rfl
        try simp only [List.getElem_toArray, List.getElem_cons_zero, List.getElem_cons_succ] at hc20 hc21 hc22
        go_wp2_with fail
        refine (lcmp_any _).mono ?_
        rw [HK.out]
        rintro e w6 ⟨rfl, hb⟩
        clear hc00 hc01 hc02
        clear hc10 hc11 hc12
        clear hc20 hc21 hc22
        replace HX := HX.ext hb
        clear hb
        go_wp2
        go_ret
        exact ⟨by first | rfl | simp, HX.below⟩

  · have hn00 : ¬ n = 0 := fun e => he (hz.1 e)
    have hnb : (n == 0) = false := beq_eq_false_iff_ne.2 hn00
    clear hz hn00
    by_cases ha : a = a'
    · subst ha
      by_cases hb' : b = b'
      · subst hb'
        have hcc : ¬ c = c' := fun e => he ⟨rfl, rfl, e⟩
        clear he
        go_enter Tryd.func5, Tryd.ntmps5
        go_wp2_with fail
        have HX := BL.three w #[.int .i64 a, .int .i64 b, .int .i64 c] #[.int .i64 a, .int .i64 b, .int .i64 c'] #[.int .i64 a2, .int .i64 b2, .int .i64 c2] 23 23 23
        go_wp2_with fail
        refine (lawake_any _ (hE.ext HX.below)).mono ?_
        rintro e w1 ⟨rfl, hb⟩
        replace HX := HX.ext hb
        clear hb
        have hc00 := HX.cell 0 0 rfl rfl
        have hc01 := HX.cell 0 1 rfl rfl
        have hc02 := HX.cell 0 2 rfl rfl
        try simp only [List.getElem_toArray, List.getElem_cons_zero, List.getElem_cons_succ] at hc00 hc01 hc02
        have hc10 := HX.cell 1 0 rfl rfl
        have hc11 := HX.cell 1 1 rfl rfl
        have hc12 := HX.cell 1 2 rfl rfl
        try simp only [List.getElem_toArray, List.getElem_cons_zero, List.getElem_cons_succ] at hc10 hc11 hc12
        go_wp2_with fail
        refine (lcmp_any _).mono ?_
        rw [HN.out]
        rintro e w2 ⟨rfl, hb⟩
        clear hc00 hc01 hc02
        clear hc10 hc11 hc12
        replace HX := HX.ext hb
        clear hb
        have hc00 := HX.cell 0 0 rfl rfl
        have hc01 := HX.cell 0 1 rfl rfl
        have hc02 := HX.cell 0 2 rfl rfl
        try simp only [List.getElem_toArray, List.getElem_cons_zero, List.getElem_cons_succ] at hc00 hc01 hc02
        have hc10 := HX.cell 1 0 rfl rfl
        have hc11 := HX.cell 1 1 rfl rfl
        have hc12 := HX.cell 1 2 rfl rfl
        try simp only [List.getElem_toArray, List.getElem_cons_zero, List.getElem_cons_succ] at hc10 hc11 hc12
        go_wp2_with fail
        refine (rlcmp_any _).mono ?_
        rw [HN.out]
        rintro e w3 ⟨rfl, hb⟩
        clear hc00 hc01 hc02
        clear hc10 hc11 hc12
        replace HX := HX.ext hb
        clear hb
        have hc00 := HX.cell 0 0 rfl rfl
        have hc01 := HX.cell 0 1 rfl rfl
        have hc02 := HX.cell 0 2 rfl rfl
        try simp only [List.getElem_toArray, List.getElem_cons_zero, List.getElem_cons_succ] at hc00 hc01 hc02
        have hc10 := HX.cell 1 0 rfl rfl
        have hc11 := HX.cell 1 1 rfl rfl
        have hc12 := HX.cell 1 2 rfl rfl
        try simp only [List.getElem_toArray, List.getElem_cons_zero, List.getElem_cons_succ] at hc10 hc11 hc12
        go_wp2_with fail
        refine (lcmp_any _).mono ?_
        rw [HN2.out]
        rintro e w4 ⟨rfl, hb⟩
        clear hc00 hc01 hc02
        clear hc10 hc11 hc12
        replace HX := HX.ext hb
        clear hb
        have hc00 := HX.cell 0 0 rfl rfl
        have hc01 := HX.cell 0 1 rfl rfl
        have hc02 := HX.cell 0 2 rfl rfl
        try simp only [List.getElem_toArray, List.getElem_cons_zero, List.getElem_cons_succ] at hc00 hc01 hc02
        have hc10 := HX.cell 1 0 rfl rfl
        have hc11 := HX.cell 1 1 rfl rfl
        have hc12 := HX.cell 1 2 rfl rfl
        try simp only [List.getElem_toArray, List.getElem_cons_zero, List.getElem_cons_succ] at hc10 hc11 hc12
        have hc20 := HX.cell 2 0 rfl rfl
        have hc21 := HX.cell 2 1 rfl rfl
        have hc22 := HX.cell 2 2 rfl rfl
        try simp only [List.getElem_toArray, List.getElem_cons_zero, List.getElem_cons_succ] at hc20 hc21 hc22
        by_cases hn0 : 0 < n
        · go_wp2
          go_ret
          exact ⟨by first | rfl | simp, HX.below⟩
        · by_cases hm0 : 0 < m
          · go_wp2_with fail
            refine (lcmp_any _).mono ?_
            rw [HM.out]
            rintro e w5 ⟨rfl, hb⟩
            clear hc00 hc01 hc02
            clear hc10 hc11 hc12
            clear hc20 hc21 hc22
            replace HX := HX.ext hb
            clear hb
            have hc00 := HX.cell 0 0 rfl rfl
            have hc01 := HX.cell 0 1 rfl rfl
            have hc02 := HX.cell 0 2 rfl rfl
            try simp only [List.getElem_toArray, List.getElem_cons_zero, List.getElem_cons_succ] at hc00 hc01 hc02
            have hc10 := HX.cell 1 0 rfl rfl
            have hc11 := HX.cell 1 1 rfl rfl
            have hc12 := HX.cell 1 2 rfl rfl
            try simp only [List.getElem_toArray, List.getElem_cons_zero, List.getElem_cons_succ] at hc10 hc11 hc12
            have hc20 := HX.cell 2 0 rfl rfl
            have hc21 := HX.cell 2 1 rfl rfl
            have hc22 := HX.cell 2 2 rfl rfl
            try simp only [List.getElem_toArray, List.getElem_cons_zero, List.getElem_cons_succ] at hc20 hc21 hc22
            go_wp2
            go_ret
            exact ⟨by first | rfl | simp, HX.below⟩
          · have hk0 : k ≤ 0 := hk (by omega) (by omega)
            go_wp2_with fail
            refine (lcmp_any _).mono ?_
            rw [HM.out]
            rintro e w5 ⟨rfl, hb⟩
            clear hc00 hc01 hc02
            clear hc10 hc11 hc12
            clear hc20 hc21 hc22
            replace HX := HX.ext hb
            clear hb
            have hc00 := HX.cell 0 0 rfl rfl
            have hc01 := HX.cell 0 1 rfl rfl
            have hc02 := HX.cell 0 2 rfl rfl
            try simp only [List.getElem_toArray, List.getElem_cons_zero, List.getElem_cons_succ] at hc00 hc01 hc02
            have hc10 := HX.cell 1 0 rfl rfl
            have hc11 := HX.cell 1 1 rfl rfl
            have hc12 := HX.cell 1 2 rfl rfl
            try simp only [List.getElem_toArray, List.getElem_cons_zero, List.getElem_cons_succ] at hc10 hc11 hc12
            have hc20 := HX.cell 2 0 rfl rfl
            have hc21 := HX.cell 2 1 rfl rfl
            have hc22 := HX.cell 2 2 rfl rfl
            try simp only [List.getElem_toArray, List.getElem_cons_zero, List.getElem_cons_succ] at hc20 hc21 hc22
            go_wp2_with fail
            refine (lcmp_any _).mono ?_
            rw [HK.out]
            rintro e w6 ⟨rfl, hb⟩
            clear hc00 hc01 hc02
            clear hc10 hc11 hc12
            clear hc20 hc21 hc22
            replace HX := HX.ext hb
            clear hb
            go_wp2
            go_ret
            exact ⟨by first | rfl | simp, HX.below⟩

      · clear he
        go_enter Tryd.func5, Tryd.ntmps5
        go_wp2_with fail
        have HX := BL.three w #[.int .i64 a, .int .i64 b, .int .i64 c] #[.int .i64 a, .int .i64 b', .int .i64 c'] #[.int .i64 a2, .int .i64 b2, .int .i64 c2] 23 23 23
        go_wp2_with fail
        refine (lawake_any _ (hE.ext HX.below)).mono ?_
        rintro e w1 ⟨rfl, hb⟩
        replace HX := HX.ext hb
        clear hb
        have hc00 := HX.cell 0 0 rfl rfl
        have hc01 := HX.cell 0 1 rfl rfl
        have hc02 := HX.cell 0 2 rfl rfl
        try simp only [List.getElem_toArray, List.getElem_cons_zero, List.getElem_cons_succ] at hc00 hc01 hc02
        have hc10 := HX.cell 1 0 rfl rfl
        have hc11 := HX.cell 1 1 rfl rfl
        have hc12 := HX.cell 1 2 rfl rfl
        try simp only [List.getElem_toArray, List.getElem_cons_zero, List.getElem_cons_succ] at hc10 hc11 hc12
        go_wp2_with fail
        refine (lcmp_any _).mono ?_
        rw [HN.out]
        rintro e w2 ⟨rfl, hb⟩
        clear hc00 hc01 hc02
        clear hc10 hc11 hc12
        replace HX := HX.ext hb
        clear hb
        have hc00 := HX.cell 0 0 rfl rfl
        have hc01 := HX.cell 0 1 rfl rfl
        have hc02 := HX.cell 0 2 rfl rfl
        try simp only [List.getElem_toArray, List.getElem_cons_zero, List.getElem_cons_succ] at hc00 hc01 hc02
        have hc10 := HX.cell 1 0 rfl rfl
        have hc11 := HX.cell 1 1 rfl rfl
        have hc12 := HX.cell 1 2 rfl rfl
        try simp only [List.getElem_toArray, List.getElem_cons_zero, List.getElem_cons_succ] at hc10 hc11 hc12
        go_wp2_with fail
        refine (rlcmp_any _).mono ?_
        rw [HN.out]
        rintro e w3 ⟨rfl, hb⟩
        clear hc00 hc01 hc02
        clear hc10 hc11 hc12
        replace HX := HX.ext hb
        clear hb
        have hc00 := HX.cell 0 0 rfl rfl
        have hc01 := HX.cell 0 1 rfl rfl
        have hc02 := HX.cell 0 2 rfl rfl
        try simp only [List.getElem_toArray, List.getElem_cons_zero, List.getElem_cons_succ] at hc00 hc01 hc02
        have hc10 := HX.cell 1 0 rfl rfl
        have hc11 := HX.cell 1 1 rfl rfl
        have hc12 := HX.cell 1 2 rfl rfl
        try simp only [List.getElem_toArray, List.getElem_cons_zero, List.getElem_cons_succ] at hc10 hc11 hc12
        go_wp2_with fail
        refine (lcmp_any _).mono ?_
        rw [HN2.out]
        rintro e w4 ⟨rfl, hb⟩
        clear hc00 hc01 hc02
        clear hc10 hc11 hc12
        replace HX := HX.ext hb
        clear hb
        have hc00 := HX.cell 0 0 rfl rfl
        have hc01 := HX.cell 0 1 rfl rfl
        have hc02 := HX.cell 0 2 rfl rfl
        try simp only [List.getElem_toArray, List.getElem_cons_zero, List.getElem_cons_succ] at hc00 hc01 hc02
        have hc10 := HX.cell 1 0 rfl rfl
        have hc11 := HX.cell 1 1 rfl rfl
        have hc12 := HX.cell 1 2 rfl rfl
        try simp only [List.getElem_toArray, List.getElem_cons_zero, List.getElem_cons_succ] at hc10 hc11 hc12
        have hc20 := HX.cell 2 0 rfl rfl
        have hc21 := HX.cell 2 1 rfl rfl
        have hc22 := HX.cell 2 2 rfl rfl
        try simp only [List.getElem_toArray, List.getElem_cons_zero, List.getElem_cons_succ] at hc20 hc21 hc22
        by_cases hn0 : 0 < n
        · go_wp2
          go_ret
          exact ⟨by first | rfl | simp, HX.below⟩
        · by_cases hm0 : 0 < m
          · go_wp2_with fail
            refine (lcmp_any _).mono ?_
            rw [HM.out]
            rintro e w5 ⟨rfl, hb⟩
            clear hc00 hc01 hc02
            clear hc10 hc11 hc12
            clear hc20 hc21 hc22
            replace HX := HX.ext hb
            clear hb
            have hc00 := HX.cell 0 0 rfl rfl
            have hc01 := HX.cell 0 1 rfl rfl
            have hc02 := HX.cell 0 2 rfl rfl
            try simp only [List.getElem_toArray, List.getElem_cons_zero, List.getElem_cons_succ] at hc00 hc01 hc02
            have hc10 := HX.cell 1 0 rfl rfl
            have hc11 := HX.cell 1 1 rfl rfl
            have hc12 := HX.cell 1 2 rfl rfl
            try simp only [List.getElem_toArray, List.getElem_cons_zero, List.getElem_cons_succ] at hc10 hc11 hc12
            have hc20 := HX.cell 2 0 rfl rfl
            have hc21 := HX.cell 2 1 rfl rfl
            have hc22 := HX.cell 2 2 rfl rfl
            try simp only [List.getElem_toArray, List.getElem_cons_zero, List.getElem_cons_succ] at hc20 hc21 hc22
            go_wp2
            go_ret
            exact ⟨by first | rfl | simp, HX.below⟩
          · have hk0 : k ≤ 0 := hk (by omega) (by omega)
            go_wp2_with fail
            refine (lcmp_any _).mono ?_
            rw [HM.out]
            rintro e w5 ⟨rfl, hb⟩
            clear hc00 hc01 hc02
            clear hc10 hc11 hc12
            clear hc20 hc21 hc22
            replace HX := HX.ext hb
            clear hb
            have hc00 := HX.cell 0 0 rfl rfl
            have hc01 := HX.cell 0 1 rfl rfl
            have hc02 := HX.cell 0 2 rfl rfl
            try simp only [List.getElem_toArray, List.getElem_cons_zero, List.getElem_cons_succ] at hc00 hc01 hc02
            have hc10 := HX.cell 1 0 rfl rfl
            have hc11 := HX.cell 1 1 rfl rfl
            have hc12 := HX.cell 1 2 rfl rfl
            try simp only [List.getElem_toArray, List.getElem_cons_zero, List.getElem_cons_succ] at hc10 hc11 hc12
            have hc20 := HX.cell 2 0 rfl rfl
            have hc21 := HX.cell 2 1 rfl rfl
            have hc22 := HX.cell 2 2 rfl rfl
            try simp only [List.getElem_toArray, List.getElem_cons_zero, List.getElem_cons_succ] at hc20 hc21 hc22
            go_wp2_with fail
            refine (lcmp_any _).mono ?_
            rw [HK.out]
            rintro e w6 ⟨rfl, hb⟩
            clear hc00 hc01 hc02
            clear hc10 hc11 hc12
            clear hc20 hc21 hc22
            replace HX := HX.ext hb
            clear hb
            go_wp2
            go_ret
            exact ⟨by first | rfl | simp, HX.below⟩

    · clear he
      go_enter Tryd.func5, Tryd.ntmps5
      go_wp2_with fail
      have HX := BL.three w #[.int .i64 a, .int .i64 b, .int .i64 c] #[.int .i64 a', .int .i64 b', .int .i64 c'] #[.int .i64 a2, .int .i64 b2, .int .i64 c2] 23 23 23
      go_wp2_with fail
      refine (lawake_any _ (hE.ext HX.below)).mono ?_
      rintro e w1 ⟨rfl, hb⟩
      replace HX := HX.ext hb
      clear hb
      have hc00 := HX.cell 0 0 rfl rfl
      have hc01 := HX.cell 0 1 rfl rfl
      have hc02 := HX.cell 0 2 rfl rfl
      try simp only [List.getElem_toArray, List.getElem_cons_zero, List.getElem_cons_succ] at hc00 hc01 hc02
      have hc10 := HX.cell 1 0 rfl rfl
      have hc11 := HX.cell 1 1 rfl rfl
      have hc12 := HX.cell 1 2 rfl rfl
      try simp only [List.getElem_toArray, List.getElem_cons_zero, List.getElem_cons_succ] at hc10 hc11 hc12
      go_wp2_with fail
      refine (lcmp_any _).mono ?_
      rw [HN.out]
      rintro e w2 ⟨rfl, hb⟩
      clear hc00 hc01 hc02
      clear hc10 hc11 hc12
      replace HX := HX.ext hb
      clear hb
      have hc00 := HX.cell 0 0 rfl rfl
      have hc01 := HX.cell 0 1 rfl rfl
      have hc02 := HX.cell 0 2 rfl rfl
      try simp only [List.getElem_toArray, List.getElem_cons_zero, List.getElem_cons_succ] at hc00 hc01 hc02
      have hc10 := HX.cell 1 0 rfl rfl
      have hc11 := HX.cell 1 1 rfl rfl
      have hc12 := HX.cell 1 2 rfl rfl
      try simp only [List.getElem_toArray, List.getElem_cons_zero, List.getElem_cons_succ] at hc10 hc11 hc12
      go_wp2_with fail
      refine (rlcmp_any _).mono ?_
      rw [HN.out]
      rintro e w3 ⟨rfl, hb⟩
      clear hc00 hc01 hc02
      clear hc10 hc11 hc12
      replace HX := HX.ext hb
      clear hb
      have hc00 := HX.cell 0 0 rfl rfl
      have hc01 := HX.cell 0 1 rfl rfl
      have hc02 := HX.cell 0 2 rfl rfl
      try simp only [List.getElem_toArray, List.getElem_cons_zero, List.getElem_cons_succ] at hc00 hc01 hc02
      have hc10 := HX.cell 1 0 rfl rfl
      have hc11 := HX.cell 1 1 rfl rfl
      have hc12 := HX.cell 1 2 rfl rfl
      try simp only [List.getElem_toArray, List.getElem_cons_zero, List.getElem_cons_succ] at hc10 hc11 hc12
      go_wp2_with fail
      refine (lcmp_any _).mono ?_
      rw [HN2.out]
      rintro e w4 ⟨rfl, hb⟩
      clear hc00 hc01 hc02
      clear hc10 hc11 hc12
      replace HX := HX.ext hb
      clear hb
      have hc00 := HX.cell 0 0 rfl rfl
      have hc01 := HX.cell 0 1 rfl rfl
      have hc02 := HX.cell 0 2 rfl rfl
      try simp only [List.getElem_toArray, List.getElem_cons_zero, List.getElem_cons_succ] at hc00 hc01 hc02
      have hc10 := HX.cell 1 0 rfl rfl
      have hc11 := HX.cell 1 1 rfl rfl
      have hc12 := HX.cell 1 2 rfl rfl
      try simp only [List.getElem_toArray, List.getElem_cons_zero, List.getElem_cons_succ] at hc10 hc11 hc12
      have hc20 := HX.cell 2 0 rfl rfl
      have hc21 := HX.cell 2 1 rfl rfl
      have hc22 := HX.cell 2 2 rfl rfl
      try simp only [List.getElem_toArray, List.getElem_cons_zero, List.getElem_cons_succ] at hc20 hc21 hc22
      by_cases hn0 : 0 < n
      · go_wp2
        go_ret
        exact ⟨by first | rfl | simp, HX.below⟩
      · by_cases hm0 : 0 < m
        · go_wp2_with fail
          refine (lcmp_any _).mono ?_
          rw [HM.out]
          rintro e w5 ⟨rfl, hb⟩
          clear hc00 hc01 hc02
          clear hc10 hc11 hc12
          clear hc20 hc21 hc22
          replace HX := HX.ext hb
          clear hb
          have hc00 := HX.cell 0 0 rfl rfl
          have hc01 := HX.cell 0 1 rfl rfl
          have hc02 := HX.cell 0 2 rfl rfl
          try simp only [List.getElem_toArray, List.getElem_cons_zero, List.getElem_cons_succ] at hc00 hc01 hc02
          have hc10 := HX.cell 1 0 rfl rfl
          have hc11 := HX.cell 1 1 rfl rfl
          have hc12 := HX.cell 1 2 rfl rfl
          try simp only [List.getElem_toArray, List.getElem_cons_zero, List.getElem_cons_succ] at hc10 hc11 hc12
          have hc20 := HX.cell 2 0 rfl rfl
          have hc21 := HX.cell 2 1 rfl rfl
          have hc22 := HX.cell 2 2 rfl rfl
          try simp only [List.getElem_toArray, List.getElem_cons_zero, List.getElem_cons_succ] at hc20 hc21 hc22
          go_wp2
          go_ret
          exact ⟨by first | rfl | simp, HX.below⟩
        · have hk0 : k ≤ 0 := hk (by omega) (by omega)
          go_wp2_with fail
          refine (lcmp_any _).mono ?_
          rw [HM.out]
          rintro e w5 ⟨rfl, hb⟩
          clear hc00 hc01 hc02
          clear hc10 hc11 hc12
          clear hc20 hc21 hc22
          replace HX := HX.ext hb
          clear hb
          have hc00 := HX.cell 0 0 rfl rfl
          have hc01 := HX.cell 0 1 rfl rfl
          have hc02 := HX.cell 0 2 rfl rfl
          try simp only [List.getElem_toArray, List.getElem_cons_zero, List.getElem_cons_succ] at hc00 hc01 hc02
          have hc10 := HX.cell 1 0 rfl rfl
          have hc11 := HX.cell 1 1 rfl rfl
          have hc12 := HX.cell 1 2 rfl rfl
          try simp only [List.getElem_toArray, List.getElem_cons_zero, List.getElem_cons_succ] at hc10 hc11 hc12
          have hc20 := HX.cell 2 0 rfl rfl
          have hc21 := HX.cell 2 1 rfl rfl
          have hc22 := HX.cell 2 2 rfl rfl
          try simp only [List.getElem_toArray, List.getElem_cons_zero, List.getElem_cons_succ] at hc20 hc21 hc22
          go_wp2_with fail
          refine (lcmp_any _).mono ?_
          rw [HK.out]
          rintro e w6 ⟨rfl, hb⟩
          clear hc00 hc01 hc02
          clear hc10 hc11 hc12
          clear hc20 hc21 hc22
          replace HX := HX.ext hb
          clear hb
          go_wp2
          go_ret
          exact ⟨by first | rfl | simp, HX.below⟩

set_option maxHeartbeats 4000000 in
set_option maxRecDepth 100000 in
theorem ldiff_any {a b c a' b' c' : Int} (w : World) (hE : Env w) :
    Calls Tryd.prog 6 #[.agg #[.int .i64 a, .int .i64 b, .int .i64 c], .agg #[.int .i64 a', .int .i64 b', .int .i64 c']] w (RetB w true) := by
  by_cases h1 : LOk a b c
  · have HV1 := yes h1
    by_cases h2 : LOk a' b' c'
    · have HV2 := yes h2
      obtain ⟨T1, hT1⟩ : ∃ T, labT a b c = T := ⟨_, rfl⟩
      obtain ⟨T2, hT2⟩ : ∃ T, labT a' b' c' = T := ⟨_, rfl⟩
      have HT1 : Hid (PT a b c T1) := Lib.hid (.inl ⟨h1, hT1⟩)
      have HT2 : Hid (PT a' b' c' T2) := Lib.hid (.inl ⟨h2, hT2⟩)
      have hne : ¬ (a = a' ∧ b = b' ∧ c = c') → ((str T1).toList == (str T2).toList) = false := fun hn => str_eq (beq_eq_false_iff_ne.2 fun e => hn (by
        obtain ⟨q1, q2, q3⟩ := labT_inj h1 h2 (hT1.trans (e.trans hT2.symm))
        exact ⟨q1, q2, q3⟩))
      have heq : a = a' → b = b' → c = c' → T1 = T2 := fun e1 e2 e3 => by rw [← hT1, ← hT2, e1, e2, e3]
      clear hT1 hT2 h1 h2
      by_cases ha : a = a'
      · subst ha
        by_cases hb' : b = b'
        · subst hb'
          by_cases hc' : c = c'
          · subst hc'
            obtain rfl := heq rfl rfl rfl
            have hsb : ((str T1).toList == (str T1).toList) = true := beq_self_eq_true _
            clear hne heq
            go_enter Tryd.func6, Tryd.ntmps6
            go_wp2_with fail
            have HX := BL.two w #[.int .i64 a, .int .i64 b, .int .i64 c] #[.int .i64 a, .int .i64 b, .int .i64 c] 23 23
            go_wp2_with fail
            refine (lawake_any _ (hE.ext HX.below)).mono ?_
            rintro e w1 ⟨rfl, hb⟩
            replace HX := HX.ext hb
            clear hb
            have hc00 := HX.cell 0 0 rfl rfl
            have hc01 := HX.cell 0 1 rfl rfl
            have hc02 := HX.cell 0 2 rfl rfl
            try simp only [List.getElem_toArray, List.getElem_cons_zero, List.getElem_cons_succ] at hc00 hc01 hc02
            go_wp2_with fail
            refine (rvalid_any (v := true) _ HV1).mono ?_
            rintro e w2 ⟨rfl, hb⟩
            clear hc00 hc01 hc02
            replace HX := HX.ext hb
            clear hb
            have hc10 := HX.cell 1 0 rfl rfl
            have hc11 := HX.cell 1 1 rfl rfl
            have hc12 := HX.cell 1 2 rfl rfl
            try simp only [List.getElem_toArray, List.getElem_cons_zero, List.getElem_cons_succ] at hc10 hc11 hc12
            go_wp2_with fail
            refine (rvalid_any (v := true) _ HV2).mono ?_
            rintro e w3 ⟨rfl, hb⟩
            clear hc10 hc11 hc12
            replace HX := HX.ext hb
            clear hb
            go_upto_region 3 with fail
            replace HX := HX.ext (drew_ext _)
            have held : ∀ {W' : World}, BL w W' [(w.heap.size, #[.int .i64 a, .int .i64 b, .int .i64 c], 23), (w.heap.size + 1, #[.int .i64 a, .int .i64 b, .int .i64 c], 23)] → W'.cell? ⟨w.heap.size, 0, none⟩ = some (.int .i64 a) ∧ W'.cell? ⟨w.heap.size, 1, none⟩ = some (.int .i64 b) ∧ W'.cell? ⟨w.heap.size, 2, none⟩ = some (.int .i64 c) ∧ W'.cell? ⟨w.heap.size + 1, 0, none⟩ = some (.int .i64 a) ∧ W'.cell? ⟨w.heap.size + 1, 1, none⟩ = some (.int .i64 b) ∧ W'.cell? ⟨w.heap.size + 1, 2, none⟩ = some (.int .i64 c) := fun h => ⟨h.cell 0 0 rfl rfl, h.cell 0 1 rfl rfl, h.cell 0 2 rfl rfl, h.cell 1 0 rfl rfl, h.cell 1 1 rfl rfl, h.cell 1 2 rfl rfl⟩
            go_region_held3 (fun W' => W'.cell? ⟨w.heap.size, 0, none⟩ = some (.int .i64 a) ∧ W'.cell? ⟨w.heap.size, 1, none⟩ = some (.int .i64 b) ∧ W'.cell? ⟨w.heap.size, 2, none⟩ = some (.int .i64 c) ∧ W'.cell? ⟨w.heap.size + 1, 0, none⟩ = some (.int .i64 a) ∧ W'.cell? ⟨w.heap.size + 1, 1, none⟩ = some (.int .i64 b) ∧ W'.cell? ⟨w.heap.size + 1, 2, none⟩ = some (.int .i64 c))
              (exact held HX)
              ((go_at_call_of 12 (Value.agg #[.int .i64 a, .int .i64 b, .int .i64 c]); refine (ltext_any _ (hE.ext HX.below).tab HT1.out).mono ?_; rintro e w5 ⟨rfl, hb⟩; replace HX := HX.ext hb; clear hb))
            all_goals (
              go_wp2
              go_ret
              exact ⟨by first | rfl | simp, HX.below⟩)
          · have hsb := hne fun h => hc' h.2.2
            clear hne heq
            go_enter Tryd.func6, Tryd.ntmps6
            go_wp2_with fail
            have HX := BL.two w #[.int .i64 a, .int .i64 b, .int .i64 c] #[.int .i64 a, .int .i64 b, .int .i64 c'] 23 23
            go_wp2_with fail
            refine (lawake_any _ (hE.ext HX.below)).mono ?_
            rintro e w1 ⟨rfl, hb⟩
            replace HX := HX.ext hb
            clear hb
            have hc00 := HX.cell 0 0 rfl rfl
            have hc01 := HX.cell 0 1 rfl rfl
            have hc02 := HX.cell 0 2 rfl rfl
            try simp only [List.getElem_toArray, List.getElem_cons_zero, List.getElem_cons_succ] at hc00 hc01 hc02
            go_wp2_with fail
            refine (rvalid_any (v := true) _ HV1).mono ?_
            rintro e w2 ⟨rfl, hb⟩
            clear hc00 hc01 hc02
            replace HX := HX.ext hb
            clear hb
            have hc10 := HX.cell 1 0 rfl rfl
            have hc11 := HX.cell 1 1 rfl rfl
            have hc12 := HX.cell 1 2 rfl rfl
            try simp only [List.getElem_toArray, List.getElem_cons_zero, List.getElem_cons_succ] at hc10 hc11 hc12
            go_wp2_with fail
            refine (rvalid_any (v := true) _ HV2).mono ?_
            rintro e w3 ⟨rfl, hb⟩
            clear hc10 hc11 hc12
            replace HX := HX.ext hb
            clear hb
            go_upto_region 3 with fail
            replace HX := HX.ext (drew_ext _)
            have held : ∀ {W' : World}, BL w W' [(w.heap.size, #[.int .i64 a, .int .i64 b, .int .i64 c], 23), (w.heap.size + 1, #[.int .i64 a, .int .i64 b, .int .i64 c'], 23)] → W'.cell? ⟨w.heap.size, 0, none⟩ = some (.int .i64 a) ∧ W'.cell? ⟨w.heap.size, 1, none⟩ = some (.int .i64 b) ∧ W'.cell? ⟨w.heap.size, 2, none⟩ = some (.int .i64 c) ∧ W'.cell? ⟨w.heap.size + 1, 0, none⟩ = some (.int .i64 a) ∧ W'.cell? ⟨w.heap.size + 1, 1, none⟩ = some (.int .i64 b) ∧ W'.cell? ⟨w.heap.size + 1, 2, none⟩ = some (.int .i64 c') := fun h => ⟨h.cell 0 0 rfl rfl, h.cell 0 1 rfl rfl, h.cell 0 2 rfl rfl, h.cell 1 0 rfl rfl, h.cell 1 1 rfl rfl, h.cell 1 2 rfl rfl⟩
            go_region_held3 (fun W' => W'.cell? ⟨w.heap.size, 0, none⟩ = some (.int .i64 a) ∧ W'.cell? ⟨w.heap.size, 1, none⟩ = some (.int .i64 b) ∧ W'.cell? ⟨w.heap.size, 2, none⟩ = some (.int .i64 c) ∧ W'.cell? ⟨w.heap.size + 1, 0, none⟩ = some (.int .i64 a) ∧ W'.cell? ⟨w.heap.size + 1, 1, none⟩ = some (.int .i64 b) ∧ W'.cell? ⟨w.heap.size + 1, 2, none⟩ = some (.int .i64 c'))
              (exact held HX)
              (first
                | (go_at_call_of 12 (Value.agg #[.int .i64 a, .int .i64 b, .int .i64 c]); refine (ltext_any _ (hE.ext HX.below).tab HT1.out).mono ?_; rintro e w5 ⟨rfl, hb⟩; replace HX := HX.ext hb; clear hb)
                | (go_at_call_of 12 (Value.agg #[.int .i64 a, .int .i64 b, .int .i64 c']); refine (ltext_any _ (hE.ext HX.below).tab HT2.out).mono ?_; rintro e w6 ⟨rfl, hb⟩; replace HX := HX.ext hb; clear hb))
            all_goals (
              go_wp2
              go_ret
              exact ⟨by first | rfl | simp, HX.below⟩)
        · have hsb := hne fun h => hb' h.2.1
          clear hne heq
          go_enter Tryd.func6, Tryd.ntmps6
          go_wp2_with fail
          have HX := BL.two w #[.int .i64 a, .int .i64 b, .int .i64 c] #[.int .i64 a, .int .i64 b', .int .i64 c'] 23 23
          go_wp2_with fail
          refine (lawake_any _ (hE.ext HX.below)).mono ?_
          rintro e w1 ⟨rfl, hb⟩
          replace HX := HX.ext hb
          clear hb
          have hc00 := HX.cell 0 0 rfl rfl
          have hc01 := HX.cell 0 1 rfl rfl
          have hc02 := HX.cell 0 2 rfl rfl
          try simp only [List.getElem_toArray, List.getElem_cons_zero, List.getElem_cons_succ] at hc00 hc01 hc02
          go_wp2_with fail
          refine (rvalid_any (v := true) _ HV1).mono ?_
          rintro e w2 ⟨rfl, hb⟩
          clear hc00 hc01 hc02
          replace HX := HX.ext hb
          clear hb
          have hc10 := HX.cell 1 0 rfl rfl
          have hc11 := HX.cell 1 1 rfl rfl
          have hc12 := HX.cell 1 2 rfl rfl
          try simp only [List.getElem_toArray, List.getElem_cons_zero, List.getElem_cons_succ] at hc10 hc11 hc12
          go_wp2_with fail
          refine (rvalid_any (v := true) _ HV2).mono ?_
          rintro e w3 ⟨rfl, hb⟩
          clear hc10 hc11 hc12
          replace HX := HX.ext hb
          clear hb
          go_upto_region 3 with fail
          replace HX := HX.ext (drew_ext _)
          have held : ∀ {W' : World}, BL w W' [(w.heap.size, #[.int .i64 a, .int .i64 b, .int .i64 c], 23), (w.heap.size + 1, #[.int .i64 a, .int .i64 b', .int .i64 c'], 23)] → W'.cell? ⟨w.heap.size, 0, none⟩ = some (.int .i64 a) ∧ W'.cell? ⟨w.heap.size, 1, none⟩ = some (.int .i64 b) ∧ W'.cell? ⟨w.heap.size, 2, none⟩ = some (.int .i64 c) ∧ W'.cell? ⟨w.heap.size + 1, 0, none⟩ = some (.int .i64 a) ∧ W'.cell? ⟨w.heap.size + 1, 1, none⟩ = some (.int .i64 b') ∧ W'.cell? ⟨w.heap.size + 1, 2, none⟩ = some (.int .i64 c') := fun h => ⟨h.cell 0 0 rfl rfl, h.cell 0 1 rfl rfl, h.cell 0 2 rfl rfl, h.cell 1 0 rfl rfl, h.cell 1 1 rfl rfl, h.cell 1 2 rfl rfl⟩
          go_region_held3 (fun W' => W'.cell? ⟨w.heap.size, 0, none⟩ = some (.int .i64 a) ∧ W'.cell? ⟨w.heap.size, 1, none⟩ = some (.int .i64 b) ∧ W'.cell? ⟨w.heap.size, 2, none⟩ = some (.int .i64 c) ∧ W'.cell? ⟨w.heap.size + 1, 0, none⟩ = some (.int .i64 a) ∧ W'.cell? ⟨w.heap.size + 1, 1, none⟩ = some (.int .i64 b') ∧ W'.cell? ⟨w.heap.size + 1, 2, none⟩ = some (.int .i64 c'))
            (exact held HX)
            (first
              | (go_at_call_of 12 (Value.agg #[.int .i64 a, .int .i64 b, .int .i64 c]); refine (ltext_any _ (hE.ext HX.below).tab HT1.out).mono ?_; rintro e w5 ⟨rfl, hb⟩; replace HX := HX.ext hb; clear hb)
              | (go_at_call_of 12 (Value.agg #[.int .i64 a, .int .i64 b', .int .i64 c']); refine (ltext_any _ (hE.ext HX.below).tab HT2.out).mono ?_; rintro e w6 ⟨rfl, hb⟩; replace HX := HX.ext hb; clear hb))
          all_goals (
            go_wp2
            go_ret
            exact ⟨by first | rfl | simp, HX.below⟩)
      · have hsb := hne fun h => ha h.1
        clear hne heq
        go_enter Tryd.func6, Tryd.ntmps6
        go_wp2_with fail
        have HX := BL.two w #[.int .i64 a, .int .i64 b, .int .i64 c] #[.int .i64 a', .int .i64 b', .int .i64 c'] 23 23
        go_wp2_with fail
        refine (lawake_any _ (hE.ext HX.below)).mono ?_
        rintro e w1 ⟨rfl, hb⟩
        replace HX := HX.ext hb
        clear hb
        have hc00 := HX.cell 0 0 rfl rfl
        have hc01 := HX.cell 0 1 rfl rfl
        have hc02 := HX.cell 0 2 rfl rfl
        try simp only [List.getElem_toArray, List.getElem_cons_zero, List.getElem_cons_succ] at hc00 hc01 hc02
        go_wp2_with fail
        refine (rvalid_any (v := true) _ HV1).mono ?_
        rintro e w2 ⟨rfl, hb⟩
        clear hc00 hc01 hc02
        replace HX := HX.ext hb
        clear hb
        have hc10 := HX.cell 1 0 rfl rfl
        have hc11 := HX.cell 1 1 rfl rfl
        have hc12 := HX.cell 1 2 rfl rfl
        try simp only [List.getElem_toArray, List.getElem_cons_zero, List.getElem_cons_succ] at hc10 hc11 hc12
        go_wp2_with fail
        refine (rvalid_any (v := true) _ HV2).mono ?_
        rintro e w3 ⟨rfl, hb⟩
        clear hc10 hc11 hc12
        replace HX := HX.ext hb
        clear hb
        go_upto_region 3 with fail
        replace HX := HX.ext (drew_ext _)
        have held : ∀ {W' : World}, BL w W' [(w.heap.size, #[.int .i64 a, .int .i64 b, .int .i64 c], 23), (w.heap.size + 1, #[.int .i64 a', .int .i64 b', .int .i64 c'], 23)] → W'.cell? ⟨w.heap.size, 0, none⟩ = some (.int .i64 a) ∧ W'.cell? ⟨w.heap.size, 1, none⟩ = some (.int .i64 b) ∧ W'.cell? ⟨w.heap.size, 2, none⟩ = some (.int .i64 c) ∧ W'.cell? ⟨w.heap.size + 1, 0, none⟩ = some (.int .i64 a') ∧ W'.cell? ⟨w.heap.size + 1, 1, none⟩ = some (.int .i64 b') ∧ W'.cell? ⟨w.heap.size + 1, 2, none⟩ = some (.int .i64 c') := fun h => ⟨h.cell 0 0 rfl rfl, h.cell 0 1 rfl rfl, h.cell 0 2 rfl rfl, h.cell 1 0 rfl rfl, h.cell 1 1 rfl rfl, h.cell 1 2 rfl rfl⟩
        go_region_held3 (fun W' => W'.cell? ⟨w.heap.size, 0, none⟩ = some (.int .i64 a) ∧ W'.cell? ⟨w.heap.size, 1, none⟩ = some (.int .i64 b) ∧ W'.cell? ⟨w.heap.size, 2, none⟩ = some (.int .i64 c) ∧ W'.cell? ⟨w.heap.size + 1, 0, none⟩ = some (.int .i64 a') ∧ W'.cell? ⟨w.heap.size + 1, 1, none⟩ = some (.int .i64 b') ∧ W'.cell? ⟨w.heap.size + 1, 2, none⟩ = some (.int .i64 c'))
          (exact held HX)
          (first
            | (go_at_call_of 12 (Value.agg #[.int .i64 a, .int .i64 b, .int .i64 c]); refine (ltext_any _ (hE.ext HX.below).tab HT1.out).mono ?_; rintro e w5 ⟨rfl, hb⟩; replace HX := HX.ext hb; clear hb)
            | (go_at_call_of 12 (Value.agg #[.int .i64 a', .int .i64 b', .int .i64 c']); refine (ltext_any _ (hE.ext HX.below).tab HT2.out).mono ?_; rintro e w6 ⟨rfl, hb⟩; replace HX := HX.ext hb; clear hb))
        all_goals (
          go_wp2
          go_ret
          exact ⟨by first | rfl | simp, HX.below⟩)
    · have HV2 := no h2
      clear h1 h2
      go_enter Tryd.func6, Tryd.ntmps6
      go_wp2_with fail
      have HX := BL.two w #[.int .i64 a, .int .i64 b, .int .i64 c] #[.int .i64 a', .int .i64 b', .int .i64 c'] 23 23
      go_wp2_with fail
      refine (lawake_any _ (hE.ext HX.below)).mono ?_
      rintro e w1 ⟨rfl, hb⟩
      replace HX := HX.ext hb
      clear hb
      have hc00 := HX.cell 0 0 rfl rfl
      have hc01 := HX.cell 0 1 rfl rfl
      have hc02 := HX.cell 0 2 rfl rfl
      try simp only [List.getElem_toArray, List.getElem_cons_zero, List.getElem_cons_succ] at hc00 hc01 hc02
      go_wp2_with fail
      refine (rvalid_any (v := true) _ HV1).mono ?_
      rintro e w2 ⟨rfl, hb⟩
      clear hc00 hc01 hc02
      replace HX := HX.ext hb
      clear hb
      have hc10 := HX.cell 1 0 rfl rfl
      have hc11 := HX.cell 1 1 rfl rfl
      have hc12 := HX.cell 1 2 rfl rfl
      try simp only [List.getElem_toArray, List.getElem_cons_zero, List.getElem_cons_succ] at hc10 hc11 hc12
      go_wp2_with fail
      refine (rvalid_any (v := false) _ HV2).mono ?_
      rintro e w3 ⟨rfl, hb⟩
      clear hc10 hc11 hc12
      replace HX := HX.ext hb
      clear hb
      go_wp2_with fail
      refine (lawake_any _ (hE.ext HX.below)).mono ?_
      rintro e w4 ⟨rfl, hb⟩
      replace HX := HX.ext hb
      clear hb
      go_wp2
      go_ret
      exact ⟨by first | rfl | simp, HX.below⟩
  · have HV1 := no h1
    clear h1
    go_enter Tryd.func6, Tryd.ntmps6
    go_wp2_with fail
    have HX := BL.two w #[.int .i64 a, .int .i64 b, .int .i64 c] #[.int .i64 a', .int .i64 b', .int .i64 c'] 23 23
    go_wp2_with fail
    refine (lawake_any _ (hE.ext HX.below)).mono ?_
    rintro e w1 ⟨rfl, hb⟩
    replace HX := HX.ext hb
    clear hb
    have hc00 := HX.cell 0 0 rfl rfl
    have hc01 := HX.cell 0 1 rfl rfl
    have hc02 := HX.cell 0 2 rfl rfl
    try simp only [List.getElem_toArray, List.getElem_cons_zero, List.getElem_cons_succ] at hc00 hc01 hc02
    go_wp2_with fail
    refine (rvalid_any (v := false) _ HV1).mono ?_
    rintro e w2 ⟨rfl, hb⟩
    clear hc00 hc01 hc02
    replace HX := HX.ext hb
    clear hb
    go_wp2_with fail
    refine (lawake_any _ (hE.ext HX.below)).mono ?_
    rintro e w4 ⟨rfl, hb⟩
    replace HX := HX.ext hb
    clear hb
    go_wp2
    go_ret
    exact ⟨by first | rfl | simp, HX.below⟩
end Go.Proofs.YtlnajhochpbgpaaDoor
