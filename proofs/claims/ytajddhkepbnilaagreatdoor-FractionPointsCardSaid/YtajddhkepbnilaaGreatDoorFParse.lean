/- The text of a number, read: fraction.Parse. -/
import Derived.Test.YtajddhkepbnilaaGreatDoorSCut
import Derived.Test.YtajddhkepbnilaaGreatDoorOps
namespace Go.Proofs.YtajddhkepbnilaaGreatDoor
open Go.RowKit Go.Proofs Go

set_option maxHeartbeats 1000000 in
set_option maxRecDepth 100000 in
theorem fparse_long (L : List UInt8) (w : World) (hL : L.length ≤ 9223372036854775807) (h1 : 4000 < L.length) :
    Calls Tryz.prog 10 #[.string (str L)] w (RetP w L) := by
  have hsz : (str L).size = L.length := str_size L
  have HP := Lib.hid (show ∀ e w', RetZE w 6 e w' → RetP w L e w' from fun e w' h => by rw [RetP, if_pos h1]; exact h)
  go_enter Tryz.func10, Tryz.ntmps10
  have HX := BL.one w #[.bool false, .slice none 0 0, .slice none 0 0] 27
  have hc00 := HX.cell 0 0 rfl rfl
  have hf00 := HX.free 0 0 rfl
  have hc01 := HX.cell 0 1 rfl rfl
  have hf01 := HX.free 0 1 rfl
  have hc02 := HX.cell 0 2 rfl rfl
  have hf02 := HX.free 0 2 rfl
  try simp only [List.getElem_toArray, List.getElem_cons_zero, List.getElem_cons_succ] at hc00 hf00 hc01 hf01 hc02 hf02
  go_wp2
  clear hc00 hf00 hc01 hf01 hc02 hf02
  have hc00 := HX.cell 0 0 rfl rfl
  have hc01 := HX.cell 0 1 rfl rfl
  have hc02 := HX.cell 0 2 rfl rfl
  try simp only [List.getElem_toArray, List.getElem_cons_zero, List.getElem_cons_succ] at hc00 hc01 hc02
  exact bodyPost_ret (v := .tuple #[.agg #[.bool false, .slice none 0 0, .slice none 0 0], .int .i64 6]) (by simp [results, Tryz.results10, go_sem, hc00, hc01, hc02]) rfl (HP.out _ _ ⟨rfl, HX.below⟩)

set_option maxHeartbeats 4000000 in
set_option maxRecDepth 100000 in
theorem fparse_short (L : List UInt8) (w : World) (hL : L.length ≤ 3000) (hm : Mx w) (hT : Tab w) :
    Calls Tryz.prog 10 #[.string (str L)] w (RetP w L) := by
  have hsz : (str L).size = L.length := str_size L
  have hl1 := fnum_len L
  have hl2 := fden_len L
  obtain ⟨N, hN⟩ : ∃ N, parseV (fnum L) = N := ⟨_, rfl⟩
  obtain ⟨E, hE⟩ : ∃ E, parseE (fnum L) = E := ⟨_, rfl⟩
  obtain ⟨D, hD⟩ : ∃ D, parseV (fden L) = D := ⟨_, rfl⟩
  obtain ⟨G, hG⟩ : ∃ G, parseE (fden L) = G := ⟨_, rfl⟩
  obtain ⟨q, hq⟩ : ∃ q, rv (fneg L) N D = q := ⟨_, rfl⟩
  obtain ⟨M, hM⟩ : ∃ M, fracText q = M := ⟨_, rfl⟩
  obtain ⟨σ, hσ⟩ : ∃ σ, fneg L = σ := ⟨_, rfl⟩
  have hzN : (dig N).length ≤ 500 := hN ▸ dig_parseV _
  have hzD : (dig D).length ≤ 500 := hD ▸ dig_parseV _
  have hSz : Sz q 500 := hq ▸ Sz.of_rv hzN hzD (by omega)
  have hok : fok L = true ↔ E = 0 ∧ G = 0 ∧ M = L := by rw [fok_iff hL, hN, hE, hD, hG, hq, hM]
  have hfq : fok L = true → fq L = q := fun h => by rw [fq_of hL h, hN, hD, hq]
  have H1 := Lib.hid (show (if L.head? == some 45 then L.tail else L) = frest L ∧ (L.head? == some 45) = σ from ⟨rfl, hσ⟩)
  obtain ⟨P, R, f, hcut⟩ : ∃ P R f, cutAt 47 (frest L) = (P, R, f) := ⟨_, _, _, rfl⟩
  have hP : fnum L = P := by rw [fnum, hcut]
  have hR : fden L = if f then R else [49] := by rw [fden, hcut]
  have hrl : (frest L).length ≤ 3000 := by
    refine Nat.le_trans ?_ hL
    rw [frest]; split
    · simp
    · exact Nat.le_refl _
  have H2 := Lib.hid hcut
  have HN := Lib.hid (And.intro hN hE)
  have HD := Lib.hid (And.intro hD hG)
  rw [hP] at HN hl1
  rw [hR] at HD hl2
  have HM := Lib.hid hM
  have HQ := Lib.hid (hσ ▸ hq)
  have hEc : Hid (E = 0 ∨ E = 3) := Lib.hid (hE ▸ parseE_cases (by rw [hP]; omega))
  have hGc : Hid (G = 0 ∨ G = 3) := Lib.hid (hG ▸ parseE_cases (by rw [hR]; omega))
  clear hN hE hD hG hq hM hσ hcut hP hR
  have KEY : Hid ((E = 0 ∧ G = 0 ∧ M = L ∧ ∀ e w', RetGE w q 500 e w' → RetP w L e w') ∨ (¬ (E = 0 ∧ G = 0 ∧ M = L) ∧ ∀ e w', RetZE w 3 e w' → RetP w L e w')) := by
    refine Lib.hid ?_
    by_cases h : fok L = true
    · have h2 := hok.1 h
      exact .inl ⟨h2.1, h2.2.1, h2.2.2, fun e w' h3 => by rw [RetP, if_neg (by omega), if_pos h, hfq h]; exact h3⟩
    · exact .inr ⟨fun h2 => h (hok.2 h2), fun e w' h3 => by rw [RetP, if_neg (by omega), if_neg h]; exact h3⟩
  clear hok hfq
  go_enter Tryz.func10, Tryz.ntmps10
  go_wp2_with fail
  have HX := BL.one w #[.bool false, .slice none 0 0, .slice none 0 0] 27
  replace hm := hm.ext HX.below
  replace hT := hT.ext HX.below
  refine (scutp_any _ H1 (by omega)).mono ?_
  rintro e w1 ⟨rfl, hb⟩
  replace HX := HX.ext hb
  replace hm := hm.ext hb
  replace hT := hT.ext hb
  clear hb
  go_wp2_with fail
  refine (scut_any _ H2 hm (by omega)).mono ?_
  rintro e w2 ⟨rfl, hb⟩
  replace HX := HX.ext hb
  replace hm := hm.ext hb
  replace hT := hT.ext hb
  clear hb
  cases f
  · simp only [if_true, if_false, Bool.false_eq_true] at HD hl2
    go_wp2_with fail
    refine (nparse_e _ HN (by omega)).mono ?_
    rintro e w3 ⟨A3, c3, rfl, F3, hb⟩
    replace HX := HX.ext hb
    replace hm := hm.ext hb
    replace hT := hT.ext hb
    clear hb
    go_upto_region 8 with fail
    have hg4 : w.heap.size < w3.heap.size := HX.lt 0 rfl
    have hb := below_alloc w3 (.cells #[.slice A3 (dig N).length c3] 25)
    replace HX := HX.new #[.slice A3 (dig N).length c3] 25
    simp only [List.cons_append, List.nil_append] at HX
    replace hm := hm.ext hb
    replace hT := hT.ext hb
    replace F3 := F3.ext hb
    clear hb
    generalize w3.alloc (.cells #[.slice A3 (dig N).length c3] 25) = W4 at *
    generalize w3.heap.size = g4 at *
    go_wp2_with fail
    refine (nparse_e (L := [49]) _ HD (by simp)).mono ?_
    rintro e w5 ⟨A5, c5, rfl, F5, hb⟩
    replace HX := HX.ext hb
    replace hm := hm.ext hb
    replace hT := hT.ext hb
    replace F3 := F3.ext hb
    clear hb
    go_upto_region 9 with fail
    have hg6 : w.heap.size < w5.heap.size := HX.lt 0 rfl
    have hb := below_alloc w5 (.cells #[.slice A5 (dig D).length c5] 25)
    replace HX := HX.new #[.slice A5 (dig D).length c5] 25
    simp only [List.cons_append, List.nil_append] at HX
    replace hm := hm.ext hb
    replace hT := hT.ext hb
    replace F3 := F3.ext hb
    replace F5 := F5.ext hb
    clear hb
    generalize w5.alloc (.cells #[.slice A5 (dig D).length c5] 25) = W6 at *
    generalize w5.heap.size = g6 at *
    have hc10 := HX.cell 1 0 rfl rfl
    have hc20 := HX.cell 2 0 rfl rfl
    try simp only [List.getElem_toArray, List.getElem_cons_zero, List.getElem_cons_succ] at hc10 hc20
    go_wp2_with fail
    refine (fmade_any σ A3 A5 _ _ c3 c5 (dig N) (dig D) _ F3 F5 rfl rfl (by omega) (by omega)).mono ?_
    rw [val_dig, val_dig, HQ.out]
    rintro e w7 ⟨A7, c7, B7, d7, rfl, N7, D7, hb⟩
    clear hc10 hc20
    replace HX := HX.ext hb
    replace hm := hm.ext hb
    replace hT := hT.ext hb
    replace F3 := F3.ext hb
    replace F5 := F5.ext hb
    clear hb
    clear F3 F5
    go_upto_region 10 with fail
    have hg8 : w.heap.size < w7.heap.size := HX.lt 0 rfl
    have hb := below_alloc w7 (.cells #[.bool (sg q), .slice A7 (dig (nu q)).length c7, .slice B7 (dig q.den).length d7] 27)
    replace HX := HX.new #[.bool (sg q), .slice A7 (dig (nu q)).length c7, .slice B7 (dig q.den).length d7] 27
    simp only [List.cons_append, List.nil_append] at HX
    replace hT := hT.ext hb
    replace N7 := N7.ext hb
    replace D7 := D7.ext hb
    clear hb
    generalize w7.alloc (.cells #[.bool (sg q), .slice A7 (dig (nu q)).length c7, .slice B7 (dig q.den).length d7] 27) = W8 at *
    generalize w7.heap.size = g8 at *
    rcases KEY.out with ⟨rfl, rfl, rfl, hP⟩ | ⟨hno, hP⟩
    · have HP := Lib.hid hP
      clear hP KEY
      have hc30 := HX.cell 3 0 rfl rfl
      have hc31 := HX.cell 3 1 rfl rfl
      have hc32 := HX.cell 3 2 rfl rfl
      try simp only [List.getElem_toArray, List.getElem_cons_zero, List.getElem_cons_succ] at hc30 hc31 hc32
      go_wp2_with fail
      refine (ftext_any _ (Fr.of N7 D7 hSz) (by omega) hT).mono ?_
      rw [HM.out]
      rintro e w9 ⟨rfl, hb⟩
      clear hc30 hc31 hc32
      replace HX := HX.ext hb
      replace hT := hT.ext hb
      replace N7 := N7.ext hb
      replace D7 := D7.ext hb
      clear hb
      have hself : ((str M).toList == (str M).toList) = true := beq_self_eq_true _
      have hc30 := HX.cell 3 0 rfl rfl
      have hc31 := HX.cell 3 1 rfl rfl
      have hc32 := HX.cell 3 2 rfl rfl
      try simp only [List.getElem_toArray, List.getElem_cons_zero, List.getElem_cons_succ] at hc30 hc31 hc32
      have hc00 := HX.cell 0 0 rfl rfl
      have hf00 := HX.free 0 0 rfl
      have hc01 := HX.cell 0 1 rfl rfl
      have hf01 := HX.free 0 1 rfl
      have hc02 := HX.cell 0 2 rfl rfl
      have hf02 := HX.free 0 2 rfl
      try simp only [List.getElem_toArray, List.getElem_cons_zero, List.getElem_cons_succ] at hc00 hf00 hc01 hf01 hc02 hf02
      go_wp2
      clear hc00 hf00 hc01 hf01 hc02 hf02
      clear hc30 hc31 hc32
      have hk := HX.keep3 0 rfl rfl rfl rfl (by omega) (.bool (sg q)) (.slice A7 (dig (nu q)).length c7) (.slice B7 (dig q.den).length d7)
      replace HX := HX.put3 0 rfl (by omega) (by intro k q hk hne; match k, hk with | 0, hk => (simp at hk; subst hk; simp at hne ⊢; try omega) | 1, hk => (simp at hk; subst hk; simp at hne ⊢; try omega) | 2, hk => (simp at hk; subst hk; simp at hne ⊢; try omega) | 3, hk => (simp at hk; subst hk; simp at hne ⊢; try omega) | k + 4, hk => simp at hk) (.bool (sg q)) (.slice A7 (dig (nu q)).length c7) (.slice B7 (dig q.den).length d7)
      replace N7 := N7.stay hk
      replace D7 := D7.stay hk
      clear hk
      simp only [List.set_cons_zero, List.set_cons_succ] at HX
      have hc00 := HX.cell 0 0 rfl rfl
      have hc01 := HX.cell 0 1 rfl rfl
      have hc02 := HX.cell 0 2 rfl rfl
      try simp only [List.getElem_toArray, List.getElem_cons_zero, List.getElem_cons_succ] at hc00 hc01 hc02
      exact bodyPost_ret (v := .tuple #[.agg #[.bool (sg q), .slice A7 (dig (nu q)).length c7, .slice B7 (dig q.den).length d7], .int .i64 0]) (by simp [results, Tryz.results10, go_sem, hc00, hc01, hc02]) rfl (HP.out _ _ ⟨A7, c7, B7, d7, rfl, ⟨N7, D7, hSz⟩, HX.below⟩)
    · have HP := Lib.hid hP
      clear hP KEY
      rcases hEc.out with rfl | rfl
      · rcases hGc.out with rfl | rfl
        · have hne : ((str M).toList == (str L).toList) = false := by rw [str_toList, str_toList, beq_eq_false_iff_ne]; exact fun h => hno ⟨rfl, rfl, h⟩
          clear hno
          have hc30 := HX.cell 3 0 rfl rfl
          have hc31 := HX.cell 3 1 rfl rfl
          have hc32 := HX.cell 3 2 rfl rfl
          try simp only [List.getElem_toArray, List.getElem_cons_zero, List.getElem_cons_succ] at hc30 hc31 hc32
          go_wp2_with fail
          refine (ftext_any _ (Fr.of N7 D7 hSz) (by omega) hT).mono ?_
          rw [HM.out]
          rintro e w9 ⟨rfl, hb⟩
          clear hc30 hc31 hc32
          replace HX := HX.ext hb
          replace hT := hT.ext hb
          replace N7 := N7.ext hb
          replace D7 := D7.ext hb
          clear hb
          have hc00 := HX.cell 0 0 rfl rfl
          have hf00 := HX.free 0 0 rfl
          have hc01 := HX.cell 0 1 rfl rfl
          have hf01 := HX.free 0 1 rfl
          have hc02 := HX.cell 0 2 rfl rfl
          have hf02 := HX.free 0 2 rfl
          try simp only [List.getElem_toArray, List.getElem_cons_zero, List.getElem_cons_succ] at hc00 hf00 hc01 hf01 hc02 hf02
          go_wp2
          clear hc00 hf00 hc01 hf01 hc02 hf02
          have hk := HX.keep3 0 rfl rfl rfl rfl (by omega) (.bool false) (.slice none 0 0) (.slice none 0 0)
          replace HX := HX.put3 0 rfl (by omega) (by intro k q hk hne; match k, hk with | 0, hk => (simp at hk; subst hk; simp at hne ⊢; try omega) | 1, hk => (simp at hk; subst hk; simp at hne ⊢; try omega) | 2, hk => (simp at hk; subst hk; simp at hne ⊢; try omega) | 3, hk => (simp at hk; subst hk; simp at hne ⊢; try omega) | k + 4, hk => simp at hk) (.bool false) (.slice none 0 0) (.slice none 0 0)
          clear hk
          simp only [List.set_cons_zero, List.set_cons_succ] at HX
          have hc00 := HX.cell 0 0 rfl rfl
          have hc01 := HX.cell 0 1 rfl rfl
          have hc02 := HX.cell 0 2 rfl rfl
          try simp only [List.getElem_toArray, List.getElem_cons_zero, List.getElem_cons_succ] at hc00 hc01 hc02
          exact bodyPost_ret (v := .tuple #[.agg #[.bool false, .slice none 0 0, .slice none 0 0], .int .i64 3]) (by simp [results, Tryz.results10, go_sem, hc00, hc01, hc02]) rfl (HP.out _ _ ⟨rfl, HX.below⟩)
        · clear hno
          have hc00 := HX.cell 0 0 rfl rfl
          have hf00 := HX.free 0 0 rfl
          have hc01 := HX.cell 0 1 rfl rfl
          have hf01 := HX.free 0 1 rfl
          have hc02 := HX.cell 0 2 rfl rfl
          have hf02 := HX.free 0 2 rfl
          try simp only [List.getElem_toArray, List.getElem_cons_zero, List.getElem_cons_succ] at hc00 hf00 hc01 hf01 hc02 hf02
          go_wp2
          clear hc00 hf00 hc01 hf01 hc02 hf02
          have hk := HX.keep3 0 rfl rfl rfl rfl (by omega) (.bool false) (.slice none 0 0) (.slice none 0 0)
          replace HX := HX.put3 0 rfl (by omega) (by intro k q hk hne; match k, hk with | 0, hk => (simp at hk; subst hk; simp at hne ⊢; try omega) | 1, hk => (simp at hk; subst hk; simp at hne ⊢; try omega) | 2, hk => (simp at hk; subst hk; simp at hne ⊢; try omega) | 3, hk => (simp at hk; subst hk; simp at hne ⊢; try omega) | k + 4, hk => simp at hk) (.bool false) (.slice none 0 0) (.slice none 0 0)
          clear hk
          simp only [List.set_cons_zero, List.set_cons_succ] at HX
          have hc00 := HX.cell 0 0 rfl rfl
          have hc01 := HX.cell 0 1 rfl rfl
          have hc02 := HX.cell 0 2 rfl rfl
          try simp only [List.getElem_toArray, List.getElem_cons_zero, List.getElem_cons_succ] at hc00 hc01 hc02
          exact bodyPost_ret (v := .tuple #[.agg #[.bool false, .slice none 0 0, .slice none 0 0], .int .i64 3]) (by simp [results, Tryz.results10, go_sem, hc00, hc01, hc02]) rfl (HP.out _ _ ⟨rfl, HX.below⟩)
      · clear hno
        have hc00 := HX.cell 0 0 rfl rfl
        have hf00 := HX.free 0 0 rfl
        have hc01 := HX.cell 0 1 rfl rfl
        have hf01 := HX.free 0 1 rfl
        have hc02 := HX.cell 0 2 rfl rfl
        have hf02 := HX.free 0 2 rfl
        try simp only [List.getElem_toArray, List.getElem_cons_zero, List.getElem_cons_succ] at hc00 hf00 hc01 hf01 hc02 hf02
        go_wp2
        clear hc00 hf00 hc01 hf01 hc02 hf02
        have hk := HX.keep3 0 rfl rfl rfl rfl (by omega) (.bool false) (.slice none 0 0) (.slice none 0 0)
        replace HX := HX.put3 0 rfl (by omega) (by intro k q hk hne; match k, hk with | 0, hk => (simp at hk; subst hk; simp at hne ⊢; try omega) | 1, hk => (simp at hk; subst hk; simp at hne ⊢; try omega) | 2, hk => (simp at hk; subst hk; simp at hne ⊢; try omega) | 3, hk => (simp at hk; subst hk; simp at hne ⊢; try omega) | k + 4, hk => simp at hk) (.bool false) (.slice none 0 0) (.slice none 0 0)
        clear hk
        simp only [List.set_cons_zero, List.set_cons_succ] at HX
        have hc00 := HX.cell 0 0 rfl rfl
        have hc01 := HX.cell 0 1 rfl rfl
        have hc02 := HX.cell 0 2 rfl rfl
        try simp only [List.getElem_toArray, List.getElem_cons_zero, List.getElem_cons_succ] at hc00 hc01 hc02
        exact bodyPost_ret (v := .tuple #[.agg #[.bool false, .slice none 0 0, .slice none 0 0], .int .i64 3]) (by simp [results, Tryz.results10, go_sem, hc00, hc01, hc02]) rfl (HP.out _ _ ⟨rfl, HX.below⟩)
  · simp only [if_true, if_false, Bool.false_eq_true] at HD hl2
    go_wp2_with fail
    refine (nparse_e _ HN (by omega)).mono ?_
    rintro e w3 ⟨A3, c3, rfl, F3, hb⟩
    replace HX := HX.ext hb
    replace hm := hm.ext hb
    replace hT := hT.ext hb
    clear hb
    go_upto_region 8 with fail
    have hg4 : w.heap.size < w3.heap.size := HX.lt 0 rfl
    have hb := below_alloc w3 (.cells #[.slice A3 (dig N).length c3] 25)
    replace HX := HX.new #[.slice A3 (dig N).length c3] 25
    simp only [List.cons_append, List.nil_append] at HX
    replace hm := hm.ext hb
    replace hT := hT.ext hb
    replace F3 := F3.ext hb
    clear hb
    generalize w3.alloc (.cells #[.slice A3 (dig N).length c3] 25) = W4 at *
    generalize w3.heap.size = g4 at *
    go_wp2_with fail
    refine (nparse_e (L := R) _ HD (by omega)).mono ?_
    rintro e w5 ⟨A5, c5, rfl, F5, hb⟩
    replace HX := HX.ext hb
    replace hm := hm.ext hb
    replace hT := hT.ext hb
    replace F3 := F3.ext hb
    clear hb
    go_upto_region 9 with fail
    have hg6 : w.heap.size < w5.heap.size := HX.lt 0 rfl
    have hb := below_alloc w5 (.cells #[.slice A5 (dig D).length c5] 25)
    replace HX := HX.new #[.slice A5 (dig D).length c5] 25
    simp only [List.cons_append, List.nil_append] at HX
    replace hm := hm.ext hb
    replace hT := hT.ext hb
    replace F3 := F3.ext hb
    replace F5 := F5.ext hb
    clear hb
    generalize w5.alloc (.cells #[.slice A5 (dig D).length c5] 25) = W6 at *
    generalize w5.heap.size = g6 at *
    have hc10 := HX.cell 1 0 rfl rfl
    have hc20 := HX.cell 2 0 rfl rfl
    try simp only [List.getElem_toArray, List.getElem_cons_zero, List.getElem_cons_succ] at hc10 hc20
    go_wp2_with fail
    refine (fmade_any σ A3 A5 _ _ c3 c5 (dig N) (dig D) _ F3 F5 rfl rfl (by omega) (by omega)).mono ?_
    rw [val_dig, val_dig, HQ.out]
    rintro e w7 ⟨A7, c7, B7, d7, rfl, N7, D7, hb⟩
    clear hc10 hc20
    replace HX := HX.ext hb
    replace hm := hm.ext hb
    replace hT := hT.ext hb
    replace F3 := F3.ext hb
    replace F5 := F5.ext hb
    clear hb
    clear F3 F5
    go_upto_region 10 with fail
    have hg8 : w.heap.size < w7.heap.size := HX.lt 0 rfl
    have hb := below_alloc w7 (.cells #[.bool (sg q), .slice A7 (dig (nu q)).length c7, .slice B7 (dig q.den).length d7] 27)
    replace HX := HX.new #[.bool (sg q), .slice A7 (dig (nu q)).length c7, .slice B7 (dig q.den).length d7] 27
    simp only [List.cons_append, List.nil_append] at HX
    replace hT := hT.ext hb
    replace N7 := N7.ext hb
    replace D7 := D7.ext hb
    clear hb
    generalize w7.alloc (.cells #[.bool (sg q), .slice A7 (dig (nu q)).length c7, .slice B7 (dig q.den).length d7] 27) = W8 at *
    generalize w7.heap.size = g8 at *
    rcases KEY.out with ⟨rfl, rfl, rfl, hP⟩ | ⟨hno, hP⟩
    · have HP := Lib.hid hP
      clear hP KEY
      have hc30 := HX.cell 3 0 rfl rfl
      have hc31 := HX.cell 3 1 rfl rfl
      have hc32 := HX.cell 3 2 rfl rfl
      try simp only [List.getElem_toArray, List.getElem_cons_zero, List.getElem_cons_succ] at hc30 hc31 hc32
      go_wp2_with fail
      refine (ftext_any _ (Fr.of N7 D7 hSz) (by omega) hT).mono ?_
      rw [HM.out]
      rintro e w9 ⟨rfl, hb⟩
      clear hc30 hc31 hc32
      replace HX := HX.ext hb
      replace hT := hT.ext hb
      replace N7 := N7.ext hb
      replace D7 := D7.ext hb
      clear hb
      have hself : ((str M).toList == (str M).toList) = true := beq_self_eq_true _
      have hc30 := HX.cell 3 0 rfl rfl
      have hc31 := HX.cell 3 1 rfl rfl
      have hc32 := HX.cell 3 2 rfl rfl
      try simp only [List.getElem_toArray, List.getElem_cons_zero, List.getElem_cons_succ] at hc30 hc31 hc32
      have hc00 := HX.cell 0 0 rfl rfl
      have hf00 := HX.free 0 0 rfl
      have hc01 := HX.cell 0 1 rfl rfl
      have hf01 := HX.free 0 1 rfl
      have hc02 := HX.cell 0 2 rfl rfl
      have hf02 := HX.free 0 2 rfl
      try simp only [List.getElem_toArray, List.getElem_cons_zero, List.getElem_cons_succ] at hc00 hf00 hc01 hf01 hc02 hf02
      go_wp2
      clear hc00 hf00 hc01 hf01 hc02 hf02
      clear hc30 hc31 hc32
      have hk := HX.keep3 0 rfl rfl rfl rfl (by omega) (.bool (sg q)) (.slice A7 (dig (nu q)).length c7) (.slice B7 (dig q.den).length d7)
      replace HX := HX.put3 0 rfl (by omega) (by intro k q hk hne; match k, hk with | 0, hk => (simp at hk; subst hk; simp at hne ⊢; try omega) | 1, hk => (simp at hk; subst hk; simp at hne ⊢; try omega) | 2, hk => (simp at hk; subst hk; simp at hne ⊢; try omega) | 3, hk => (simp at hk; subst hk; simp at hne ⊢; try omega) | k + 4, hk => simp at hk) (.bool (sg q)) (.slice A7 (dig (nu q)).length c7) (.slice B7 (dig q.den).length d7)
      replace N7 := N7.stay hk
      replace D7 := D7.stay hk
      clear hk
      simp only [List.set_cons_zero, List.set_cons_succ] at HX
      have hc00 := HX.cell 0 0 rfl rfl
      have hc01 := HX.cell 0 1 rfl rfl
      have hc02 := HX.cell 0 2 rfl rfl
      try simp only [List.getElem_toArray, List.getElem_cons_zero, List.getElem_cons_succ] at hc00 hc01 hc02
      exact bodyPost_ret (v := .tuple #[.agg #[.bool (sg q), .slice A7 (dig (nu q)).length c7, .slice B7 (dig q.den).length d7], .int .i64 0]) (by simp [results, Tryz.results10, go_sem, hc00, hc01, hc02]) rfl (HP.out _ _ ⟨A7, c7, B7, d7, rfl, ⟨N7, D7, hSz⟩, HX.below⟩)
    · have HP := Lib.hid hP
      clear hP KEY
      rcases hEc.out with rfl | rfl
      · rcases hGc.out with rfl | rfl
        · have hne : ((str M).toList == (str L).toList) = false := by rw [str_toList, str_toList, beq_eq_false_iff_ne]; exact fun h => hno ⟨rfl, rfl, h⟩
          clear hno
          have hc30 := HX.cell 3 0 rfl rfl
          have hc31 := HX.cell 3 1 rfl rfl
          have hc32 := HX.cell 3 2 rfl rfl
          try simp only [List.getElem_toArray, List.getElem_cons_zero, List.getElem_cons_succ] at hc30 hc31 hc32
          go_wp2_with fail
          refine (ftext_any _ (Fr.of N7 D7 hSz) (by omega) hT).mono ?_
          rw [HM.out]
          rintro e w9 ⟨rfl, hb⟩
          clear hc30 hc31 hc32
          replace HX := HX.ext hb
          replace hT := hT.ext hb
          replace N7 := N7.ext hb
          replace D7 := D7.ext hb
          clear hb
          have hc00 := HX.cell 0 0 rfl rfl
          have hf00 := HX.free 0 0 rfl
          have hc01 := HX.cell 0 1 rfl rfl
          have hf01 := HX.free 0 1 rfl
          have hc02 := HX.cell 0 2 rfl rfl
          have hf02 := HX.free 0 2 rfl
          try simp only [List.getElem_toArray, List.getElem_cons_zero, List.getElem_cons_succ] at hc00 hf00 hc01 hf01 hc02 hf02
          go_wp2
          clear hc00 hf00 hc01 hf01 hc02 hf02
          have hk := HX.keep3 0 rfl rfl rfl rfl (by omega) (.bool false) (.slice none 0 0) (.slice none 0 0)
          replace HX := HX.put3 0 rfl (by omega) (by intro k q hk hne; match k, hk with | 0, hk => (simp at hk; subst hk; simp at hne ⊢; try omega) | 1, hk => (simp at hk; subst hk; simp at hne ⊢; try omega) | 2, hk => (simp at hk; subst hk; simp at hne ⊢; try omega) | 3, hk => (simp at hk; subst hk; simp at hne ⊢; try omega) | k + 4, hk => simp at hk) (.bool false) (.slice none 0 0) (.slice none 0 0)
          clear hk
          simp only [List.set_cons_zero, List.set_cons_succ] at HX
          have hc00 := HX.cell 0 0 rfl rfl
          have hc01 := HX.cell 0 1 rfl rfl
          have hc02 := HX.cell 0 2 rfl rfl
          try simp only [List.getElem_toArray, List.getElem_cons_zero, List.getElem_cons_succ] at hc00 hc01 hc02
          exact bodyPost_ret (v := .tuple #[.agg #[.bool false, .slice none 0 0, .slice none 0 0], .int .i64 3]) (by simp [results, Tryz.results10, go_sem, hc00, hc01, hc02]) rfl (HP.out _ _ ⟨rfl, HX.below⟩)
        · clear hno
          have hc00 := HX.cell 0 0 rfl rfl
          have hf00 := HX.free 0 0 rfl
          have hc01 := HX.cell 0 1 rfl rfl
          have hf01 := HX.free 0 1 rfl
          have hc02 := HX.cell 0 2 rfl rfl
          have hf02 := HX.free 0 2 rfl
          try simp only [List.getElem_toArray, List.getElem_cons_zero, List.getElem_cons_succ] at hc00 hf00 hc01 hf01 hc02 hf02
          go_wp2
          clear hc00 hf00 hc01 hf01 hc02 hf02
          have hk := HX.keep3 0 rfl rfl rfl rfl (by omega) (.bool false) (.slice none 0 0) (.slice none 0 0)
          replace HX := HX.put3 0 rfl (by omega) (by intro k q hk hne; match k, hk with | 0, hk => (simp at hk; subst hk; simp at hne ⊢; try omega) | 1, hk => (simp at hk; subst hk; simp at hne ⊢; try omega) | 2, hk => (simp at hk; subst hk; simp at hne ⊢; try omega) | 3, hk => (simp at hk; subst hk; simp at hne ⊢; try omega) | k + 4, hk => simp at hk) (.bool false) (.slice none 0 0) (.slice none 0 0)
          clear hk
          simp only [List.set_cons_zero, List.set_cons_succ] at HX
          have hc00 := HX.cell 0 0 rfl rfl
          have hc01 := HX.cell 0 1 rfl rfl
          have hc02 := HX.cell 0 2 rfl rfl
          try simp only [List.getElem_toArray, List.getElem_cons_zero, List.getElem_cons_succ] at hc00 hc01 hc02
          exact bodyPost_ret (v := .tuple #[.agg #[.bool false, .slice none 0 0, .slice none 0 0], .int .i64 3]) (by simp [results, Tryz.results10, go_sem, hc00, hc01, hc02]) rfl (HP.out _ _ ⟨rfl, HX.below⟩)
      · clear hno
        have hc00 := HX.cell 0 0 rfl rfl
        have hf00 := HX.free 0 0 rfl
        have hc01 := HX.cell 0 1 rfl rfl
        have hf01 := HX.free 0 1 rfl
        have hc02 := HX.cell 0 2 rfl rfl
        have hf02 := HX.free 0 2 rfl
        try simp only [List.getElem_toArray, List.getElem_cons_zero, List.getElem_cons_succ] at hc00 hf00 hc01 hf01 hc02 hf02
        go_wp2
        clear hc00 hf00 hc01 hf01 hc02 hf02
        have hk := HX.keep3 0 rfl rfl rfl rfl (by omega) (.bool false) (.slice none 0 0) (.slice none 0 0)
        replace HX := HX.put3 0 rfl (by omega) (by intro k q hk hne; match k, hk with | 0, hk => (simp at hk; subst hk; simp at hne ⊢; try omega) | 1, hk => (simp at hk; subst hk; simp at hne ⊢; try omega) | 2, hk => (simp at hk; subst hk; simp at hne ⊢; try omega) | 3, hk => (simp at hk; subst hk; simp at hne ⊢; try omega) | k + 4, hk => simp at hk) (.bool false) (.slice none 0 0) (.slice none 0 0)
        clear hk
        simp only [List.set_cons_zero, List.set_cons_succ] at HX
        have hc00 := HX.cell 0 0 rfl rfl
        have hc01 := HX.cell 0 1 rfl rfl
        have hc02 := HX.cell 0 2 rfl rfl
        try simp only [List.getElem_toArray, List.getElem_cons_zero, List.getElem_cons_succ] at hc00 hc01 hc02
        exact bodyPost_ret (v := .tuple #[.agg #[.bool false, .slice none 0 0, .slice none 0 0], .int .i64 3]) (by simp [results, Tryz.results10, go_sem, hc00, hc01, hc02]) rfl (HP.out _ _ ⟨rfl, HX.below⟩)
theorem fparse_any (L : List UInt8) (w : World) (hL : L.length ≤ 9223372036854775807) (hs : L.length ≤ 3000 ∨ 4000 < L.length) (hm : Mx w) (hT : Tab w) :
    Calls Tryz.prog 10 #[.string (str L)] w (RetP w L) := by
  rcases hs with h | h
  · exact fparse_short L w h hm hT
  · exact fparse_long L w hL h
end Go.Proofs.YtajddhkepbnilaaGreatDoor
