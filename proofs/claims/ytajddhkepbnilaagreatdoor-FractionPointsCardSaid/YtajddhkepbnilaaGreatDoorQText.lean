/- The text of a number: the reference. -/
import Derived.Test.YtajddhkepbnilaaGreatDoorROps0
import Derived.Test.YtajddhkepbnilaaGreatDoorRText
import Derived.Test.YtajddhkepbnilaaGreatDoorFrac7
namespace Go.Proofs.YtajddhkepbnilaaGreatDoor
open Go.RowKit Go.Proofs Go

set_option maxHeartbeats 1000000 in
set_option maxRecDepth 100000 in
theorem qtext_any {s : Bool} {A B : Option Addr} {n c m d : Nat} {q : Rat} {k0 : Nat} (w : World) (h : Fr w s A n c B m d q k0) (hk0 : k0 ≤ 1000000) :
    Calls Tryz.prog 15 #[.agg #[.bool s, .slice A n c, .slice B m d]] w fun e w' => e = .returned (.string (str (fracText q))) ∧ Below w.heap.size w w' := by
  have hsz := h.sz
  obtain ⟨N, hN⟩ : ∃ N, nu q = N := ⟨_, rfl⟩
  obtain ⟨D, hD⟩ : ∃ D, q.den = D := ⟨_, rfl⟩
  obtain ⟨σ, hs⟩ : ∃ σ, sg q = σ := ⟨_, rfl⟩
  have hft : fracText q = (if σ then [45] else []) ++ Lib.decDigits N ++ (if D = 1 then [] else 47 :: Lib.decDigits D) := by rw [fracText, hD, hN, hs]
  have HFT := Lib.hid hft
  have hlN : (dig N).length ≤ k0 + 1 := hN ▸ hsz.1
  have hlD : (dig D).length ≤ k0 + 1 := hD ▸ hsz.2
  have hl1 : (dig 1).length ≤ 1 := dig_len_le (by decide)
  have hnN := nDigits_dig hlN
  have hnD := nDigits_dig hlD
  have hsN : (str (Lib.decDigits N)).size ≤ 1300000000 := by rw [str_size, Lib.decDigits_length]; omega
  have hsD : (str (Lib.decDigits D)).size ≤ 1300000000 := by rw [str_size, Lib.decDigits_length]; omega
  have h47 := Lib.hid (show (⟨#[47]⟩ : ByteArray) ++ str (Lib.decDigits D) = str (47 :: Lib.decDigits D) from str_append [47] _)
  have HN := Lib.hid hN
  have HD := Lib.hid hD
  have HS := Lib.hid hs
  clear hN hD hs hft
  go_enter Tryz.func15, Tryz.ntmps15
  go_wp2_with fail
  have HX := BL.one w #[.bool s, .slice A n c, .slice B m d] 27
  have hc00 := HX.cell 0 0 rfl rfl
  have hc01 := HX.cell 0 1 rfl rfl
  have hc02 := HX.cell 0 2 rfl rfl
  try simp only [List.getElem_toArray, List.getElem_cons_zero, List.getElem_cons_succ] at hc00 hc01 hc02
  refine (qnorm_s hsz (h.ext HX.below) (by omega)).mono ?_
  rintro e w1 ⟨A1, c1, B1, d1, rfl, F1, hb⟩
  have LN := F1.num
  have LD := F1.den
  rw [HN.out] at LN
  rw [HD.out] at LD
  rw [HN.out, HD.out, HS.out]
  clear hc00 hc01 hc02
  replace HX := HX.ext hb
  clear hb h F1
  have hc00 := HX.cell 0 0 rfl rfl
  have hf00 := HX.free 0 0 rfl
  have hc01 := HX.cell 0 1 rfl rfl
  have hf01 := HX.free 0 1 rfl
  have hc02 := HX.cell 0 2 rfl rfl
  have hf02 := HX.free 0 2 rfl
  try simp only [List.getElem_toArray, List.getElem_cons_zero, List.getElem_cons_succ] at hc00 hf00 hc01 hf01 hc02 hf02
  go_upto_region 2 with fail
  clear hc00 hf00 hc01 hf01 hc02 hf02
  have hk := HX.keep3 0 rfl rfl rfl rfl (by omega) (.bool σ) (.slice A1 (dig N).length c1) (.slice B1 (dig D).length d1)
  replace HX := HX.put3 0 rfl (by omega) (by intro k q hk hne; match k, hk with | 0, hk => (simp at hk; subst hk; simp at hne ⊢; try omega) | k + 1, hk => simp at hk) (.bool σ) (.slice A1 (dig N).length c1) (.slice B1 (dig D).length d1)
  replace LN := LN.stay hk
  replace LD := LD.stay hk
  clear hk
  simp only [List.set_cons_zero, List.set_cons_succ] at HX
  generalize ((w1.setCell ⟨w.heap.size, 0, none⟩ (.bool σ)).setCell ⟨w.heap.size, 1, none⟩ (.slice A1 (dig N).length c1)).setCell ⟨w.heap.size, 2, none⟩ (.slice B1 (dig D).length d1) = W2 at *
  have hc00 := HX.cell 0 0 rfl rfl
  have hc01 := HX.cell 0 1 rfl rfl
  have hc02 := HX.cell 0 2 rfl rfl
  try simp only [List.getElem_toArray, List.getElem_cons_zero, List.getElem_cons_succ] at hc00 hc01 hc02
  go_wp2_with fail
  refine (rtext_any A1 _ c1 (dig N) _ LN rfl (by omega)).mono ?_
  rw [val_dig]
  rintro e w3 ⟨rfl, hb⟩
  clear hc00 hc01 hc02
  replace HX := HX.ext hb
  replace LN := LN.ext hb
  replace LD := LD.ext hb
  clear hb
  go_wp2_with fail
  have held : ∀ {W' : World}, BL w W' [(w.heap.size, #[.bool σ, .slice A1 (dig N).length c1, .slice B1 (dig D).length d1], 27)] → W'.cell? ⟨w.heap.size, 0, none⟩ = some (.bool σ) ∧ W'.cell? ⟨w.heap.size, 1, none⟩ = some (.slice A1 (dig N).length c1) ∧ W'.cell? ⟨w.heap.size, 2, none⟩ = some (.slice B1 (dig D).length d1) := fun h => ⟨h.cell 0 0 rfl rfl, h.cell 0 1 rfl rfl, h.cell 0 2 rfl rfl⟩
  replace HX := HX.ext (drew_ext _)
  replace LN := LN.ext (drew_ext _)
  replace LD := LD.ext (drew_ext _)
  go_region_held3 (fun W' => W'.cell? ⟨w.heap.size, 0, none⟩ = some (.bool σ) ∧ W'.cell? ⟨w.heap.size, 1, none⟩ = some (.slice A1 (dig N).length c1) ∧ W'.cell? ⟨w.heap.size, 2, none⟩ = some (.slice B1 (dig D).length d1))
    (exact held HX)
    (first
      | (go_at_call 49; refine (qone_any _).mono ?_; rintro e w4 ⟨A4, c4, rfl, L4, hb⟩; replace HX := HX.ext hb; replace LN := LN.ext hb; replace LD := LD.ext hb; clear hb)
      | (go_at_call 48; refine (rcmp_any B1 A4 _ _ d1 c4 (dig D) (dig 1) _ LD L4 rfl rfl (by omega) (by omega)).mono ?_; rw [val_dig, val_dig]; rintro e w5 ⟨rfl, hb⟩; replace HX := HX.ext hb; replace LN := LN.ext hb; replace LD := LD.ext hb; clear hb))
  clear held
  by_cases h1 : D = 1
  · have hfin := Lib.hid (show fracText q = (if σ then [45] else []) ++ Lib.decDigits N ++ [] by rw [HFT.out, if_pos h1])
    have hc : (cmpI D 1 != 0) = false := by rw [h1, cmpI_eq rfl]; rfl
    rw [hc]
    clear h1 hc
    have hc00 := HX.cell 0 0 rfl rfl
    have hc01 := HX.cell 0 1 rfl rfl
    have hc02 := HX.cell 0 2 rfl rfl
    try simp only [List.getElem_toArray, List.getElem_cons_zero, List.getElem_cons_succ] at hc00 hc01 hc02
    cases σ
    · go_wp2
      go_ret
      exact ⟨ret_of (by rw [hfin.out]; simp), HX.below⟩
    · go_wp2
      go_ret
      exact ⟨ret_of (by rw [hfin.out, show (⟨#[45]⟩ : ByteArray) ++ str (Lib.decDigits N) = str (45 :: (Lib.decDigits N)) from str_append [45] _]; simp), HX.below⟩
  · have hfin := Lib.hid (show fracText q = (if σ then [45] else []) ++ Lib.decDigits N ++ 47 :: Lib.decDigits D by rw [HFT.out, if_neg h1])
    have hc : (cmpI D 1 != 0) = true := by
      rcases Nat.lt_or_gt_of_ne h1 with h | h
      · rw [cmpI_lt h]; rfl
      · rw [cmpI_gt h]; rfl
    rw [hc]
    clear h1 hc
    have hc00 := HX.cell 0 0 rfl rfl
    have hc01 := HX.cell 0 1 rfl rfl
    have hc02 := HX.cell 0 2 rfl rfl
    try simp only [List.getElem_toArray, List.getElem_cons_zero, List.getElem_cons_succ] at hc00 hc01 hc02
    go_wp2_with fail
    refine (rtext_any B1 _ d1 (dig D) _ LD rfl (by omega)).mono ?_
    rw [val_dig]
    rintro e w6 ⟨rfl, hb⟩
    clear hc00 hc01 hc02
    replace HX := HX.ext hb
    replace LN := LN.ext hb
    replace LD := LD.ext hb
    clear hb
    have hc00 := HX.cell 0 0 rfl rfl
    have hc01 := HX.cell 0 1 rfl rfl
    have hc02 := HX.cell 0 2 rfl rfl
    try simp only [List.getElem_toArray, List.getElem_cons_zero, List.getElem_cons_succ] at hc00 hc01 hc02
    cases σ
    · go_wp2
      go_ret
      exact ⟨ret_of (by rw [hfin.out, h47.out, str_append]; simp), HX.below⟩
    · go_wp2
      go_ret
      exact ⟨ret_of (by rw [hfin.out, h47.out, str_append, show (⟨#[45]⟩ : ByteArray) ++ str (Lib.decDigits N ++ 47 :: Lib.decDigits D) = str (45 :: (Lib.decDigits N ++ 47 :: Lib.decDigits D)) from str_append [45] _]; simp), HX.below⟩
end Go.Proofs.YtajddhkepbnilaaGreatDoor
