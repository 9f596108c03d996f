/- The text of a number, read: the reference. -/
import Derived.Test.YtajddhkepbnilaaGreatDoorSCut
import Derived.Test.YtajddhkepbnilaaGreatDoorQText
import Derived.Test.YtajddhkepbnilaaGreatDoorRParse
import Derived.Deep.QuietTactic
import Derived.BigQuiet
namespace Go.Proofs.YtajddhkepbnilaaGreatDoor
open Go.RowKit Go.Proofs Go

theorem rparse_e {L : List UInt8} {N : Nat} {E : Int} (w : World) (h : Hid (parseV L = N ∧ parseE L = E)) (hl : L.length ≤ 1000000000) :
    Calls Tryz.prog 41 #[.string (str L)] w (RetNE w N E) := by
  obtain ⟨rfl, rfl⟩ := h.out
  exact rparse_any L w (by omega)

set_option maxHeartbeats 1000000 in
set_option maxRecDepth 100000 in
theorem qparse_long (L : List UInt8) (w : World) (hL : L.length ≤ 9223372036854775807) (h1 : 4000 < L.length) :
    Calls Tryz.prog 11 #[.string (str L)] w (RetP w L) := by
  have hsz : (str L).size = L.length := str_size L
  have HP := Lib.hid (show ∀ e w', RetZE w 6 e w' → RetP w L e w' from fun e w' h => by rw [RetP, if_pos h1]; exact h)
  go_enter Tryz.func11, Tryz.ntmps11
  have HX := BL.one w #[.bool false, .slice none 0 0, .slice none 0 0] 27
  have hc00 := HX.cell 0 0 rfl rfl
  have hf00 := HX.free 0 0 rfl
  have hc01 := HX.cell 0 1 rfl rfl
  have hf01 := HX.free 0 1 rfl
  have hc02 := HX.cell 0 2 rfl rfl
  have hf02 := HX.free 0 2 rfl
  try simp only [List.getElem_toArray, List.getElem_cons_zero, List.getElem_cons_succ] at hc00 hf00 hc01 hf01 hc02 hf02
  go_wp2
  clear hc00 hf00 hc01 hf01 hc02 hf02
  have hc00 := HX.cell 0 0 rfl rfl
  have hc01 := HX.cell 0 1 rfl rfl
  have hc02 := HX.cell 0 2 rfl rfl
  try simp only [List.getElem_toArray, List.getElem_cons_zero, List.getElem_cons_succ] at hc00 hc01 hc02
  exact bodyPost_ret (v := .tuple #[.agg #[.bool false, .slice none 0 0, .slice none 0 0], .int .i64 6]) (by simp [results, Tryz.results11, go_sem, hc00, hc01, hc02]) rfl (HP.out _ _ ⟨rfl, HX.below⟩)

set_option maxHeartbeats 4000000 in
set_option maxRecDepth 100000 in
theorem qparse_short (L : List UInt8) (w : World) (hL : L.length ≤ 3000) :
    Calls Tryz.prog 11 #[.string (str L)] w (RetP w L) := by
  have hsz : (str L).size = L.length := str_size L
  have hl1 := fnum_len L
  have hl2 := fden_len L
  obtain ⟨N, hN⟩ : ∃ N, parseV (fnum L) = N := ⟨_, rfl⟩
  obtain ⟨E, hE⟩ : ∃ E, parseE (fnum L) = E := ⟨_, rfl⟩
  obtain ⟨D, hD⟩ : ∃ D, parseV (fden L) = D := ⟨_, rfl⟩
  obtain ⟨G, hG⟩ : ∃ G, parseE (fden L) = G := ⟨_, rfl⟩
  obtain ⟨q, hq⟩ : ∃ q, rv (fneg L) N D = q := ⟨_, rfl⟩
  obtain ⟨M, hM⟩ : ∃ M, fracText q = M := ⟨_, rfl⟩
  have hzN : (dig N).length ≤ 500 := hN ▸ dig_parseV _
  have hzD : (dig D).length ≤ 500 := hD ▸ dig_parseV _
  have hSz : Sz q 500 := hq ▸ Sz.of_rv hzN hzD (by omega)
  have hok : fok L = true ↔ E = 0 ∧ G = 0 ∧ ¬ D = 0 ∧ M = L := by
    refine ⟨fun h => ?_, fun h => ?_⟩
    · have h2 := (fok_iff hL).1 h
      rw [hN, hE, hD, hG, hq, hM] at h2
      refine ⟨h2.1, h2.2.1, ?_, h2.2.2⟩
      have h3 := fok_den h
      rw [← hD, parseV, if_pos ⟨by omega, (fok_num h).2.1⟩]
      omega
    · refine (fok_iff hL).2 ?_
      rw [hN, hE, hD, hG, hq, hM]
      exact ⟨h.1, h.2.1, h.2.2.2⟩
  have hfq : fok L = true → fq L = q := fun h => by rw [fq_of hL h, hN, hD, hq]
  have hEc : Hid (E = 0 ∨ E = 3) := Lib.hid (hE ▸ parseE_cases (by omega))
  have hGc : Hid (G = 0 ∨ G = 3) := Lib.hid (hG ▸ parseE_cases (by omega))
  have HM := Lib.hid hM
  have HC : Hid (∀ R σ P S f, frest L = R → fneg L = σ → cutAt 47 R = (P, S, f) → ((parseV P = N ∧ parseE P = E) ∧ P.length ≤ 3000) ∧ ((parseV (if f then S else [49]) = D ∧ parseE (if f then S else [49]) = G) ∧ (if f then S else [49]).length ≤ 3001) ∧ rv σ N D = q) := Lib.hid (fun R σ P S f h1 h2 h3 => by
    have e1 : fnum L = P := by rw [fnum, h1, h3]
    have e2 : fden L = if f then S else [49] := by rw [fden, h1, h3]
    exact ⟨⟨⟨by rw [← e1, hN], by rw [← e1, hE]⟩, by rw [← e1]; omega⟩, ⟨⟨by rw [← e2, hD], by rw [← e2, hG]⟩, by rw [← e2]; omega⟩, by rw [← h2, hq]⟩)
  have KEY : Hid ((E = 0 ∧ G = 0 ∧ ¬ D = 0 ∧ M = L ∧ ∀ e w', RetGE w q 500 e w' → RetP w L e w') ∨ (¬ (E = 0 ∧ G = 0 ∧ ¬ D = 0 ∧ M = L) ∧ ∀ e w', RetZE w 3 e w' → RetP w L e w')) := by
    refine Lib.hid ?_
    by_cases h : fok L = true
    · have h2 := hok.1 h
      exact .inl ⟨h2.1, h2.2.1, h2.2.2.1, h2.2.2.2, fun e w' h3 => by rw [RetP, if_neg (by omega), if_pos h, hfq h]; exact h3⟩
    · exact .inr ⟨fun h2 => h (hok.2 h2), fun e w' h3 => by rw [RetP, if_neg (by omega), if_neg h]; exact h3⟩
  have HS := Lib.hid (show (fneg L = true ∧ frest L = L.tail) ∨ (fneg L = false ∧ frest L = L) from by
    cases h : fneg L with
    | true => exact .inl ⟨rfl, by rw [frest, h]; rfl⟩
    | false => exact .inr ⟨rfl, by rw [frest, h]; rfl⟩)
  have hW := below_alloc w (.cells #[.bool false, .slice none 0 0, .slice none 0 0] 27)
  clear hok hfq hN hE hD hG hq hM hl1 hl2
  have HX := BL.one w #[.bool false, .slice none 0 0, .slice none 0 0] 27
  rcases HS.out with ⟨hfs, hfr⟩ | ⟨hfs, hfr⟩
  · have hp : 0 < L.length := by
      cases L with
      | nil => simp [fneg] at hfs
      | cons b l => simp
    have h0 : L[0]'hp = 45 := by
      rw [fneg, List.head?_eq_getElem?, List.getElem?_eq_getElem hp] at hfs
      simpa using hfs
    have hix : ∀ h, (str L)[0]'h = L[0]'hp := fun _ => rfl
    have hb45 : ((((L[0]'hp).toNat : Nat) : Int) == 45) = true := by rw [h0]; rfl
    have hx : (str L).extract 1 L.length = str L.tail := by rw [str_drop, List.drop_one]
    have hszR : (str L.tail).size = L.tail.length := str_size _
    have hlR : L.tail.length ≤ 3000 := by rw [List.length_tail]; omega
    generalize L[0]'hp = b0 at *
    clear h0
    generalize L.tail = R at *
    go_enter Tryz.func11, Tryz.ntmps11
    go_wp2
    go_loopg [6, 7, 8] R.length (fun k y z x wr => ∃ j : Nat, j + k = R.length ∧ Hid (47 ∉ (R).take j) ∧ y = .string (str (R)) ∧ z = .string ⟨#[49]⟩ ∧ x = .int .i64 (j : Int) ∧ wr = w.alloc (.cells #[.bool false, .slice none 0 0, .slice none 0 0] 27))
    case atStart => exact ⟨0, by omega, Lib.hid (by simp), rfl, rfl, rfl, rfl⟩
    case round =>
      obtain ⟨j, hj, hno, rfl, rfl, rfl, rfl⟩ := hrel
      by_cases hj0 : j < R.length
      · have hix : ∀ h', (str (R))[j]'h' = (R)[j]'hj0 := fun _ => rfl
        by_cases hd : (R)[j]'hj0 = 47
        · have hcut : cutAt 47 (R) = ((R).take j, (R).drop (j + 1), true) := by
            have e : (R).take j ++ 47 :: (R).drop (j + 1) = R := by rw [← hd, List.getElem_cons_drop, List.take_append_drop]
            have h := cutAt_some (r := (R).drop (j + 1)) hno.out
            rwa [e] at h
          obtain ⟨⟨hN, hlN⟩, ⟨hD, hlD⟩, hQ⟩ := HC.out _ true _ _ _ hfr hfs hcut
          simp only [if_true] at hD hlD
          have HN := Lib.hid hN
          have HD := Lib.hid hD
          have HQ := Lib.hid hQ
          clear hN hD hQ hcut hno
          have hb47 : ((((R)[j]'hj0).toNat : Int) == 47) = true := by rw [hd]; rfl
          have hx1 : (str (R)).extract 0 j = str ((R).take j) := str_take _ _
          have hx2 : (str (R)).extract (j + 1) (R).length = str ((R).drop (j + 1)) := str_drop _ _
          generalize (R)[j]'hj0 = b at *
          clear hd
          go_upto_region 11 with fail
          go_quiet (fail)
          replace HX := HX.ext (drew_below (Below.refl _ _) nq)
          generalize (R).take j = P at *
          generalize (R).drop (j + 1) = S at *
          go_wp2_with fail
          refine (rparse_e (L := P) _ HN (by omega)).mono ?_
          rintro e w3 ⟨A3, c3, rfl, F3, hb⟩
          replace HX := HX.ext hb
          clear hb
          go_upto_region 13 with fail
          have hg4 : w.heap.size < w3.heap.size := HX.lt 0 rfl
          have hb := below_alloc w3 (.cells #[.slice A3 (dig N).length c3] 25)
          replace HX := HX.new #[.slice A3 (dig N).length c3] 25
          simp only [List.cons_append, List.nil_append] at HX
          replace F3 := F3.ext hb
          clear hb
          generalize w3.alloc (.cells #[.slice A3 (dig N).length c3] 25) = W4 at *
          generalize w3.heap.size = g4 at *
          go_wp2_with fail
          refine (rparse_e (L := S) _ HD (by omega)).mono ?_
          rintro e w5 ⟨A5, c5, rfl, F5, hb⟩
          replace HX := HX.ext hb
          replace F3 := F3.ext hb
          clear hb
          go_upto_region 14 with fail
          have hg6 : w.heap.size < w5.heap.size := HX.lt 0 rfl
          have hb := below_alloc w5 (.cells #[.slice A5 (dig D).length c5] 25)
          replace HX := HX.new #[.slice A5 (dig D).length c5] 25
          simp only [List.cons_append, List.nil_append] at HX
          replace F3 := F3.ext hb
          replace F5 := F5.ext hb
          clear hb
          generalize w5.alloc (.cells #[.slice A5 (dig D).length c5] 25) = W6 at *
          generalize w5.heap.size = g6 at *
          rcases hEc.out with rfl | rfl
          · rcases hGc.out with rfl | rfl
            · have hc20 := HX.cell 2 0 rfl rfl
              try simp only [List.getElem_toArray, List.getElem_cons_zero, List.getElem_cons_succ] at hc20
              go_wp2_with fail
              refine (qzero_any A5 _ c5 (dig D) _ F5 rfl (by omega)).mono ?_
              rw [val_dig]
              rintro e w6 ⟨rfl, hb⟩
              clear hc20
              replace HX := HX.ext hb
              replace F3 := F3.ext hb
              replace F5 := F5.ext hb
              clear hb
              by_cases hD0 : D = 0
              · rw [decide_eq_true hD0]
                have HP : Hid (∀ e w', RetZE w 3 e w' → RetP w L e w') := Lib.hid (by
                  rcases KEY.out with h | h
                  · exact absurd hD0 h.2.2.1
                  · exact h.2)
                clear KEY HC HS
                have hc00 := HX.cell 0 0 rfl rfl
                have hf00 := HX.free 0 0 rfl
                have hc01 := HX.cell 0 1 rfl rfl
                have hf01 := HX.free 0 1 rfl
                have hc02 := HX.cell 0 2 rfl rfl
                have hf02 := HX.free 0 2 rfl
                try simp only [List.getElem_toArray, List.getElem_cons_zero, List.getElem_cons_succ] at hc00 hf00 hc01 hf01 hc02 hf02
                go_wp2
                clear hc00 hf00 hc01 hf01 hc02 hf02
                have hk := HX.keep3 0 rfl rfl rfl rfl (by omega) (.bool false) (.slice none 0 0) (.slice none 0 0)
                replace HX := HX.put3 0 rfl (by omega) (by intro k q hk hne; match k, hk with | 0, hk => (simp at hk; subst hk; simp at hne ⊢; try omega) | 1, hk => (simp at hk; subst hk; simp at hne ⊢; try omega) | 2, hk => (simp at hk; subst hk; simp at hne ⊢; try omega) | k + 3, hk => simp at hk) (.bool false) (.slice none 0 0) (.slice none 0 0)
                clear hk
                simp only [List.set_cons_zero, List.set_cons_succ] at HX
                have hc00 := HX.cell 0 0 rfl rfl
                have hc01 := HX.cell 0 1 rfl rfl
                have hc02 := HX.cell 0 2 rfl rfl
                try simp only [List.getElem_toArray, List.getElem_cons_zero, List.getElem_cons_succ] at hc00 hc01 hc02
                exact bodyPost_ret (v := .tuple #[.agg #[.bool false, .slice none 0 0, .slice none 0 0], .int .i64 3]) (by simp [results, Tryz.results11, go_sem, hc00, hc01, hc02]) rfl (HP.out _ _ ⟨rfl, HX.below⟩)
              · rw [decide_eq_false hD0]
                have hc10 := HX.cell 1 0 rfl rfl
                have hc20 := HX.cell 2 0 rfl rfl
                try simp only [List.getElem_toArray, List.getElem_cons_zero, List.getElem_cons_succ] at hc10 hc20
                go_wp2_with fail
                refine (qmade_any true A3 A5 _ _ c3 c5 (dig N) (dig D) _ F3 F5 rfl rfl (by omega) (by omega)).mono ?_
                rw [val_dig, val_dig, HQ.out]
                rintro e w7 ⟨A7, c7, B7, d7, rfl, N7, D7, hb⟩
                clear hc10 hc20
                replace HX := HX.ext hb
                replace F3 := F3.ext hb
                replace F5 := F5.ext hb
                clear hb
                clear F3 F5
                go_upto_region 17 with fail
                have hg8 : w.heap.size < w7.heap.size := HX.lt 0 rfl
                have hb := below_alloc w7 (.cells #[.bool (sg q), .slice A7 (dig (nu q)).length c7, .slice B7 (dig q.den).length d7] 27)
                replace HX := HX.new #[.bool (sg q), .slice A7 (dig (nu q)).length c7, .slice B7 (dig q.den).length d7] 27
                simp only [List.cons_append, List.nil_append] at HX
                replace N7 := N7.ext hb
                replace D7 := D7.ext hb
                clear hb
                generalize w7.alloc (.cells #[.bool (sg q), .slice A7 (dig (nu q)).length c7, .slice B7 (dig q.den).length d7] 27) = W8 at *
                generalize w7.heap.size = g8 at *
                have hc30 := HX.cell 3 0 rfl rfl
                have hc31 := HX.cell 3 1 rfl rfl
                have hc32 := HX.cell 3 2 rfl rfl
                try simp only [List.getElem_toArray, List.getElem_cons_zero, List.getElem_cons_succ] at hc30 hc31 hc32
                go_wp2_with fail
                refine (qtext_any _ (Fr.of N7 D7 hSz) (by omega)).mono ?_
                rw [HM.out]
                rintro e w9 ⟨rfl, hb⟩
                clear hc30 hc31 hc32
                replace HX := HX.ext hb
                replace N7 := N7.ext hb
                replace D7 := D7.ext hb
                clear hb
                rcases KEY.out with ⟨_, _, _, hML, hP⟩ | ⟨hno, hP⟩
                · have HP := Lib.hid hP
                  have hself : ((str M).toList == (str L).toList) = true := by rw [hML]; exact beq_self_eq_true _
                  clear hP KEY HC HS hML
                  have hc30 := HX.cell 3 0 rfl rfl
                  have hc31 := HX.cell 3 1 rfl rfl
                  have hc32 := HX.cell 3 2 rfl rfl
                  try simp only [List.getElem_toArray, List.getElem_cons_zero, List.getElem_cons_succ] at hc30 hc31 hc32
                  have hc00 := HX.cell 0 0 rfl rfl
                  have hf00 := HX.free 0 0 rfl
                  have hc01 := HX.cell 0 1 rfl rfl
                  have hf01 := HX.free 0 1 rfl
                  have hc02 := HX.cell 0 2 rfl rfl
                  have hf02 := HX.free 0 2 rfl
                  try simp only [List.getElem_toArray, List.getElem_cons_zero, List.getElem_cons_succ] at hc00 hf00 hc01 hf01 hc02 hf02
                  go_wp2
                  clear hc00 hf00 hc01 hf01 hc02 hf02
                  clear hc30 hc31 hc32
                  have hk := HX.keep3 0 rfl rfl rfl rfl (by omega) (.bool (sg q)) (.slice A7 (dig (nu q)).length c7) (.slice B7 (dig q.den).length d7)
                  replace HX := HX.put3 0 rfl (by omega) (by intro k q hk hne; match k, hk with | 0, hk => (simp at hk; subst hk; simp at hne ⊢; try omega) | 1, hk => (simp at hk; subst hk; simp at hne ⊢; try omega) | 2, hk => (simp at hk; subst hk; simp at hne ⊢; try omega) | 3, hk => (simp at hk; subst hk; simp at hne ⊢; try omega) | k + 4, hk => simp at hk) (.bool (sg q)) (.slice A7 (dig (nu q)).length c7) (.slice B7 (dig q.den).length d7)
                  replace N7 := N7.stay hk
                  replace D7 := D7.stay hk
                  clear hk
                  simp only [List.set_cons_zero, List.set_cons_succ] at HX
                  have hc00 := HX.cell 0 0 rfl rfl
                  have hc01 := HX.cell 0 1 rfl rfl
                  have hc02 := HX.cell 0 2 rfl rfl
                  try simp only [List.getElem_toArray, List.getElem_cons_zero, List.getElem_cons_succ] at hc00 hc01 hc02
                  exact bodyPost_ret (v := .tuple #[.agg #[.bool (sg q), .slice A7 (dig (nu q)).length c7, .slice B7 (dig q.den).length d7], .int .i64 0]) (by simp [results, Tryz.results11, go_sem, hc00, hc01, hc02]) rfl (HP.out _ _ ⟨A7, c7, B7, d7, rfl, ⟨N7, D7, hSz⟩, HX.below⟩)
                · have HP := Lib.hid hP
                  have hne : ((str M).toList == (str L).toList) = false := by rw [str_toList, str_toList, beq_eq_false_iff_ne]; exact fun h => hno ⟨by first | rfl | trivial, by first | rfl | trivial, by first | exact hD0 | trivial, h⟩
                  clear hP KEY HC HS hno
                  have hc00 := HX.cell 0 0 rfl rfl
                  have hf00 := HX.free 0 0 rfl
                  have hc01 := HX.cell 0 1 rfl rfl
                  have hf01 := HX.free 0 1 rfl
                  have hc02 := HX.cell 0 2 rfl rfl
                  have hf02 := HX.free 0 2 rfl
                  try simp only [List.getElem_toArray, List.getElem_cons_zero, List.getElem_cons_succ] at hc00 hf00 hc01 hf01 hc02 hf02
                  go_wp2
                  clear hc00 hf00 hc01 hf01 hc02 hf02
                  have hk := HX.keep3 0 rfl rfl rfl rfl (by omega) (.bool false) (.slice none 0 0) (.slice none 0 0)
                  replace HX := HX.put3 0 rfl (by omega) (by intro k q hk hne; match k, hk with | 0, hk => (simp at hk; subst hk; simp at hne ⊢; try omega) | 1, hk => (simp at hk; subst hk; simp at hne ⊢; try omega) | 2, hk => (simp at hk; subst hk; simp at hne ⊢; try omega) | 3, hk => (simp at hk; subst hk; simp at hne ⊢; try omega) | k + 4, hk => simp at hk) (.bool false) (.slice none 0 0) (.slice none 0 0)
                  clear hk
                  simp only [List.set_cons_zero, List.set_cons_succ] at HX
                  have hc00 := HX.cell 0 0 rfl rfl
                  have hc01 := HX.cell 0 1 rfl rfl
                  have hc02 := HX.cell 0 2 rfl rfl
                  try simp only [List.getElem_toArray, List.getElem_cons_zero, List.getElem_cons_succ] at hc00 hc01 hc02
                  exact bodyPost_ret (v := .tuple #[.agg #[.bool false, .slice none 0 0, .slice none 0 0], .int .i64 3]) (by simp [results, Tryz.results11, go_sem, hc00, hc01, hc02]) rfl (HP.out _ _ ⟨rfl, HX.below⟩)
            · have HP : Hid (∀ e w', RetZE w 3 e w' → RetP w L e w') := Lib.hid (by
                rcases KEY.out with h | h
                · exact absurd h.2.1 (by decide)
                · exact h.2)
              clear KEY HC HS
              have hc00 := HX.cell 0 0 rfl rfl
              have hf00 := HX.free 0 0 rfl
              have hc01 := HX.cell 0 1 rfl rfl
              have hf01 := HX.free 0 1 rfl
              have hc02 := HX.cell 0 2 rfl rfl
              have hf02 := HX.free 0 2 rfl
              try simp only [List.getElem_toArray, List.getElem_cons_zero, List.getElem_cons_succ] at hc00 hf00 hc01 hf01 hc02 hf02
              go_wp2
              clear hc00 hf00 hc01 hf01 hc02 hf02
              have hk := HX.keep3 0 rfl rfl rfl rfl (by omega) (.bool false) (.slice none 0 0) (.slice none 0 0)
              replace HX := HX.put3 0 rfl (by omega) (by intro k q hk hne; match k, hk with | 0, hk => (simp at hk; subst hk; simp at hne ⊢; try omega) | 1, hk => (simp at hk; subst hk; simp at hne ⊢; try omega) | 2, hk => (simp at hk; subst hk; simp at hne ⊢; try omega) | k + 3, hk => simp at hk) (.bool false) (.slice none 0 0) (.slice none 0 0)
              clear hk
              simp only [List.set_cons_zero, List.set_cons_succ] at HX
              have hc00 := HX.cell 0 0 rfl rfl
              have hc01 := HX.cell 0 1 rfl rfl
              have hc02 := HX.cell 0 2 rfl rfl
              try simp only [List.getElem_toArray, List.getElem_cons_zero, List.getElem_cons_succ] at hc00 hc01 hc02
              exact bodyPost_ret (v := .tuple #[.agg #[.bool false, .slice none 0 0, .slice none 0 0], .int .i64 3]) (by simp [results, Tryz.results11, go_sem, hc00, hc01, hc02]) rfl (HP.out _ _ ⟨rfl, HX.below⟩)
          · have HP : Hid (∀ e w', RetZE w 3 e w' → RetP w L e w') := Lib.hid (by
              rcases KEY.out with h | h
              · exact absurd h.1 (by decide)
              · exact h.2)
            clear KEY HC HS
            have hc00 := HX.cell 0 0 rfl rfl
            have hf00 := HX.free 0 0 rfl
            have hc01 := HX.cell 0 1 rfl rfl
            have hf01 := HX.free 0 1 rfl
            have hc02 := HX.cell 0 2 rfl rfl
            have hf02 := HX.free 0 2 rfl
            try simp only [List.getElem_toArray, List.getElem_cons_zero, List.getElem_cons_succ] at hc00 hf00 hc01 hf01 hc02 hf02
            go_wp2
            clear hc00 hf00 hc01 hf01 hc02 hf02
            have hk := HX.keep3 0 rfl rfl rfl rfl (by omega) (.bool false) (.slice none 0 0) (.slice none 0 0)
            replace HX := HX.put3 0 rfl (by omega) (by intro k q hk hne; match k, hk with | 0, hk => (simp at hk; subst hk; simp at hne ⊢; try omega) | 1, hk => (simp at hk; subst hk; simp at hne ⊢; try omega) | 2, hk => (simp at hk; subst hk; simp at hne ⊢; try omega) | k + 3, hk => simp at hk) (.bool false) (.slice none 0 0) (.slice none 0 0)
            clear hk
            simp only [List.set_cons_zero, List.set_cons_succ] at HX
            have hc00 := HX.cell 0 0 rfl rfl
            have hc01 := HX.cell 0 1 rfl rfl
            have hc02 := HX.cell 0 2 rfl rfl
            try simp only [List.getElem_toArray, List.getElem_cons_zero, List.getElem_cons_succ] at hc00 hc01 hc02
            exact bodyPost_ret (v := .tuple #[.agg #[.bool false, .slice none 0 0, .slice none 0 0], .int .i64 3]) (by simp [results, Tryz.results11, go_sem, hc00, hc01, hc02]) rfl (HP.out _ _ ⟨rfl, HX.below⟩)
        · have hs : Hid (47 ∉ (R).take (j + 1)) := Lib.hid (by
            rw [List.take_succ_eq_append_getElem hj0, List.mem_append]
            rintro (h | h)
            · exact hno.out h
            · simp at h; exact hd h.symm)
          have hb47 : ((((R)[j]'hj0).toNat : Int) == 47) = false := by
            rw [beq_eq_false_iff_ne]
            intro h
            refine hd (UInt8.toNat_inj.1 ?_)
            have : (47 : UInt8).toNat = 47 := rfl
            omega
          generalize (R)[j]'hj0 = b at *
          go_wp2
          go_roundg (R.length - (j + 1))
          case measure => omega
          case rel => exact ⟨j + 1, by omega, hs, by first | rfl | trivial, by first | rfl | trivial, by go_num, by first | rfl | trivial⟩
      · have hcut : cutAt 47 (R) = (R, [], false) := cutAt_none (by have := hno.out; rwa [List.take_of_length_le (by omega)] at this)
        obtain ⟨⟨hN, hlN⟩, ⟨hD, hlD⟩, hQ⟩ := HC.out _ true _ _ _ hfr hfs hcut
        simp only [if_false, Bool.false_eq_true] at hD hlD
        have HN := Lib.hid hN
        have HD := Lib.hid hD
        have HQ := Lib.hid hQ
        clear hN hD hQ hcut hno
        go_wp2_with fail
        refine (rparse_e (L := R) _ HN (by omega)).mono ?_
        rintro e w3 ⟨A3, c3, rfl, F3, hb⟩
        replace HX := HX.ext hb
        clear hb
        go_upto_region 13 with fail
        have hg4 : w.heap.size < w3.heap.size := HX.lt 0 rfl
        have hb := below_alloc w3 (.cells #[.slice A3 (dig N).length c3] 25)
        replace HX := HX.new #[.slice A3 (dig N).length c3] 25
        simp only [List.cons_append, List.nil_append] at HX
        replace F3 := F3.ext hb
        clear hb
        generalize w3.alloc (.cells #[.slice A3 (dig N).length c3] 25) = W4 at *
        generalize w3.heap.size = g4 at *
        go_wp2_with fail
        refine (rparse_e (L := [49]) _ HD (by simp)).mono ?_
        rintro e w5 ⟨A5, c5, rfl, F5, hb⟩
        replace HX := HX.ext hb
        replace F3 := F3.ext hb
        clear hb
        go_upto_region 14 with fail
        have hg6 : w.heap.size < w5.heap.size := HX.lt 0 rfl
        have hb := below_alloc w5 (.cells #[.slice A5 (dig D).length c5] 25)
        replace HX := HX.new #[.slice A5 (dig D).length c5] 25
        simp only [List.cons_append, List.nil_append] at HX
        replace F3 := F3.ext hb
        replace F5 := F5.ext hb
        clear hb
        generalize w5.alloc (.cells #[.slice A5 (dig D).length c5] 25) = W6 at *
        generalize w5.heap.size = g6 at *
        rcases hEc.out with rfl | rfl
        · rcases hGc.out with rfl | rfl
          · have hc20 := HX.cell 2 0 rfl rfl
            try simp only [List.getElem_toArray, List.getElem_cons_zero, List.getElem_cons_succ] at hc20
            go_wp2_with fail
            refine (qzero_any A5 _ c5 (dig D) _ F5 rfl (by omega)).mono ?_
            rw [val_dig]
            rintro e w6 ⟨rfl, hb⟩
            clear hc20
            replace HX := HX.ext hb
            replace F3 := F3.ext hb
            replace F5 := F5.ext hb
            clear hb
            by_cases hD0 : D = 0
            · rw [decide_eq_true hD0]
              have HP : Hid (∀ e w', RetZE w 3 e w' → RetP w L e w') := Lib.hid (by
                rcases KEY.out with h | h
                · exact absurd hD0 h.2.2.1
                · exact h.2)
              clear KEY HC HS
              have hc00 := HX.cell 0 0 rfl rfl
              have hf00 := HX.free 0 0 rfl
              have hc01 := HX.cell 0 1 rfl rfl
              have hf01 := HX.free 0 1 rfl
              have hc02 := HX.cell 0 2 rfl rfl
              have hf02 := HX.free 0 2 rfl
              try simp only [List.getElem_toArray, List.getElem_cons_zero, List.getElem_cons_succ] at hc00 hf00 hc01 hf01 hc02 hf02
              go_wp2
              clear hc00 hf00 hc01 hf01 hc02 hf02
              have hk := HX.keep3 0 rfl rfl rfl rfl (by omega) (.bool false) (.slice none 0 0) (.slice none 0 0)
              replace HX := HX.put3 0 rfl (by omega) (by intro k q hk hne; match k, hk with | 0, hk => (simp at hk; subst hk; simp at hne ⊢; try omega) | 1, hk => (simp at hk; subst hk; simp at hne ⊢; try omega) | 2, hk => (simp at hk; subst hk; simp at hne ⊢; try omega) | k + 3, hk => simp at hk) (.bool false) (.slice none 0 0) (.slice none 0 0)
              clear hk
              simp only [List.set_cons_zero, List.set_cons_succ] at HX
              have hc00 := HX.cell 0 0 rfl rfl
              have hc01 := HX.cell 0 1 rfl rfl
              have hc02 := HX.cell 0 2 rfl rfl
              try simp only [List.getElem_toArray, List.getElem_cons_zero, List.getElem_cons_succ] at hc00 hc01 hc02
              exact bodyPost_ret (v := .tuple #[.agg #[.bool false, .slice none 0 0, .slice none 0 0], .int .i64 3]) (by simp [results, Tryz.results11, go_sem, hc00, hc01, hc02]) rfl (HP.out _ _ ⟨rfl, HX.below⟩)
            · rw [decide_eq_false hD0]
              have hc10 := HX.cell 1 0 rfl rfl
              have hc20 := HX.cell 2 0 rfl rfl
              try simp only [List.getElem_toArray, List.getElem_cons_zero, List.getElem_cons_succ] at hc10 hc20
              go_wp2_with fail
              refine (qmade_any true A3 A5 _ _ c3 c5 (dig N) (dig D) _ F3 F5 rfl rfl (by omega) (by omega)).mono ?_
              rw [val_dig, val_dig, HQ.out]
              rintro e w7 ⟨A7, c7, B7, d7, rfl, N7, D7, hb⟩
              clear hc10 hc20
              replace HX := HX.ext hb
              replace F3 := F3.ext hb
              replace F5 := F5.ext hb
              clear hb
              clear F3 F5
              go_upto_region 17 with fail
              have hg8 : w.heap.size < w7.heap.size := HX.lt 0 rfl
              have hb := below_alloc w7 (.cells #[.bool (sg q), .slice A7 (dig (nu q)).length c7, .slice B7 (dig q.den).length d7] 27)
              replace HX := HX.new #[.bool (sg q), .slice A7 (dig (nu q)).length c7, .slice B7 (dig q.den).length d7] 27
              simp only [List.cons_append, List.nil_append] at HX
              replace N7 := N7.ext hb
              replace D7 := D7.ext hb
              clear hb
              generalize w7.alloc (.cells #[.bool (sg q), .slice A7 (dig (nu q)).length c7, .slice B7 (dig q.den).length d7] 27) = W8 at *
              generalize w7.heap.size = g8 at *
              have hc30 := HX.cell 3 0 rfl rfl
              have hc31 := HX.cell 3 1 rfl rfl
              have hc32 := HX.cell 3 2 rfl rfl
              try simp only [List.getElem_toArray, List.getElem_cons_zero, List.getElem_cons_succ] at hc30 hc31 hc32
              go_wp2_with fail
              refine (qtext_any _ (Fr.of N7 D7 hSz) (by omega)).mono ?_
              rw [HM.out]
              rintro e w9 ⟨rfl, hb⟩
              clear hc30 hc31 hc32
              replace HX := HX.ext hb
              replace N7 := N7.ext hb
              replace D7 := D7.ext hb
              clear hb
              rcases KEY.out with ⟨_, _, _, hML, hP⟩ | ⟨hno, hP⟩
              · have HP := Lib.hid hP
                have hself : ((str M).toList == (str L).toList) = true := by rw [hML]; exact beq_self_eq_true _
                clear hP KEY HC HS hML
                have hc30 := HX.cell 3 0 rfl rfl
                have hc31 := HX.cell 3 1 rfl rfl
                have hc32 := HX.cell 3 2 rfl rfl
                try simp only [List.getElem_toArray, List.getElem_cons_zero, List.getElem_cons_succ] at hc30 hc31 hc32
                have hc00 := HX.cell 0 0 rfl rfl
                have hf00 := HX.free 0 0 rfl
                have hc01 := HX.cell 0 1 rfl rfl
                have hf01 := HX.free 0 1 rfl
                have hc02 := HX.cell 0 2 rfl rfl
                have hf02 := HX.free 0 2 rfl
                try simp only [List.getElem_toArray, List.getElem_cons_zero, List.getElem_cons_succ] at hc00 hf00 hc01 hf01 hc02 hf02
                go_wp2
                clear hc00 hf00 hc01 hf01 hc02 hf02
                clear hc30 hc31 hc32
                have hk := HX.keep3 0 rfl rfl rfl rfl (by omega) (.bool (sg q)) (.slice A7 (dig (nu q)).length c7) (.slice B7 (dig q.den).length d7)
                replace HX := HX.put3 0 rfl (by omega) (by intro k q hk hne; match k, hk with | 0, hk => (simp at hk; subst hk; simp at hne ⊢; try omega) | 1, hk => (simp at hk; subst hk; simp at hne ⊢; try omega) | 2, hk => (simp at hk; subst hk; simp at hne ⊢; try omega) | 3, hk => (simp at hk; subst hk; simp at hne ⊢; try omega) | k + 4, hk => simp at hk) (.bool (sg q)) (.slice A7 (dig (nu q)).length c7) (.slice B7 (dig q.den).length d7)
                replace N7 := N7.stay hk
                replace D7 := D7.stay hk
                clear hk
                simp only [List.set_cons_zero, List.set_cons_succ] at HX
                have hc00 := HX.cell 0 0 rfl rfl
                have hc01 := HX.cell 0 1 rfl rfl
                have hc02 := HX.cell 0 2 rfl rfl
                try simp only [List.getElem_toArray, List.getElem_cons_zero, List.getElem_cons_succ] at hc00 hc01 hc02
                exact bodyPost_ret (v := .tuple #[.agg #[.bool (sg q), .slice A7 (dig (nu q)).length c7, .slice B7 (dig q.den).length d7], .int .i64 0]) (by simp [results, Tryz.results11, go_sem, hc00, hc01, hc02]) rfl (HP.out _ _ ⟨A7, c7, B7, d7, rfl, ⟨N7, D7, hSz⟩, HX.below⟩)
              · have HP := Lib.hid hP
                have hne : ((str M).toList == (str L).toList) = false := by rw [str_toList, str_toList, beq_eq_false_iff_ne]; exact fun h => hno ⟨by first | rfl | trivial, by first | rfl | trivial, by first | exact hD0 | trivial, h⟩
                clear hP KEY HC HS hno
                have hc00 := HX.cell 0 0 rfl rfl
                have hf00 := HX.free 0 0 rfl
                have hc01 := HX.cell 0 1 rfl rfl
                have hf01 := HX.free 0 1 rfl
                have hc02 := HX.cell 0 2 rfl rfl
                have hf02 := HX.free 0 2 rfl
                try simp only [List.getElem_toArray, List.getElem_cons_zero, List.getElem_cons_succ] at hc00 hf00 hc01 hf01 hc02 hf02
                go_wp2
                clear hc00 hf00 hc01 hf01 hc02 hf02
                have hk := HX.keep3 0 rfl rfl rfl rfl (by omega) (.bool false) (.slice none 0 0) (.slice none 0 0)
                replace HX := HX.put3 0 rfl (by omega) (by intro k q hk hne; match k, hk with | 0, hk => (simp at hk; subst hk; simp at hne ⊢; try omega) | 1, hk => (simp at hk; subst hk; simp at hne ⊢; try omega) | 2, hk => (simp at hk; subst hk; simp at hne ⊢; try omega) | 3, hk => (simp at hk; subst hk; simp at hne ⊢; try omega) | k + 4, hk => simp at hk) (.bool false) (.slice none 0 0) (.slice none 0 0)
                clear hk
                simp only [List.set_cons_zero, List.set_cons_succ] at HX
                have hc00 := HX.cell 0 0 rfl rfl
                have hc01 := HX.cell 0 1 rfl rfl
                have hc02 := HX.cell 0 2 rfl rfl
                try simp only [List.getElem_toArray, List.getElem_cons_zero, List.getElem_cons_succ] at hc00 hc01 hc02
                exact bodyPost_ret (v := .tuple #[.agg #[.bool false, .slice none 0 0, .slice none 0 0], .int .i64 3]) (by simp [results, Tryz.results11, go_sem, hc00, hc01, hc02]) rfl (HP.out _ _ ⟨rfl, HX.below⟩)
          · have HP : Hid (∀ e w', RetZE w 3 e w' → RetP w L e w') := Lib.hid (by
              rcases KEY.out with h | h
              · exact absurd h.2.1 (by decide)
              · exact h.2)
            clear KEY HC HS
            have hc00 := HX.cell 0 0 rfl rfl
            have hf00 := HX.free 0 0 rfl
            have hc01 := HX.cell 0 1 rfl rfl
            have hf01 := HX.free 0 1 rfl
            have hc02 := HX.cell 0 2 rfl rfl
            have hf02 := HX.free 0 2 rfl
            try simp only [List.getElem_toArray, List.getElem_cons_zero, List.getElem_cons_succ] at hc00 hf00 hc01 hf01 hc02 hf02
            go_wp2
            clear hc00 hf00 hc01 hf01 hc02 hf02
            have hk := HX.keep3 0 rfl rfl rfl rfl (by omega) (.bool false) (.slice none 0 0) (.slice none 0 0)
            replace HX := HX.put3 0 rfl (by omega) (by intro k q hk hne; match k, hk with | 0, hk => (simp at hk; subst hk; simp at hne ⊢; try omega) | 1, hk => (simp at hk; subst hk; simp at hne ⊢; try omega) | 2, hk => (simp at hk; subst hk; simp at hne ⊢; try omega) | k + 3, hk => simp at hk) (.bool false) (.slice none 0 0) (.slice none 0 0)
            clear hk
            simp only [List.set_cons_zero, List.set_cons_succ] at HX
            have hc00 := HX.cell 0 0 rfl rfl
            have hc01 := HX.cell 0 1 rfl rfl
            have hc02 := HX.cell 0 2 rfl rfl
            try simp only [List.getElem_toArray, List.getElem_cons_zero, List.getElem_cons_succ] at hc00 hc01 hc02
            exact bodyPost_ret (v := .tuple #[.agg #[.bool false, .slice none 0 0, .slice none 0 0], .int .i64 3]) (by simp [results, Tryz.results11, go_sem, hc00, hc01, hc02]) rfl (HP.out _ _ ⟨rfl, HX.below⟩)
        · have HP : Hid (∀ e w', RetZE w 3 e w' → RetP w L e w') := Lib.hid (by
            rcases KEY.out with h | h
            · exact absurd h.1 (by decide)
            · exact h.2)
          clear KEY HC HS
          have hc00 := HX.cell 0 0 rfl rfl
          have hf00 := HX.free 0 0 rfl
          have hc01 := HX.cell 0 1 rfl rfl
          have hf01 := HX.free 0 1 rfl
          have hc02 := HX.cell 0 2 rfl rfl
          have hf02 := HX.free 0 2 rfl
          try simp only [List.getElem_toArray, List.getElem_cons_zero, List.getElem_cons_succ] at hc00 hf00 hc01 hf01 hc02 hf02
          go_wp2
          clear hc00 hf00 hc01 hf01 hc02 hf02
          have hk := HX.keep3 0 rfl rfl rfl rfl (by omega) (.bool false) (.slice none 0 0) (.slice none 0 0)
          replace HX := HX.put3 0 rfl (by omega) (by intro k q hk hne; match k, hk with | 0, hk => (simp at hk; subst hk; simp at hne ⊢; try omega) | 1, hk => (simp at hk; subst hk; simp at hne ⊢; try omega) | 2, hk => (simp at hk; subst hk; simp at hne ⊢; try omega) | k + 3, hk => simp at hk) (.bool false) (.slice none 0 0) (.slice none 0 0)
          clear hk
          simp only [List.set_cons_zero, List.set_cons_succ] at HX
          have hc00 := HX.cell 0 0 rfl rfl
          have hc01 := HX.cell 0 1 rfl rfl
          have hc02 := HX.cell 0 2 rfl rfl
          try simp only [List.getElem_toArray, List.getElem_cons_zero, List.getElem_cons_succ] at hc00 hc01 hc02
          exact bodyPost_ret (v := .tuple #[.agg #[.bool false, .slice none 0 0, .slice none 0 0], .int .i64 3]) (by simp [results, Tryz.results11, go_sem, hc00, hc01, hc02]) rfl (HP.out _ _ ⟨rfl, HX.below⟩)
  · have HSZ : (str L).size = L.length := hsz
    by_cases hp : 0 < L.length
    · have h0 : ((((L[0]'hp).toNat : Nat) : Int) == 45) = false := by
        rw [fneg, List.head?_eq_getElem?, List.getElem?_eq_getElem hp] at hfs
        rw [beq_eq_false_iff_ne]
        intro h
        have h3 : L[0]'hp = 45 := UInt8.toNat_inj.1 (by have : (45 : UInt8).toNat = 45 := rfl; omega)
        simp [h3] at hfs
      have hix : ∀ h, (str L)[0]'h = L[0]'hp := fun _ => rfl
      generalize L[0]'hp = b0 at *
      go_enter Tryz.func11, Tryz.ntmps11
      go_wp2
      go_loopg [6, 7, 8] L.length (fun k y z x wr => ∃ j : Nat, j + k = L.length ∧ Hid (47 ∉ (L).take j) ∧ y = .string (str (L)) ∧ z = .string ⟨#[49]⟩ ∧ x = .int .i64 (j : Int) ∧ wr = w.alloc (.cells #[.bool false, .slice none 0 0, .slice none 0 0] 27))
      case atStart => exact ⟨0, by omega, Lib.hid (by simp), rfl, rfl, rfl, rfl⟩
      case round =>
        obtain ⟨j, hj, hno, rfl, rfl, rfl, rfl⟩ := hrel
        by_cases hj0 : j < L.length
        · have hix : ∀ h', (str (L))[j]'h' = (L)[j]'hj0 := fun _ => rfl
          by_cases hd : (L)[j]'hj0 = 47
          · have hcut : cutAt 47 (L) = ((L).take j, (L).drop (j + 1), true) := by
              have e : (L).take j ++ 47 :: (L).drop (j + 1) = L := by rw [← hd, List.getElem_cons_drop, List.take_append_drop]
              have h := cutAt_some (r := (L).drop (j + 1)) hno.out
              rwa [e] at h
            obtain ⟨⟨hN, hlN⟩, ⟨hD, hlD⟩, hQ⟩ := HC.out _ false _ _ _ hfr hfs hcut
            simp only [if_true] at hD hlD
            have HN := Lib.hid hN
            have HD := Lib.hid hD
            have HQ := Lib.hid hQ
            clear hN hD hQ hcut hno
            have hb47 : ((((L)[j]'hj0).toNat : Int) == 47) = true := by rw [hd]; rfl
            have hx1 : (str (L)).extract 0 j = str ((L).take j) := str_take _ _
            have hx2 : (str (L)).extract (j + 1) (L).length = str ((L).drop (j + 1)) := str_drop _ _
            generalize (L)[j]'hj0 = b at *
            clear hd
            go_upto_region 11 with fail
            go_quiet (fail)
            replace HX := HX.ext (drew_below (Below.refl _ _) nq)
            generalize (L).take j = P at *
            generalize (L).drop (j + 1) = S at *
            go_wp2_with fail
            refine (rparse_e (L := P) _ HN (by omega)).mono ?_
            rintro e w3 ⟨A3, c3, rfl, F3, hb⟩
            replace HX := HX.ext hb
            clear hb
            go_upto_region 13 with fail
            have hg4 : w.heap.size < w3.heap.size := HX.lt 0 rfl
            have hb := below_alloc w3 (.cells #[.slice A3 (dig N).length c3] 25)
            replace HX := HX.new #[.slice A3 (dig N).length c3] 25
            simp only [List.cons_append, List.nil_append] at HX
            replace F3 := F3.ext hb
            clear hb
            generalize w3.alloc (.cells #[.slice A3 (dig N).length c3] 25) = W4 at *
            generalize w3.heap.size = g4 at *
            go_wp2_with fail
            refine (rparse_e (L := S) _ HD (by omega)).mono ?_
            rintro e w5 ⟨A5, c5, rfl, F5, hb⟩
            replace HX := HX.ext hb
            replace F3 := F3.ext hb
            clear hb
            go_upto_region 14 with fail
            have hg6 : w.heap.size < w5.heap.size := HX.lt 0 rfl
            have hb := below_alloc w5 (.cells #[.slice A5 (dig D).length c5] 25)
            replace HX := HX.new #[.slice A5 (dig D).length c5] 25
            simp only [List.cons_append, List.nil_append] at HX
            replace F3 := F3.ext hb
            replace F5 := F5.ext hb
            clear hb
            generalize w5.alloc (.cells #[.slice A5 (dig D).length c5] 25) = W6 at *
            generalize w5.heap.size = g6 at *
            rcases hEc.out with rfl | rfl
            · rcases hGc.out with rfl | rfl
              · have hc20 := HX.cell 2 0 rfl rfl
                try simp only [List.getElem_toArray, List.getElem_cons_zero, List.getElem_cons_succ] at hc20
                go_wp2_with fail
                refine (qzero_any A5 _ c5 (dig D) _ F5 rfl (by omega)).mono ?_
                rw [val_dig]
                rintro e w6 ⟨rfl, hb⟩
                clear hc20
                replace HX := HX.ext hb
                replace F3 := F3.ext hb
                replace F5 := F5.ext hb
                clear hb
                by_cases hD0 : D = 0
                · rw [decide_eq_true hD0]
                  have HP : Hid (∀ e w', RetZE w 3 e w' → RetP w L e w') := Lib.hid (by
                    rcases KEY.out with h | h
                    · exact absurd hD0 h.2.2.1
                    · exact h.2)
                  clear KEY HC HS
                  have hc00 := HX.cell 0 0 rfl rfl
                  have hf00 := HX.free 0 0 rfl
                  have hc01 := HX.cell 0 1 rfl rfl
                  have hf01 := HX.free 0 1 rfl
                  have hc02 := HX.cell 0 2 rfl rfl
                  have hf02 := HX.free 0 2 rfl
                  try simp only [List.getElem_toArray, List.getElem_cons_zero, List.getElem_cons_succ] at hc00 hf00 hc01 hf01 hc02 hf02
                  go_wp2
                  clear hc00 hf00 hc01 hf01 hc02 hf02
                  have hk := HX.keep3 0 rfl rfl rfl rfl (by omega) (.bool false) (.slice none 0 0) (.slice none 0 0)
                  replace HX := HX.put3 0 rfl (by omega) (by intro k q hk hne; match k, hk with | 0, hk => (simp at hk; subst hk; simp at hne ⊢; try omega) | 1, hk => (simp at hk; subst hk; simp at hne ⊢; try omega) | 2, hk => (simp at hk; subst hk; simp at hne ⊢; try omega) | k + 3, hk => simp at hk) (.bool false) (.slice none 0 0) (.slice none 0 0)
                  clear hk
                  simp only [List.set_cons_zero, List.set_cons_succ] at HX
                  have hc00 := HX.cell 0 0 rfl rfl
                  have hc01 := HX.cell 0 1 rfl rfl
                  have hc02 := HX.cell 0 2 rfl rfl
                  try simp only [List.getElem_toArray, List.getElem_cons_zero, List.getElem_cons_succ] at hc00 hc01 hc02
                  exact bodyPost_ret (v := .tuple #[.agg #[.bool false, .slice none 0 0, .slice none 0 0], .int .i64 3]) (by simp [results, Tryz.results11, go_sem, hc00, hc01, hc02]) rfl (HP.out _ _ ⟨rfl, HX.below⟩)
                · rw [decide_eq_false hD0]
                  have hc10 := HX.cell 1 0 rfl rfl
                  have hc20 := HX.cell 2 0 rfl rfl
                  try simp only [List.getElem_toArray, List.getElem_cons_zero, List.getElem_cons_succ] at hc10 hc20
                  go_wp2_with fail
                  refine (qmade_any false A3 A5 _ _ c3 c5 (dig N) (dig D) _ F3 F5 rfl rfl (by omega) (by omega)).mono ?_
                  rw [val_dig, val_dig, HQ.out]
                  rintro e w7 ⟨A7, c7, B7, d7, rfl, N7, D7, hb⟩
                  clear hc10 hc20
                  replace HX := HX.ext hb
                  replace F3 := F3.ext hb
                  replace F5 := F5.ext hb
                  clear hb
                  clear F3 F5
                  go_upto_region 17 with fail
                  have hg8 : w.heap.size < w7.heap.size := HX.lt 0 rfl
                  have hb := below_alloc w7 (.cells #[.bool (sg q), .slice A7 (dig (nu q)).length c7, .slice B7 (dig q.den).length d7] 27)
                  replace HX := HX.new #[.bool (sg q), .slice A7 (dig (nu q)).length c7, .slice B7 (dig q.den).length d7] 27
                  simp only [List.cons_append, List.nil_append] at HX
                  replace N7 := N7.ext hb
                  replace D7 := D7.ext hb
                  clear hb
                  generalize w7.alloc (.cells #[.bool (sg q), .slice A7 (dig (nu q)).length c7, .slice B7 (dig q.den).length d7] 27) = W8 at *
                  generalize w7.heap.size = g8 at *
                  have hc30 := HX.cell 3 0 rfl rfl
                  have hc31 := HX.cell 3 1 rfl rfl
                  have hc32 := HX.cell 3 2 rfl rfl
                  try simp only [List.getElem_toArray, List.getElem_cons_zero, List.getElem_cons_succ] at hc30 hc31 hc32
                  go_wp2_with fail
                  refine (qtext_any _ (Fr.of N7 D7 hSz) (by omega)).mono ?_
                  rw [HM.out]
                  rintro e w9 ⟨rfl, hb⟩
                  clear hc30 hc31 hc32
                  replace HX := HX.ext hb
                  replace N7 := N7.ext hb
                  replace D7 := D7.ext hb
                  clear hb
                  rcases KEY.out with ⟨_, _, _, hML, hP⟩ | ⟨hno, hP⟩
                  · have HP := Lib.hid hP
                    have hself : ((str M).toList == (str L).toList) = true := by rw [hML]; exact beq_self_eq_true _
                    clear hP KEY HC HS hML
                    have hc30 := HX.cell 3 0 rfl rfl
                    have hc31 := HX.cell 3 1 rfl rfl
                    have hc32 := HX.cell 3 2 rfl rfl
                    try simp only [List.getElem_toArray, List.getElem_cons_zero, List.getElem_cons_succ] at hc30 hc31 hc32
                    have hc00 := HX.cell 0 0 rfl rfl
                    have hf00 := HX.free 0 0 rfl
                    have hc01 := HX.cell 0 1 rfl rfl
                    have hf01 := HX.free 0 1 rfl
                    have hc02 := HX.cell 0 2 rfl rfl
                    have hf02 := HX.free 0 2 rfl
                    try simp only [List.getElem_toArray, List.getElem_cons_zero, List.getElem_cons_succ] at hc00 hf00 hc01 hf01 hc02 hf02
                    go_wp2
                    clear hc00 hf00 hc01 hf01 hc02 hf02
                    clear hc30 hc31 hc32
                    have hk := HX.keep3 0 rfl rfl rfl rfl (by omega) (.bool (sg q)) (.slice A7 (dig (nu q)).length c7) (.slice B7 (dig q.den).length d7)
                    replace HX := HX.put3 0 rfl (by omega) (by intro k q hk hne; match k, hk with | 0, hk => (simp at hk; subst hk; simp at hne ⊢; try omega) | 1, hk => (simp at hk; subst hk; simp at hne ⊢; try omega) | 2, hk => (simp at hk; subst hk; simp at hne ⊢; try omega) | 3, hk => (simp at hk; subst hk; simp at hne ⊢; try omega) | k + 4, hk => simp at hk) (.bool (sg q)) (.slice A7 (dig (nu q)).length c7) (.slice B7 (dig q.den).length d7)
                    replace N7 := N7.stay hk
                    replace D7 := D7.stay hk
                    clear hk
                    simp only [List.set_cons_zero, List.set_cons_succ] at HX
                    have hc00 := HX.cell 0 0 rfl rfl
                    have hc01 := HX.cell 0 1 rfl rfl
                    have hc02 := HX.cell 0 2 rfl rfl
                    try simp only [List.getElem_toArray, List.getElem_cons_zero, List.getElem_cons_succ] at hc00 hc01 hc02
                    exact bodyPost_ret (v := .tuple #[.agg #[.bool (sg q), .slice A7 (dig (nu q)).length c7, .slice B7 (dig q.den).length d7], .int .i64 0]) (by simp [results, Tryz.results11, go_sem, hc00, hc01, hc02]) rfl (HP.out _ _ ⟨A7, c7, B7, d7, rfl, ⟨N7, D7, hSz⟩, HX.below⟩)
                  · have HP := Lib.hid hP
                    have hne : ((str M).toList == (str L).toList) = false := by rw [str_toList, str_toList, beq_eq_false_iff_ne]; exact fun h => hno ⟨by first | rfl | trivial, by first | rfl | trivial, by first | exact hD0 | trivial, h⟩
                    clear hP KEY HC HS hno
                    have hc00 := HX.cell 0 0 rfl rfl
                    have hf00 := HX.free 0 0 rfl
                    have hc01 := HX.cell 0 1 rfl rfl
                    have hf01 := HX.free 0 1 rfl
                    have hc02 := HX.cell 0 2 rfl rfl
                    have hf02 := HX.free 0 2 rfl
                    try simp only [List.getElem_toArray, List.getElem_cons_zero, List.getElem_cons_succ] at hc00 hf00 hc01 hf01 hc02 hf02
                    go_wp2
                    clear hc00 hf00 hc01 hf01 hc02 hf02
                    have hk := HX.keep3 0 rfl rfl rfl rfl (by omega) (.bool false) (.slice none 0 0) (.slice none 0 0)
                    replace HX := HX.put3 0 rfl (by omega) (by intro k q hk hne; match k, hk with | 0, hk => (simp at hk; subst hk; simp at hne ⊢; try omega) | 1, hk => (simp at hk; subst hk; simp at hne ⊢; try omega) | 2, hk => (simp at hk; subst hk; simp at hne ⊢; try omega) | 3, hk => (simp at hk; subst hk; simp at hne ⊢; try omega) | k + 4, hk => simp at hk) (.bool false) (.slice none 0 0) (.slice none 0 0)
                    clear hk
                    simp only [List.set_cons_zero, List.set_cons_succ] at HX
                    have hc00 := HX.cell 0 0 rfl rfl
                    have hc01 := HX.cell 0 1 rfl rfl
                    have hc02 := HX.cell 0 2 rfl rfl
                    try simp only [List.getElem_toArray, List.getElem_cons_zero, List.getElem_cons_succ] at hc00 hc01 hc02
                    exact bodyPost_ret (v := .tuple #[.agg #[.bool false, .slice none 0 0, .slice none 0 0], .int .i64 3]) (by simp [results, Tryz.results11, go_sem, hc00, hc01, hc02]) rfl (HP.out _ _ ⟨rfl, HX.below⟩)
              · have HP : Hid (∀ e w', RetZE w 3 e w' → RetP w L e w') := Lib.hid (by
                  rcases KEY.out with h | h
                  · exact absurd h.2.1 (by decide)
                  · exact h.2)
                clear KEY HC HS
                have hc00 := HX.cell 0 0 rfl rfl
                have hf00 := HX.free 0 0 rfl
                have hc01 := HX.cell 0 1 rfl rfl
                have hf01 := HX.free 0 1 rfl
                have hc02 := HX.cell 0 2 rfl rfl
                have hf02 := HX.free 0 2 rfl
                try simp only [List.getElem_toArray, List.getElem_cons_zero, List.getElem_cons_succ] at hc00 hf00 hc01 hf01 hc02 hf02
                go_wp2
                clear hc00 hf00 hc01 hf01 hc02 hf02
                have hk := HX.keep3 0 rfl rfl rfl rfl (by omega) (.bool false) (.slice none 0 0) (.slice none 0 0)
                replace HX := HX.put3 0 rfl (by omega) (by intro k q hk hne; match k, hk with | 0, hk => (simp at hk; subst hk; simp at hne ⊢; try omega) | 1, hk => (simp at hk; subst hk; simp at hne ⊢; try omega) | 2, hk => (simp at hk; subst hk; simp at hne ⊢; try omega) | k + 3, hk => simp at hk) (.bool false) (.slice none 0 0) (.slice none 0 0)
                clear hk
                simp only [List.set_cons_zero, List.set_cons_succ] at HX
                have hc00 := HX.cell 0 0 rfl rfl
                have hc01 := HX.cell 0 1 rfl rfl
                have hc02 := HX.cell 0 2 rfl rfl
                try simp only [List.getElem_toArray, List.getElem_cons_zero, List.getElem_cons_succ] at hc00 hc01 hc02
                exact bodyPost_ret (v := .tuple #[.agg #[.bool false, .slice none 0 0, .slice none 0 0], .int .i64 3]) (by simp [results, Tryz.results11, go_sem, hc00, hc01, hc02]) rfl (HP.out _ _ ⟨rfl, HX.below⟩)
            · have HP : Hid (∀ e w', RetZE w 3 e w' → RetP w L e w') := Lib.hid (by
                rcases KEY.out with h | h
                · exact absurd h.1 (by decide)
                · exact h.2)
              clear KEY HC HS
              have hc00 := HX.cell 0 0 rfl rfl
              have hf00 := HX.free 0 0 rfl
              have hc01 := HX.cell 0 1 rfl rfl
              have hf01 := HX.free 0 1 rfl
              have hc02 := HX.cell 0 2 rfl rfl
              have hf02 := HX.free 0 2 rfl
              try simp only [List.getElem_toArray, List.getElem_cons_zero, List.getElem_cons_succ] at hc00 hf00 hc01 hf01 hc02 hf02
              go_wp2
              clear hc00 hf00 hc01 hf01 hc02 hf02
              have hk := HX.keep3 0 rfl rfl rfl rfl (by omega) (.bool false) (.slice none 0 0) (.slice none 0 0)
              replace HX := HX.put3 0 rfl (by omega) (by intro k q hk hne; match k, hk with | 0, hk => (simp at hk; subst hk; simp at hne ⊢; try omega) | 1, hk => (simp at hk; subst hk; simp at hne ⊢; try omega) | 2, hk => (simp at hk; subst hk; simp at hne ⊢; try omega) | k + 3, hk => simp at hk) (.bool false) (.slice none 0 0) (.slice none 0 0)
              clear hk
              simp only [List.set_cons_zero, List.set_cons_succ] at HX
              have hc00 := HX.cell 0 0 rfl rfl
              have hc01 := HX.cell 0 1 rfl rfl
              have hc02 := HX.cell 0 2 rfl rfl
              try simp only [List.getElem_toArray, List.getElem_cons_zero, List.getElem_cons_succ] at hc00 hc01 hc02
              exact bodyPost_ret (v := .tuple #[.agg #[.bool false, .slice none 0 0, .slice none 0 0], .int .i64 3]) (by simp [results, Tryz.results11, go_sem, hc00, hc01, hc02]) rfl (HP.out _ _ ⟨rfl, HX.below⟩)
          · have hs : Hid (47 ∉ (L).take (j + 1)) := Lib.hid (by
              rw [List.take_succ_eq_append_getElem hj0, List.mem_append]
              rintro (h | h)
              · exact hno.out h
              · simp at h; exact hd h.symm)
            have hb47 : ((((L)[j]'hj0).toNat : Int) == 47) = false := by
              rw [beq_eq_false_iff_ne]
              intro h
              refine hd (UInt8.toNat_inj.1 ?_)
              have : (47 : UInt8).toNat = 47 := rfl
              omega
            generalize (L)[j]'hj0 = b at *
            go_wp2
            go_roundg (L.length - (j + 1))
            case measure => omega
            case rel => exact ⟨j + 1, by omega, hs, by first | rfl | trivial, by first | rfl | trivial, by go_num, by first | rfl | trivial⟩
        · have hcut : cutAt 47 (L) = (L, [], false) := cutAt_none (by have := hno.out; rwa [List.take_of_length_le (by omega)] at this)
          obtain ⟨⟨hN, hlN⟩, ⟨hD, hlD⟩, hQ⟩ := HC.out _ false _ _ _ hfr hfs hcut
          simp only [if_false, Bool.false_eq_true] at hD hlD
          have HN := Lib.hid hN
          have HD := Lib.hid hD
          have HQ := Lib.hid hQ
          clear hN hD hQ hcut hno
          go_wp2_with fail
          refine (rparse_e (L := L) _ HN (by omega)).mono ?_
          rintro e w3 ⟨A3, c3, rfl, F3, hb⟩
          replace HX := HX.ext hb
          clear hb
          go_upto_region 13 with fail
          have hg4 : w.heap.size < w3.heap.size := HX.lt 0 rfl
          have hb := below_alloc w3 (.cells #[.slice A3 (dig N).length c3] 25)
          replace HX := HX.new #[.slice A3 (dig N).length c3] 25
          simp only [List.cons_append, List.nil_append] at HX
          replace F3 := F3.ext hb
          clear hb
          generalize w3.alloc (.cells #[.slice A3 (dig N).length c3] 25) = W4 at *
          generalize w3.heap.size = g4 at *
          go_wp2_with fail
          refine (rparse_e (L := [49]) _ HD (by simp)).mono ?_
          rintro e w5 ⟨A5, c5, rfl, F5, hb⟩
          replace HX := HX.ext hb
          replace F3 := F3.ext hb
          clear hb
          go_upto_region 14 with fail
          have hg6 : w.heap.size < w5.heap.size := HX.lt 0 rfl
          have hb := below_alloc w5 (.cells #[.slice A5 (dig D).length c5] 25)
          replace HX := HX.new #[.slice A5 (dig D).length c5] 25
          simp only [List.cons_append, List.nil_append] at HX
          replace F3 := F3.ext hb
          replace F5 := F5.ext hb
          clear hb
          generalize w5.alloc (.cells #[.slice A5 (dig D).length c5] 25) = W6 at *
          generalize w5.heap.size = g6 at *
          rcases hEc.out with rfl | rfl
          · rcases hGc.out with rfl | rfl
            · have hc20 := HX.cell 2 0 rfl rfl
              try simp only [List.getElem_toArray, List.getElem_cons_zero, List.getElem_cons_succ] at hc20
              go_wp2_with fail
              refine (qzero_any A5 _ c5 (dig D) _ F5 rfl (by omega)).mono ?_
              rw [val_dig]
              rintro e w6 ⟨rfl, hb⟩
              clear hc20
              replace HX := HX.ext hb
              replace F3 := F3.ext hb
              replace F5 := F5.ext hb
              clear hb
              by_cases hD0 : D = 0
              · rw [decide_eq_true hD0]
                have HP : Hid (∀ e w', RetZE w 3 e w' → RetP w L e w') := Lib.hid (by
                  rcases KEY.out with h | h
                  · exact absurd hD0 h.2.2.1
                  · exact h.2)
                clear KEY HC HS
                have hc00 := HX.cell 0 0 rfl rfl
                have hf00 := HX.free 0 0 rfl
                have hc01 := HX.cell 0 1 rfl rfl
                have hf01 := HX.free 0 1 rfl
                have hc02 := HX.cell 0 2 rfl rfl
                have hf02 := HX.free 0 2 rfl
                try simp only [List.getElem_toArray, List.getElem_cons_zero, List.getElem_cons_succ] at hc00 hf00 hc01 hf01 hc02 hf02
                go_wp2
                clear hc00 hf00 hc01 hf01 hc02 hf02
                have hk := HX.keep3 0 rfl rfl rfl rfl (by omega) (.bool false) (.slice none 0 0) (.slice none 0 0)
                replace HX := HX.put3 0 rfl (by omega) (by intro k q hk hne; match k, hk with | 0, hk => (simp at hk; subst hk; simp at hne ⊢; try omega) | 1, hk => (simp at hk; subst hk; simp at hne ⊢; try omega) | 2, hk => (simp at hk; subst hk; simp at hne ⊢; try omega) | k + 3, hk => simp at hk) (.bool false) (.slice none 0 0) (.slice none 0 0)
                clear hk
                simp only [List.set_cons_zero, List.set_cons_succ] at HX
                have hc00 := HX.cell 0 0 rfl rfl
                have hc01 := HX.cell 0 1 rfl rfl
                have hc02 := HX.cell 0 2 rfl rfl
                try simp only [List.getElem_toArray, List.getElem_cons_zero, List.getElem_cons_succ] at hc00 hc01 hc02
                exact bodyPost_ret (v := .tuple #[.agg #[.bool false, .slice none 0 0, .slice none 0 0], .int .i64 3]) (by simp [results, Tryz.results11, go_sem, hc00, hc01, hc02]) rfl (HP.out _ _ ⟨rfl, HX.below⟩)
              · rw [decide_eq_false hD0]
                have hc10 := HX.cell 1 0 rfl rfl
                have hc20 := HX.cell 2 0 rfl rfl
                try simp only [List.getElem_toArray, List.getElem_cons_zero, List.getElem_cons_succ] at hc10 hc20
                go_wp2_with fail
                refine (qmade_any false A3 A5 _ _ c3 c5 (dig N) (dig D) _ F3 F5 rfl rfl (by omega) (by omega)).mono ?_
                rw [val_dig, val_dig, HQ.out]
                rintro e w7 ⟨A7, c7, B7, d7, rfl, N7, D7, hb⟩
                clear hc10 hc20
                replace HX := HX.ext hb
                replace F3 := F3.ext hb
                replace F5 := F5.ext hb
                clear hb
                clear F3 F5
                go_upto_region 17 with fail
                have hg8 : w.heap.size < w7.heap.size := HX.lt 0 rfl
                have hb := below_alloc w7 (.cells #[.bool (sg q), .slice A7 (dig (nu q)).length c7, .slice B7 (dig q.den).length d7] 27)
                replace HX := HX.new #[.bool (sg q), .slice A7 (dig (nu q)).length c7, .slice B7 (dig q.den).length d7] 27
                simp only [List.cons_append, List.nil_append] at HX
                replace N7 := N7.ext hb
                replace D7 := D7.ext hb
                clear hb
                generalize w7.alloc (.cells #[.bool (sg q), .slice A7 (dig (nu q)).length c7, .slice B7 (dig q.den).length d7] 27) = W8 at *
                generalize w7.heap.size = g8 at *
                have hc30 := HX.cell 3 0 rfl rfl
                have hc31 := HX.cell 3 1 rfl rfl
                have hc32 := HX.cell 3 2 rfl rfl
                try simp only [List.getElem_toArray, List.getElem_cons_zero, List.getElem_cons_succ] at hc30 hc31 hc32
                go_wp2_with fail
                refine (qtext_any _ (Fr.of N7 D7 hSz) (by omega)).mono ?_
                rw [HM.out]
                rintro e w9 ⟨rfl, hb⟩
                clear hc30 hc31 hc32
                replace HX := HX.ext hb
                replace N7 := N7.ext hb
                replace D7 := D7.ext hb
                clear hb
                rcases KEY.out with ⟨_, _, _, hML, hP⟩ | ⟨hno, hP⟩
                · have HP := Lib.hid hP
                  have hself : ((str M).toList == (str L).toList) = true := by rw [hML]; exact beq_self_eq_true _
                  clear hP KEY HC HS hML
                  have hc30 := HX.cell 3 0 rfl rfl
                  have hc31 := HX.cell 3 1 rfl rfl
                  have hc32 := HX.cell 3 2 rfl rfl
                  try simp only [List.getElem_toArray, List.getElem_cons_zero, List.getElem_cons_succ] at hc30 hc31 hc32
                  have hc00 := HX.cell 0 0 rfl rfl
                  have hf00 := HX.free 0 0 rfl
                  have hc01 := HX.cell 0 1 rfl rfl
                  have hf01 := HX.free 0 1 rfl
                  have hc02 := HX.cell 0 2 rfl rfl
                  have hf02 := HX.free 0 2 rfl
                  try simp only [List.getElem_toArray, List.getElem_cons_zero, List.getElem_cons_succ] at hc00 hf00 hc01 hf01 hc02 hf02
                  go_wp2
                  clear hc00 hf00 hc01 hf01 hc02 hf02
                  clear hc30 hc31 hc32
                  have hk := HX.keep3 0 rfl rfl rfl rfl (by omega) (.bool (sg q)) (.slice A7 (dig (nu q)).length c7) (.slice B7 (dig q.den).length d7)
                  replace HX := HX.put3 0 rfl (by omega) (by intro k q hk hne; match k, hk with | 0, hk => (simp at hk; subst hk; simp at hne ⊢; try omega) | 1, hk => (simp at hk; subst hk; simp at hne ⊢; try omega) | 2, hk => (simp at hk; subst hk; simp at hne ⊢; try omega) | 3, hk => (simp at hk; subst hk; simp at hne ⊢; try omega) | k + 4, hk => simp at hk) (.bool (sg q)) (.slice A7 (dig (nu q)).length c7) (.slice B7 (dig q.den).length d7)
                  replace N7 := N7.stay hk
                  replace D7 := D7.stay hk
                  clear hk
                  simp only [List.set_cons_zero, List.set_cons_succ] at HX
                  have hc00 := HX.cell 0 0 rfl rfl
                  have hc01 := HX.cell 0 1 rfl rfl
                  have hc02 := HX.cell 0 2 rfl rfl
                  try simp only [List.getElem_toArray, List.getElem_cons_zero, List.getElem_cons_succ] at hc00 hc01 hc02
                  exact bodyPost_ret (v := .tuple #[.agg #[.bool (sg q), .slice A7 (dig (nu q)).length c7, .slice B7 (dig q.den).length d7], .int .i64 0]) (by simp [results, Tryz.results11, go_sem, hc00, hc01, hc02]) rfl (HP.out _ _ ⟨A7, c7, B7, d7, rfl, ⟨N7, D7, hSz⟩, HX.below⟩)
                · have HP := Lib.hid hP
                  have hne : ((str M).toList == (str L).toList) = false := by rw [str_toList, str_toList, beq_eq_false_iff_ne]; exact fun h => hno ⟨by first | rfl | trivial, by first | rfl | trivial, by first | exact hD0 | trivial, h⟩
                  clear hP KEY HC HS hno
                  have hc00 := HX.cell 0 0 rfl rfl
                  have hf00 := HX.free 0 0 rfl
                  have hc01 := HX.cell 0 1 rfl rfl
                  have hf01 := HX.free 0 1 rfl
                  have hc02 := HX.cell 0 2 rfl rfl
                  have hf02 := HX.free 0 2 rfl
                  try simp only [List.getElem_toArray, List.getElem_cons_zero, List.getElem_cons_succ] at hc00 hf00 hc01 hf01 hc02 hf02
                  go_wp2
                  clear hc00 hf00 hc01 hf01 hc02 hf02
                  have hk := HX.keep3 0 rfl rfl rfl rfl (by omega) (.bool false) (.slice none 0 0) (.slice none 0 0)
                  replace HX := HX.put3 0 rfl (by omega) (by intro k q hk hne; match k, hk with | 0, hk => (simp at hk; subst hk; simp at hne ⊢; try omega) | 1, hk => (simp at hk; subst hk; simp at hne ⊢; try omega) | 2, hk => (simp at hk; subst hk; simp at hne ⊢; try omega) | 3, hk => (simp at hk; subst hk; simp at hne ⊢; try omega) | k + 4, hk => simp at hk) (.bool false) (.slice none 0 0) (.slice none 0 0)
                  clear hk
                  simp only [List.set_cons_zero, List.set_cons_succ] at HX
                  have hc00 := HX.cell 0 0 rfl rfl
                  have hc01 := HX.cell 0 1 rfl rfl
                  have hc02 := HX.cell 0 2 rfl rfl
                  try simp only [List.getElem_toArray, List.getElem_cons_zero, List.getElem_cons_succ] at hc00 hc01 hc02
                  exact bodyPost_ret (v := .tuple #[.agg #[.bool false, .slice none 0 0, .slice none 0 0], .int .i64 3]) (by simp [results, Tryz.results11, go_sem, hc00, hc01, hc02]) rfl (HP.out _ _ ⟨rfl, HX.below⟩)
            · have HP : Hid (∀ e w', RetZE w 3 e w' → RetP w L e w') := Lib.hid (by
                rcases KEY.out with h | h
                · exact absurd h.2.1 (by decide)
                · exact h.2)
              clear KEY HC HS
              have hc00 := HX.cell 0 0 rfl rfl
              have hf00 := HX.free 0 0 rfl
              have hc01 := HX.cell 0 1 rfl rfl
              have hf01 := HX.free 0 1 rfl
              have hc02 := HX.cell 0 2 rfl rfl
              have hf02 := HX.free 0 2 rfl
              try simp only [List.getElem_toArray, List.getElem_cons_zero, List.getElem_cons_succ] at hc00 hf00 hc01 hf01 hc02 hf02
              go_wp2
              clear hc00 hf00 hc01 hf01 hc02 hf02
              have hk := HX.keep3 0 rfl rfl rfl rfl (by omega) (.bool false) (.slice none 0 0) (.slice none 0 0)
              replace HX := HX.put3 0 rfl (by omega) (by intro k q hk hne; match k, hk with | 0, hk => (simp at hk; subst hk; simp at hne ⊢; try omega) | 1, hk => (simp at hk; subst hk; simp at hne ⊢; try omega) | 2, hk => (simp at hk; subst hk; simp at hne ⊢; try omega) | k + 3, hk => simp at hk) (.bool false) (.slice none 0 0) (.slice none 0 0)
              clear hk
              simp only [List.set_cons_zero, List.set_cons_succ] at HX
              have hc00 := HX.cell 0 0 rfl rfl
              have hc01 := HX.cell 0 1 rfl rfl
              have hc02 := HX.cell 0 2 rfl rfl
              try simp only [List.getElem_toArray, List.getElem_cons_zero, List.getElem_cons_succ] at hc00 hc01 hc02
              exact bodyPost_ret (v := .tuple #[.agg #[.bool false, .slice none 0 0, .slice none 0 0], .int .i64 3]) (by simp [results, Tryz.results11, go_sem, hc00, hc01, hc02]) rfl (HP.out _ _ ⟨rfl, HX.below⟩)
          · have HP : Hid (∀ e w', RetZE w 3 e w' → RetP w L e w') := Lib.hid (by
              rcases KEY.out with h | h
              · exact absurd h.1 (by decide)
              · exact h.2)
            clear KEY HC HS
            have hc00 := HX.cell 0 0 rfl rfl
            have hf00 := HX.free 0 0 rfl
            have hc01 := HX.cell 0 1 rfl rfl
            have hf01 := HX.free 0 1 rfl
            have hc02 := HX.cell 0 2 rfl rfl
            have hf02 := HX.free 0 2 rfl
            try simp only [List.getElem_toArray, List.getElem_cons_zero, List.getElem_cons_succ] at hc00 hf00 hc01 hf01 hc02 hf02
            go_wp2
            clear hc00 hf00 hc01 hf01 hc02 hf02
            have hk := HX.keep3 0 rfl rfl rfl rfl (by omega) (.bool false) (.slice none 0 0) (.slice none 0 0)
            replace HX := HX.put3 0 rfl (by omega) (by intro k q hk hne; match k, hk with | 0, hk => (simp at hk; subst hk; simp at hne ⊢; try omega) | 1, hk => (simp at hk; subst hk; simp at hne ⊢; try omega) | 2, hk => (simp at hk; subst hk; simp at hne ⊢; try omega) | k + 3, hk => simp at hk) (.bool false) (.slice none 0 0) (.slice none 0 0)
            clear hk
            simp only [List.set_cons_zero, List.set_cons_succ] at HX
            have hc00 := HX.cell 0 0 rfl rfl
            have hc01 := HX.cell 0 1 rfl rfl
            have hc02 := HX.cell 0 2 rfl rfl
            try simp only [List.getElem_toArray, List.getElem_cons_zero, List.getElem_cons_succ] at hc00 hc01 hc02
            exact bodyPost_ret (v := .tuple #[.agg #[.bool false, .slice none 0 0, .slice none 0 0], .int .i64 3]) (by simp [results, Tryz.results11, go_sem, hc00, hc01, hc02]) rfl (HP.out _ _ ⟨rfl, HX.below⟩)
    · go_enter Tryz.func11, Tryz.ntmps11
      go_wp2
      go_loopg [6, 7, 8] L.length (fun k y z x wr => ∃ j : Nat, j + k = L.length ∧ Hid (47 ∉ (L).take j) ∧ y = .string (str (L)) ∧ z = .string ⟨#[49]⟩ ∧ x = .int .i64 (j : Int) ∧ wr = w.alloc (.cells #[.bool false, .slice none 0 0, .slice none 0 0] 27))
      case atStart => exact ⟨0, by omega, Lib.hid (by simp), rfl, rfl, rfl, rfl⟩
      case round =>
        obtain ⟨j, hj, hno, rfl, rfl, rfl, rfl⟩ := hrel
        by_cases hj0 : j < L.length
        · exact absurd hj0 (by omega)
        · have hcut : cutAt 47 (L) = (L, [], false) := cutAt_none (by have := hno.out; rwa [List.take_of_length_le (by omega)] at this)
          obtain ⟨⟨hN, hlN⟩, ⟨hD, hlD⟩, hQ⟩ := HC.out _ false _ _ _ hfr hfs hcut
          simp only [if_false, Bool.false_eq_true] at hD hlD
          have HN := Lib.hid hN
          have HD := Lib.hid hD
          have HQ := Lib.hid hQ
          clear hN hD hQ hcut hno
          go_wp2_with fail
          refine (rparse_e (L := L) _ HN (by omega)).mono ?_
          rintro e w3 ⟨A3, c3, rfl, F3, hb⟩
          replace HX := HX.ext hb
          clear hb
          go_upto_region 13 with fail
          have hg4 : w.heap.size < w3.heap.size := HX.lt 0 rfl
          have hb := below_alloc w3 (.cells #[.slice A3 (dig N).length c3] 25)
          replace HX := HX.new #[.slice A3 (dig N).length c3] 25
          simp only [List.cons_append, List.nil_append] at HX
          replace F3 := F3.ext hb
          clear hb
          generalize w3.alloc (.cells #[.slice A3 (dig N).length c3] 25) = W4 at *
          generalize w3.heap.size = g4 at *
          go_wp2_with fail
          refine (rparse_e (L := [49]) _ HD (by simp)).mono ?_
          rintro e w5 ⟨A5, c5, rfl, F5, hb⟩
          replace HX := HX.ext hb
          replace F3 := F3.ext hb
          clear hb
          go_upto_region 14 with fail
          have hg6 : w.heap.size < w5.heap.size := HX.lt 0 rfl
          have hb := below_alloc w5 (.cells #[.slice A5 (dig D).length c5] 25)
          replace HX := HX.new #[.slice A5 (dig D).length c5] 25
          simp only [List.cons_append, List.nil_append] at HX
          replace F3 := F3.ext hb
          replace F5 := F5.ext hb
          clear hb
          generalize w5.alloc (.cells #[.slice A5 (dig D).length c5] 25) = W6 at *
          generalize w5.heap.size = g6 at *
          rcases hEc.out with rfl | rfl
          · rcases hGc.out with rfl | rfl
            · have hc20 := HX.cell 2 0 rfl rfl
              try simp only [List.getElem_toArray, List.getElem_cons_zero, List.getElem_cons_succ] at hc20
              go_wp2_with fail
              refine (qzero_any A5 _ c5 (dig D) _ F5 rfl (by omega)).mono ?_
              rw [val_dig]
              rintro e w6 ⟨rfl, hb⟩
              clear hc20
              replace HX := HX.ext hb
              replace F3 := F3.ext hb
              replace F5 := F5.ext hb
              clear hb
              by_cases hD0 : D = 0
              · rw [decide_eq_true hD0]
                have HP : Hid (∀ e w', RetZE w 3 e w' → RetP w L e w') := Lib.hid (by
                  rcases KEY.out with h | h
                  · exact absurd hD0 h.2.2.1
                  · exact h.2)
                clear KEY HC HS
                have hc00 := HX.cell 0 0 rfl rfl
                have hf00 := HX.free 0 0 rfl
                have hc01 := HX.cell 0 1 rfl rfl
                have hf01 := HX.free 0 1 rfl
                have hc02 := HX.cell 0 2 rfl rfl
                have hf02 := HX.free 0 2 rfl
                try simp only [List.getElem_toArray, List.getElem_cons_zero, List.getElem_cons_succ] at hc00 hf00 hc01 hf01 hc02 hf02
                go_wp2
                clear hc00 hf00 hc01 hf01 hc02 hf02
                have hk := HX.keep3 0 rfl rfl rfl rfl (by omega) (.bool false) (.slice none 0 0) (.slice none 0 0)
                replace HX := HX.put3 0 rfl (by omega) (by intro k q hk hne; match k, hk with | 0, hk => (simp at hk; subst hk; simp at hne ⊢; try omega) | 1, hk => (simp at hk; subst hk; simp at hne ⊢; try omega) | 2, hk => (simp at hk; subst hk; simp at hne ⊢; try omega) | k + 3, hk => simp at hk) (.bool false) (.slice none 0 0) (.slice none 0 0)
                clear hk
                simp only [List.set_cons_zero, List.set_cons_succ] at HX
                have hc00 := HX.cell 0 0 rfl rfl
                have hc01 := HX.cell 0 1 rfl rfl
                have hc02 := HX.cell 0 2 rfl rfl
                try simp only [List.getElem_toArray, List.getElem_cons_zero, List.getElem_cons_succ] at hc00 hc01 hc02
                exact bodyPost_ret (v := .tuple #[.agg #[.bool false, .slice none 0 0, .slice none 0 0], .int .i64 3]) (by simp [results, Tryz.results11, go_sem, hc00, hc01, hc02]) rfl (HP.out _ _ ⟨rfl, HX.below⟩)
              · rw [decide_eq_false hD0]
                have hc10 := HX.cell 1 0 rfl rfl
                have hc20 := HX.cell 2 0 rfl rfl
                try simp only [List.getElem_toArray, List.getElem_cons_zero, List.getElem_cons_succ] at hc10 hc20
                go_wp2_with fail
                refine (qmade_any false A3 A5 _ _ c3 c5 (dig N) (dig D) _ F3 F5 rfl rfl (by omega) (by omega)).mono ?_
                rw [val_dig, val_dig, HQ.out]
                rintro e w7 ⟨A7, c7, B7, d7, rfl, N7, D7, hb⟩
                clear hc10 hc20
                replace HX := HX.ext hb
                replace F3 := F3.ext hb
                replace F5 := F5.ext hb
                clear hb
                clear F3 F5
                go_upto_region 17 with fail
                have hg8 : w.heap.size < w7.heap.size := HX.lt 0 rfl
                have hb := below_alloc w7 (.cells #[.bool (sg q), .slice A7 (dig (nu q)).length c7, .slice B7 (dig q.den).length d7] 27)
                replace HX := HX.new #[.bool (sg q), .slice A7 (dig (nu q)).length c7, .slice B7 (dig q.den).length d7] 27
                simp only [List.cons_append, List.nil_append] at HX
                replace N7 := N7.ext hb
                replace D7 := D7.ext hb
                clear hb
                generalize w7.alloc (.cells #[.bool (sg q), .slice A7 (dig (nu q)).length c7, .slice B7 (dig q.den).length d7] 27) = W8 at *
                generalize w7.heap.size = g8 at *
                have hc30 := HX.cell 3 0 rfl rfl
                have hc31 := HX.cell 3 1 rfl rfl
                have hc32 := HX.cell 3 2 rfl rfl
                try simp only [List.getElem_toArray, List.getElem_cons_zero, List.getElem_cons_succ] at hc30 hc31 hc32
                go_wp2_with fail
                refine (qtext_any _ (Fr.of N7 D7 hSz) (by omega)).mono ?_
                rw [HM.out]
                rintro e w9 ⟨rfl, hb⟩
                clear hc30 hc31 hc32
                replace HX := HX.ext hb
                replace N7 := N7.ext hb
                replace D7 := D7.ext hb
                clear hb
                rcases KEY.out with ⟨_, _, _, hML, hP⟩ | ⟨hno, hP⟩
                · have HP := Lib.hid hP
                  have hself : ((str M).toList == (str L).toList) = true := by rw [hML]; exact beq_self_eq_true _
                  clear hP KEY HC HS hML
                  have hc30 := HX.cell 3 0 rfl rfl
                  have hc31 := HX.cell 3 1 rfl rfl
                  have hc32 := HX.cell 3 2 rfl rfl
                  try simp only [List.getElem_toArray, List.getElem_cons_zero, List.getElem_cons_succ] at hc30 hc31 hc32
                  have hc00 := HX.cell 0 0 rfl rfl
                  have hf00 := HX.free 0 0 rfl
                  have hc01 := HX.cell 0 1 rfl rfl
                  have hf01 := HX.free 0 1 rfl
                  have hc02 := HX.cell 0 2 rfl rfl
                  have hf02 := HX.free 0 2 rfl
                  try simp only [List.getElem_toArray, List.getElem_cons_zero, List.getElem_cons_succ] at hc00 hf00 hc01 hf01 hc02 hf02
                  go_wp2
                  clear hc00 hf00 hc01 hf01 hc02 hf02
                  clear hc30 hc31 hc32
                  have hk := HX.keep3 0 rfl rfl rfl rfl (by omega) (.bool (sg q)) (.slice A7 (dig (nu q)).length c7) (.slice B7 (dig q.den).length d7)
                  replace HX := HX.put3 0 rfl (by omega) (by intro k q hk hne; match k, hk with | 0, hk => (simp at hk; subst hk; simp at hne ⊢; try omega) | 1, hk => (simp at hk; subst hk; simp at hne ⊢; try omega) | 2, hk => (simp at hk; subst hk; simp at hne ⊢; try omega) | 3, hk => (simp at hk; subst hk; simp at hne ⊢; try omega) | k + 4, hk => simp at hk) (.bool (sg q)) (.slice A7 (dig (nu q)).length c7) (.slice B7 (dig q.den).length d7)
                  replace N7 := N7.stay hk
                  replace D7 := D7.stay hk
                  clear hk
                  simp only [List.set_cons_zero, List.set_cons_succ] at HX
                  have hc00 := HX.cell 0 0 rfl rfl
                  have hc01 := HX.cell 0 1 rfl rfl
                  have hc02 := HX.cell 0 2 rfl rfl
                  try simp only [List.getElem_toArray, List.getElem_cons_zero, List.getElem_cons_succ] at hc00 hc01 hc02
                  exact bodyPost_ret (v := .tuple #[.agg #[.bool (sg q), .slice A7 (dig (nu q)).length c7, .slice B7 (dig q.den).length d7], .int .i64 0]) (by simp [results, Tryz.results11, go_sem, hc00, hc01, hc02]) rfl (HP.out _ _ ⟨A7, c7, B7, d7, rfl, ⟨N7, D7, hSz⟩, HX.below⟩)
                · have HP := Lib.hid hP
                  have hne : ((str M).toList == (str L).toList) = false := by rw [str_toList, str_toList, beq_eq_false_iff_ne]; exact fun h => hno ⟨by first | rfl | trivial, by first | rfl | trivial, by first | exact hD0 | trivial, h⟩
                  clear hP KEY HC HS hno
                  have hc00 := HX.cell 0 0 rfl rfl
                  have hf00 := HX.free 0 0 rfl
                  have hc01 := HX.cell 0 1 rfl rfl
                  have hf01 := HX.free 0 1 rfl
                  have hc02 := HX.cell 0 2 rfl rfl
                  have hf02 := HX.free 0 2 rfl
                  try simp only [List.getElem_toArray, List.getElem_cons_zero, List.getElem_cons_succ] at hc00 hf00 hc01 hf01 hc02 hf02
                  go_wp2
                  clear hc00 hf00 hc01 hf01 hc02 hf02
                  have hk := HX.keep3 0 rfl rfl rfl rfl (by omega) (.bool false) (.slice none 0 0) (.slice none 0 0)
                  replace HX := HX.put3 0 rfl (by omega) (by intro k q hk hne; match k, hk with | 0, hk => (simp at hk; subst hk; simp at hne ⊢; try omega) | 1, hk => (simp at hk; subst hk; simp at hne ⊢; try omega) | 2, hk => (simp at hk; subst hk; simp at hne ⊢; try omega) | 3, hk => (simp at hk; subst hk; simp at hne ⊢; try omega) | k + 4, hk => simp at hk) (.bool false) (.slice none 0 0) (.slice none 0 0)
                  clear hk
                  simp only [List.set_cons_zero, List.set_cons_succ] at HX
                  have hc00 := HX.cell 0 0 rfl rfl
                  have hc01 := HX.cell 0 1 rfl rfl
                  have hc02 := HX.cell 0 2 rfl rfl
                  try simp only [List.getElem_toArray, List.getElem_cons_zero, List.getElem_cons_succ] at hc00 hc01 hc02
                  exact bodyPost_ret (v := .tuple #[.agg #[.bool false, .slice none 0 0, .slice none 0 0], .int .i64 3]) (by simp [results, Tryz.results11, go_sem, hc00, hc01, hc02]) rfl (HP.out _ _ ⟨rfl, HX.below⟩)
            · have HP : Hid (∀ e w', RetZE w 3 e w' → RetP w L e w') := Lib.hid (by
                rcases KEY.out with h | h
                · exact absurd h.2.1 (by decide)
                · exact h.2)
              clear KEY HC HS
              have hc00 := HX.cell 0 0 rfl rfl
              have hf00 := HX.free 0 0 rfl
              have hc01 := HX.cell 0 1 rfl rfl
              have hf01 := HX.free 0 1 rfl
              have hc02 := HX.cell 0 2 rfl rfl
              have hf02 := HX.free 0 2 rfl
              try simp only [List.getElem_toArray, List.getElem_cons_zero, List.getElem_cons_succ] at hc00 hf00 hc01 hf01 hc02 hf02
              go_wp2
              clear hc00 hf00 hc01 hf01 hc02 hf02
              have hk := HX.keep3 0 rfl rfl rfl rfl (by omega) (.bool false) (.slice none 0 0) (.slice none 0 0)
              replace HX := HX.put3 0 rfl (by omega) (by intro k q hk hne; match k, hk with | 0, hk => (simp at hk; subst hk; simp at hne ⊢; try omega) | 1, hk => (simp at hk; subst hk; simp at hne ⊢; try omega) | 2, hk => (simp at hk; subst hk; simp at hne ⊢; try omega) | k + 3, hk => simp at hk) (.bool false) (.slice none 0 0) (.slice none 0 0)
              clear hk
              simp only [List.set_cons_zero, List.set_cons_succ] at HX
              have hc00 := HX.cell 0 0 rfl rfl
              have hc01 := HX.cell 0 1 rfl rfl
              have hc02 := HX.cell 0 2 rfl rfl
              try simp only [List.getElem_toArray, List.getElem_cons_zero, List.getElem_cons_succ] at hc00 hc01 hc02
              exact bodyPost_ret (v := .tuple #[.agg #[.bool false, .slice none 0 0, .slice none 0 0], .int .i64 3]) (by simp [results, Tryz.results11, go_sem, hc00, hc01, hc02]) rfl (HP.out _ _ ⟨rfl, HX.below⟩)
          · have HP : Hid (∀ e w', RetZE w 3 e w' → RetP w L e w') := Lib.hid (by
              rcases KEY.out with h | h
              · exact absurd h.1 (by decide)
              · exact h.2)
            clear KEY HC HS
            have hc00 := HX.cell 0 0 rfl rfl
            have hf00 := HX.free 0 0 rfl
            have hc01 := HX.cell 0 1 rfl rfl
            have hf01 := HX.free 0 1 rfl
            have hc02 := HX.cell 0 2 rfl rfl
            have hf02 := HX.free 0 2 rfl
            try simp only [List.getElem_toArray, List.getElem_cons_zero, List.getElem_cons_succ] at hc00 hf00 hc01 hf01 hc02 hf02
            go_wp2
            clear hc00 hf00 hc01 hf01 hc02 hf02
            have hk := HX.keep3 0 rfl rfl rfl rfl (by omega) (.bool false) (.slice none 0 0) (.slice none 0 0)
            replace HX := HX.put3 0 rfl (by omega) (by intro k q hk hne; match k, hk with | 0, hk => (simp at hk; subst hk; simp at hne ⊢; try omega) | 1, hk => (simp at hk; subst hk; simp at hne ⊢; try omega) | 2, hk => (simp at hk; subst hk; simp at hne ⊢; try omega) | k + 3, hk => simp at hk) (.bool false) (.slice none 0 0) (.slice none 0 0)
            clear hk
            simp only [List.set_cons_zero, List.set_cons_succ] at HX
            have hc00 := HX.cell 0 0 rfl rfl
            have hc01 := HX.cell 0 1 rfl rfl
            have hc02 := HX.cell 0 2 rfl rfl
            try simp only [List.getElem_toArray, List.getElem_cons_zero, List.getElem_cons_succ] at hc00 hc01 hc02
            exact bodyPost_ret (v := .tuple #[.agg #[.bool false, .slice none 0 0, .slice none 0 0], .int .i64 3]) (by simp [results, Tryz.results11, go_sem, hc00, hc01, hc02]) rfl (HP.out _ _ ⟨rfl, HX.below⟩)
theorem qparse_any (L : List UInt8) (w : World) (hL : L.length ≤ 9223372036854775807) (hs : L.length ≤ 3000 ∨ 4000 < L.length) :
    Calls Tryz.prog 11 #[.string (str L)] w (RetP w L) := by
  rcases hs with h | h
  · exact qparse_short L w h
  · exact qparse_long L w hL h
end Go.Proofs.YtajddhkepbnilaaGreatDoor
