/- A number in decimal notation, read: fraction.ParseDecimal. -/
import Derived.Test.YtajddhkepbnilaaGreatDoorFParse
import Derived.Test.YtajddhkepbnilaaGreatDoorPoMath
namespace Go.Proofs.YtajddhkepbnilaaGreatDoor
open Go.RowKit Go.Proofs Go

set_option maxRecDepth 100000 in
theorem fdigits_any {L : List UInt8} {b : Bool} (w : World) (hb : Hid (digs L = b)) (hl : L.length ≤ 4000) :
    Calls Tryz.prog 52 #[.string (str L)] w fun e w' => e = .returned (.bool b) ∧ Below w.heap.size w w' := by
  cases he : L.isEmpty with
  | true =>
    have h1 : (str L).toList.isEmpty = true := by rw [str_toList]; exact he
    have h2 : b = false := by rw [← hb.out, digs, he]; simp
    subst h2
    clear he
    go_enter Tryz.func52, Tryz.ntmps52
    go_wp2
    go_ret
    exact ⟨rfl, Below.refl _ _⟩
  | false =>
    have h1 : (str L).toList.isEmpty = false := by rw [str_toList]; exact he
    have h2 : (str (Lib.trimS L ten)).toList.isEmpty = b := by
      rw [str_toList, ← hb.out, digs, he, Bool.eq_iff_iff, List.isEmpty_iff, trim_nil]; simp
    clear he
    go_enter Tryz.func52, Tryz.ntmps52
    go_wp2_with fail
    refine (stringsTrim_any L _ hl).mono ?_
    rintro e w1 ⟨rfl, hb1⟩
    go_wp2
    go_ret
    exact ⟨by first | rfl | simp, hb1⟩
theorem stl_any (M : List UInt8) (w : World) :
    Calls Tryz.prog 53 #[.string (str M), .string ⟨#[48]⟩] w fun e w' => e = .returned (.string (str (Lib.trimLeftB M 48))) ∧ Below w.heap.size w w' := by
  refine (Tryz.strings_TrimLeft_one (str M) 48 (by decide) w).mono ?_
  rintro e w' ⟨h, rfl⟩
  exact ⟨by rw [h]; simp [str], Below.refl _ _⟩

set_option maxHeartbeats 1000000 in
set_option maxRecDepth 100000 in
theorem fpoint_long (L : List UInt8) (w : World) (hL : L.length ≤ 9223372036854775807) (h1 : 200 < L.length) :
    Calls Tryz.prog 18 #[.string (str L)] w (RetD w L) := by
  have hsz : (str L).size = L.length := str_size L
  have HP := Lib.hid (show ∀ e w', RetZE w 6 e w' → RetD w L e w' from fun e w' h => by rw [RetD, if_pos h1]; exact h)
  go_enter Tryz.func18, Tryz.ntmps18
  have HX := BL.one w #[.bool false, .slice none 0 0, .slice none 0 0] 27
  have hc00 := HX.cell 0 0 rfl rfl
  have hf00 := HX.free 0 0 rfl
  have hc01 := HX.cell 0 1 rfl rfl
  have hf01 := HX.free 0 1 rfl
  have hc02 := HX.cell 0 2 rfl rfl
  have hf02 := HX.free 0 2 rfl
  try simp only [List.getElem_toArray, List.getElem_cons_zero, List.getElem_cons_succ] at hc00 hf00 hc01 hf01 hc02 hf02
  go_wp2
  clear hc00 hf00 hc01 hf01 hc02 hf02
  have hc00 := HX.cell 0 0 rfl rfl
  have hc01 := HX.cell 0 1 rfl rfl
  have hc02 := HX.cell 0 2 rfl rfl
  try simp only [List.getElem_toArray, List.getElem_cons_zero, List.getElem_cons_succ] at hc00 hc01 hc02
  exact bodyPost_ret (v := .tuple #[.agg #[.bool false, .slice none 0 0, .slice none 0 0], .int .i64 6]) (by simp [results, Tryz.results18, go_sem, hc00, hc01, hc02]) rfl (HP.out _ _ ⟨rfl, HX.below⟩)

set_option maxHeartbeats 4000000 in
set_option maxRecDepth 100000 in
theorem fpoint_short (L : List UInt8) (w : World) (hL : L.length ≤ 200) (hm : Mx w) (hT : Tab w) :
    Calls Tryz.prog 18 #[.string (str L)] w (RetD w L) := by
  have hsz : (str L).size = L.length := str_size L
  obtain ⟨W, P, f, hcut⟩ : ∃ W P f, cutAt 46 (frest L) = (W, P, f) := ⟨_, _, _, rfl⟩
  obtain ⟨σ, hσ⟩ : ∃ σ, fneg L = σ := ⟨_, rfl⟩
  have hW : dwh L = W := by rw [dwh, hcut]
  have hP : dpt L = P := by rw [dpt, hcut]
  have hF : dfo L = f := by rw [dfo, hcut]
  have hfl := frest_len L
  have hlen : W.length + P.length ≤ 200 := by have := cut_both (c := 46) (frest L); rw [hcut] at this; simp only [] at this; omega
  obtain ⟨a, ha⟩ : ∃ a, digs W = a := ⟨_, rfl⟩
  obtain ⟨b, hb0⟩ : ∃ b, digs P = b := ⟨_, rfl⟩
  obtain ⟨l, hl⟩ : ∃ l, lead W = l := ⟨_, rfl⟩
  obtain ⟨q, hq⟩ : ∃ q, rv σ (dval 0 (W ++ P)) (10 ^ P.length) = q := ⟨_, rfl⟩
  have hP0 : f = false → P = [] := fun h => by have := cut_found (c := 46) (frest L); rw [hcut] at this; exact this h
  have HB : Hid ((a && !(f && !b) && !l) = false → ∀ e w', RetZE w 3 e w' → RetD w L e w') := Lib.hid (fun h e w' h2 => by
    have hd : dok L = false := by rw [dok, hW, hP, hF, ha, hb0, hl]; exact h
    rw [RetD, if_neg (by omega), hd]; exact h2)
  have HG : Hid ((a && !(f && !b) && !l) = true → ∀ e w', RetGE w q 30 e w' → RetD w L e w') := Lib.hid (fun h e w' h2 => by
    have hd : dok L = true := by rw [dok, hW, hP, hF, ha, hb0, hl]; exact h
    have he : dq L = q := by rw [dq, hW, hP, hσ, hq]
    rw [RetD, if_neg (by omega), hd, if_pos rfl, he]; exact h2)
  have HD : Hid ((a && !(f && !b) && !l) = true → (W ++ P).all isDig = true) := Lib.hid (fun h => by
    have h1 : W.all isDig = true := by
      have : a = true := by revert h; cases a <;> simp
      rw [this, digs] at ha; simp only [Bool.and_eq_true] at ha; exact ha.1
    have h2 : P.all isDig = true := by
      cases hf : f with
      | false => rw [hP0 hf]; rfl
      | true =>
        have : b = true := by revert h; rw [hf]; cases a <;> cases b <;> simp
        rw [this, digs] at hb0; simp only [Bool.and_eq_true] at hb0; exact hb0.1
    rw [List.all_append, h1, h2]; rfl)
  have H1 := Lib.hid (show (if L.head? == some 45 then L.tail else L) = frest L ∧ (L.head? == some 45) = σ from ⟨rfl, hσ⟩)
  have H2 := Lib.hid hcut
  have HA := Lib.hid ha
  have HB2 := Lib.hid hb0
  have HL := Lib.hid hl
  have HQ := Lib.hid hq
  have hszW : (str W).size = W.length := str_size W
  have hszP : (str P).size = P.length := str_size P
  have hap : str W ++ str P = str (W ++ P) := str_append W P
  have HAP := Lib.hid hap
  clear hcut hσ hW hP hF ha hb0 hl hq hP0 hap
  go_enter Tryz.func18, Tryz.ntmps18
  go_wp2_with fail
  have HX := BL.one w #[.bool false, .slice none 0 0, .slice none 0 0] 27
  replace hm := hm.ext HX.below
  replace hT := hT.ext HX.below
  refine (scutp_any _ H1 (by omega)).mono ?_
  rintro e w1 ⟨rfl, hb⟩
  replace HX := HX.ext hb
  replace hm := hm.ext hb
  replace hT := hT.ext hb
  clear hb
  go_wp2_with fail
  refine (scut_any _ H2 hm (by omega)).mono ?_
  rintro e w2 ⟨rfl, hb⟩
  replace HX := HX.ext hb
  replace hm := hm.ext hb
  replace hT := hT.ext hb
  clear hb
  clear hm
  go_wp2_with fail
  refine (fdigits_any _ HA (by omega)).mono ?_
  rintro e w3 ⟨rfl, hb⟩
  replace HX := HX.ext hb
  replace hT := hT.ext hb
  clear hb
  cases a
  · have HP := Lib.hid (HB.out rfl)
    clear HB HG HD
    have hc00 := HX.cell 0 0 rfl rfl
    have hf00 := HX.free 0 0 rfl
    have hc01 := HX.cell 0 1 rfl rfl
    have hf01 := HX.free 0 1 rfl
    have hc02 := HX.cell 0 2 rfl rfl
    have hf02 := HX.free 0 2 rfl
    try simp only [List.getElem_toArray, List.getElem_cons_zero, List.getElem_cons_succ] at hc00 hf00 hc01 hf01 hc02 hf02
    go_wp2
    clear hc00 hf00 hc01 hf01 hc02 hf02
    have hk := HX.keep3 0 rfl rfl rfl rfl (by omega) (.bool false) (.slice none 0 0) (.slice none 0 0)
    replace HX := HX.put3 0 rfl (by omega) (by intro k q hk hne; match k, hk with | 0, hk => (simp at hk; subst hk; simp at hne ⊢; try omega) | k + 1, hk => simp at hk) (.bool false) (.slice none 0 0) (.slice none 0 0)
    clear hk
    simp only [List.set_cons_zero, List.set_cons_succ] at HX
    have hc00 := HX.cell 0 0 rfl rfl
    have hc01 := HX.cell 0 1 rfl rfl
    have hc02 := HX.cell 0 2 rfl rfl
    try simp only [List.getElem_toArray, List.getElem_cons_zero, List.getElem_cons_succ] at hc00 hc01 hc02
    exact bodyPost_ret (v := .tuple #[.agg #[.bool false, .slice none 0 0, .slice none 0 0], .int .i64 3]) (by simp [results, Tryz.results18, go_sem, hc00, hc01, hc02]) rfl (HP.out _ _ ⟨rfl, HX.below⟩)
  · cases f
    · have HLo := HL.out
      by_cases hw1 : 1 < W.length
      · have hw0 : 0 < W.length := by omega
        have hix : ∀ h, (str W)[0]'h = W[0]'hw0 := fun _ => rfl
        rw [lead, decide_eq_true hw1, Bool.true_and, List.head?_eq_getElem?, List.getElem?_eq_getElem hw0] at HLo
        by_cases hw48 : W[0]'hw0 = 48
        · have hw : ((((W[0]'hw0).toNat : Nat) : Int) == 48) = true := by rw [hw48]; rfl
          obtain rfl : l = true := by rw [← HLo, hw48]; rfl
          clear HLo
          generalize W[0]'hw0 = b0 at *
          clear hw48 HL
          have HP := Lib.hid (HB.out rfl)
          clear HB HG HD
          have hc00 := HX.cell 0 0 rfl rfl
          have hf00 := HX.free 0 0 rfl
          have hc01 := HX.cell 0 1 rfl rfl
          have hf01 := HX.free 0 1 rfl
          have hc02 := HX.cell 0 2 rfl rfl
          have hf02 := HX.free 0 2 rfl
          try simp only [List.getElem_toArray, List.getElem_cons_zero, List.getElem_cons_succ] at hc00 hf00 hc01 hf01 hc02 hf02
          go_wp2
          clear hc00 hf00 hc01 hf01 hc02 hf02
          have hk := HX.keep3 0 rfl rfl rfl rfl (by omega) (.bool false) (.slice none 0 0) (.slice none 0 0)
          replace HX := HX.put3 0 rfl (by omega) (by intro k q hk hne; match k, hk with | 0, hk => (simp at hk; subst hk; simp at hne ⊢; try omega) | k + 1, hk => simp at hk) (.bool false) (.slice none 0 0) (.slice none 0 0)
          clear hk
          simp only [List.set_cons_zero, List.set_cons_succ] at HX
          have hc00 := HX.cell 0 0 rfl rfl
          have hc01 := HX.cell 0 1 rfl rfl
          have hc02 := HX.cell 0 2 rfl rfl
          try simp only [List.getElem_toArray, List.getElem_cons_zero, List.getElem_cons_succ] at hc00 hc01 hc02
          exact bodyPost_ret (v := .tuple #[.agg #[.bool false, .slice none 0 0, .slice none 0 0], .int .i64 3]) (by simp [results, Tryz.results18, go_sem, hc00, hc01, hc02]) rfl (HP.out _ _ ⟨rfl, HX.below⟩)
        · have hw : ((((W[0]'hw0).toNat : Nat) : Int) == 48) = false := by
            rw [beq_eq_false_iff_ne]
            intro h
            refine hw48 (UInt8.toNat_inj.1 ?_)
            have : (48 : UInt8).toNat = 48 := rfl
            omega
          obtain rfl : l = false := by rw [← HLo]; simpa using hw48
          clear HLo
          generalize W[0]'hw0 = b0 at *
          clear hw48 HL
          have HP := Lib.hid (HG.out rfl)
          have hall := HD.out rfl
          have hz := zs_parse hall (by rw [List.length_append]; omega)
          have zN := val_len hall (by rw [List.length_append]; omega)
          have zD := ten_len (k := P.length) (by omega)
          obtain ⟨N, hN⟩ : ∃ N, dval 0 (W ++ P) = N := ⟨_, rfl⟩
          obtain ⟨D, hD⟩ : ∃ D, 10 ^ P.length = D := ⟨_, rfl⟩
          rw [hN] at hz zN
          rw [hD] at zD
          have HQ2 := HQ.out
          rw [hN, hD] at HQ2
          have hSz : Sz q 30 := HQ2 ▸ Sz.of_rv (by omega) (by omega) (by omega)
          have HQ3 := Lib.hid HQ2
          have HD2 := Lib.hid hD
          have hap := HAP.out
          clear HB HG HD HQ hall hN hD HQ2
          go_wp2_with fail
          refine (stl_any (W ++ P) _).mono ?_
          rintro e w4 ⟨rfl, hb⟩
          replace HX := HX.ext hb
          replace hT := hT.ext hb
          clear hb
          clear hap
          obtain ⟨S, hS⟩ : ∃ S, Lib.trimLeftB (W ++ P) 48 = S := ⟨_, rfl⟩
          have hlS : S.length ≤ 200 := by have := tlb_len (W ++ P); rw [hS, List.length_append] at this; omega
          rw [zs, hS] at hz
          rw [hS]
          clear hS
          cases hE : S.isEmpty
          · rw [hE] at hz
            simp only [if_true, if_false, Bool.false_eq_true] at hz
            have HZ := Lib.hid hz
            clear hz
            have hse : (str S).toList.isEmpty = false := by rw [str_toList]; exact hE
            clear hE
            go_wp2_with fail
            refine (nparse_e (L := S) _ HZ (by omega)).mono ?_
            rintro e w5 ⟨A5, c5, rfl, F5, hb⟩
            replace HX := HX.ext hb
            replace hT := hT.ext hb
            clear hb
            go_upto_region 11 with fail
            have hg5 : w.heap.size < w5.heap.size := HX.lt 0 rfl
            have hb := below_alloc w5 (.cells #[.slice A5 (dig N).length c5] 25)
            replace HX := HX.new #[.slice A5 (dig N).length c5] 25
            simp only [List.cons_append, List.nil_append] at HX
            replace hT := hT.ext hb
            replace F5 := F5.ext hb
            clear hb
            generalize w5.alloc (.cells #[.slice A5 (dig N).length c5] 25) = W5 at *
            generalize w5.heap.size = g5 at *
            go_wp2_with fail
            refine (nof_any 10 _ (by omega)).mono ?_
            rintro e w6 ⟨A6, c6, rfl, F6, hb⟩
            replace HX := HX.ext hb
            replace hT := hT.ext hb
            replace F5 := F5.ext hb
            clear hb
            have hl10 : (dig 10).length ≤ 1 := dig_len_le (by decide)
            have hnd : Lib.nDigits (val (dig 10)) * P.length ≤ 4000 := by rw [val_dig]; have : Lib.nDigits 10 = 2 := by decide +kernel
                                                                          rw [this]; omega
            go_wp2_with fail
            refine (npow_any A6 _ c6 (dig 10) P.length _ F6 rfl (by omega) hT (by omega) hnd).mono ?_
            rw [val_dig, HD2.out]
            rintro e w8 ⟨A8, c8, rfl, F8, hb⟩
            replace HX := HX.ext hb
            replace hT := hT.ext hb
            replace F5 := F5.ext hb
            replace F6 := F6.ext hb
            clear hb
            clear F6
            go_upto_region 12 with fail
            have hg8 : w.heap.size < w8.heap.size := HX.lt 0 rfl
            have hb := below_alloc w8 (.cells #[.slice A8 (dig D).length c8] 25)
            replace HX := HX.new #[.slice A8 (dig D).length c8] 25
            simp only [List.cons_append, List.nil_append] at HX
            replace hT := hT.ext hb
            replace F5 := F5.ext hb
            replace F8 := F8.ext hb
            clear hb
            generalize w8.alloc (.cells #[.slice A8 (dig D).length c8] 25) = W8 at *
            generalize w8.heap.size = g8 at *
            have hc10 := HX.cell 1 0 rfl rfl
            have hc20 := HX.cell 2 0 rfl rfl
            try simp only [List.getElem_toArray, List.getElem_cons_zero, List.getElem_cons_succ] at hc10 hc20
            go_wp2_with fail
            refine (fmade_any σ A5 A8 _ _ c5 c8 (dig N) (dig D) _ F5 F8 rfl rfl (by omega) (by omega)).mono ?_
            rw [val_dig, val_dig, HQ3.out]
            rintro e w9 ⟨A7, c7, B7, d7, rfl, N7, D7, hb⟩
            clear hc10 hc20
            replace HX := HX.ext hb
            replace hT := hT.ext hb
            replace F5 := F5.ext hb
            replace F8 := F8.ext hb
            clear hb
            clear F5 F8
            have hc00 := HX.cell 0 0 rfl rfl
            have hf00 := HX.free 0 0 rfl
            have hc01 := HX.cell 0 1 rfl rfl
            have hf01 := HX.free 0 1 rfl
            have hc02 := HX.cell 0 2 rfl rfl
            have hf02 := HX.free 0 2 rfl
            try simp only [List.getElem_toArray, List.getElem_cons_zero, List.getElem_cons_succ] at hc00 hf00 hc01 hf01 hc02 hf02
            go_wp2
            clear hc00 hf00 hc01 hf01 hc02 hf02
            have hk := HX.keep3 0 rfl rfl rfl rfl (by omega) (.bool (sg q)) (.slice A7 (dig (nu q)).length c7) (.slice B7 (dig q.den).length d7)
            replace HX := HX.put3 0 rfl (by omega) (by intro k q hk hne; match k, hk with | 0, hk => (simp at hk; subst hk; simp at hne ⊢; try omega) | 1, hk => (simp at hk; subst hk; simp at hne ⊢; try omega) | 2, hk => (simp at hk; subst hk; simp at hne ⊢; try omega) | k + 3, hk => simp at hk) (.bool (sg q)) (.slice A7 (dig (nu q)).length c7) (.slice B7 (dig q.den).length d7)
            replace N7 := N7.stay hk
            replace D7 := D7.stay hk
            clear hk
            simp only [List.set_cons_zero, List.set_cons_succ] at HX
            have hc00 := HX.cell 0 0 rfl rfl
            have hc01 := HX.cell 0 1 rfl rfl
            have hc02 := HX.cell 0 2 rfl rfl
            try simp only [List.getElem_toArray, List.getElem_cons_zero, List.getElem_cons_succ] at hc00 hc01 hc02
            exact bodyPost_ret (v := .tuple #[.agg #[.bool (sg q), .slice A7 (dig (nu q)).length c7, .slice B7 (dig q.den).length d7], .int .i64 0]) (by simp [results, Tryz.results18, go_sem, hc00, hc01, hc02]) rfl (HP.out _ _ ⟨A7, c7, B7, d7, rfl, ⟨N7, D7, hSz⟩, HX.below⟩)
          · rw [hE] at hz
            simp only [if_true, if_false, Bool.false_eq_true] at hz
            have HZ := Lib.hid hz
            clear hz
            have hse : (str S).toList.isEmpty = true := by rw [str_toList]; exact hE
            clear hE
            go_wp2_with fail
            refine (nparse_e (L := [48]) _ HZ (by simp)).mono ?_
            rintro e w5 ⟨A5, c5, rfl, F5, hb⟩
            replace HX := HX.ext hb
            replace hT := hT.ext hb
            clear hb
            go_upto_region 11 with fail
            have hg5 : w.heap.size < w5.heap.size := HX.lt 0 rfl
            have hb := below_alloc w5 (.cells #[.slice A5 (dig N).length c5] 25)
            replace HX := HX.new #[.slice A5 (dig N).length c5] 25
            simp only [List.cons_append, List.nil_append] at HX
            replace hT := hT.ext hb
            replace F5 := F5.ext hb
            clear hb
            generalize w5.alloc (.cells #[.slice A5 (dig N).length c5] 25) = W5 at *
            generalize w5.heap.size = g5 at *
            go_wp2_with fail
            refine (nof_any 10 _ (by omega)).mono ?_
            rintro e w6 ⟨A6, c6, rfl, F6, hb⟩
            replace HX := HX.ext hb
            replace hT := hT.ext hb
            replace F5 := F5.ext hb
            clear hb
            have hl10 : (dig 10).length ≤ 1 := dig_len_le (by decide)
            have hnd : Lib.nDigits (val (dig 10)) * P.length ≤ 4000 := by rw [val_dig]; have : Lib.nDigits 10 = 2 := by decide +kernel
                                                                          rw [this]; omega
            go_wp2_with fail
            refine (npow_any A6 _ c6 (dig 10) P.length _ F6 rfl (by omega) hT (by omega) hnd).mono ?_
            rw [val_dig, HD2.out]
            rintro e w8 ⟨A8, c8, rfl, F8, hb⟩
            replace HX := HX.ext hb
            replace hT := hT.ext hb
            replace F5 := F5.ext hb
            replace F6 := F6.ext hb
            clear hb
            clear F6
            go_upto_region 12 with fail
            have hg8 : w.heap.size < w8.heap.size := HX.lt 0 rfl
            have hb := below_alloc w8 (.cells #[.slice A8 (dig D).length c8] 25)
            replace HX := HX.new #[.slice A8 (dig D).length c8] 25
            simp only [List.cons_append, List.nil_append] at HX
            replace hT := hT.ext hb
            replace F5 := F5.ext hb
            replace F8 := F8.ext hb
            clear hb
            generalize w8.alloc (.cells #[.slice A8 (dig D).length c8] 25) = W8 at *
            generalize w8.heap.size = g8 at *
            have hc10 := HX.cell 1 0 rfl rfl
            have hc20 := HX.cell 2 0 rfl rfl
            try simp only [List.getElem_toArray, List.getElem_cons_zero, List.getElem_cons_succ] at hc10 hc20
            go_wp2_with fail
            refine (fmade_any σ A5 A8 _ _ c5 c8 (dig N) (dig D) _ F5 F8 rfl rfl (by omega) (by omega)).mono ?_
            rw [val_dig, val_dig, HQ3.out]
            rintro e w9 ⟨A7, c7, B7, d7, rfl, N7, D7, hb⟩
            clear hc10 hc20
            replace HX := HX.ext hb
            replace hT := hT.ext hb
            replace F5 := F5.ext hb
            replace F8 := F8.ext hb
            clear hb
            clear F5 F8
            have hc00 := HX.cell 0 0 rfl rfl
            have hf00 := HX.free 0 0 rfl
            have hc01 := HX.cell 0 1 rfl rfl
            have hf01 := HX.free 0 1 rfl
            have hc02 := HX.cell 0 2 rfl rfl
            have hf02 := HX.free 0 2 rfl
            try simp only [List.getElem_toArray, List.getElem_cons_zero, List.getElem_cons_succ] at hc00 hf00 hc01 hf01 hc02 hf02
            go_wp2
            clear hc00 hf00 hc01 hf01 hc02 hf02
            have hk := HX.keep3 0 rfl rfl rfl rfl (by omega) (.bool (sg q)) (.slice A7 (dig (nu q)).length c7) (.slice B7 (dig q.den).length d7)
            replace HX := HX.put3 0 rfl (by omega) (by intro k q hk hne; match k, hk with | 0, hk => (simp at hk; subst hk; simp at hne ⊢; try omega) | 1, hk => (simp at hk; subst hk; simp at hne ⊢; try omega) | 2, hk => (simp at hk; subst hk; simp at hne ⊢; try omega) | k + 3, hk => simp at hk) (.bool (sg q)) (.slice A7 (dig (nu q)).length c7) (.slice B7 (dig q.den).length d7)
            replace N7 := N7.stay hk
            replace D7 := D7.stay hk
            clear hk
            simp only [List.set_cons_zero, List.set_cons_succ] at HX
            have hc00 := HX.cell 0 0 rfl rfl
            have hc01 := HX.cell 0 1 rfl rfl
            have hc02 := HX.cell 0 2 rfl rfl
            try simp only [List.getElem_toArray, List.getElem_cons_zero, List.getElem_cons_succ] at hc00 hc01 hc02
            exact bodyPost_ret (v := .tuple #[.agg #[.bool (sg q), .slice A7 (dig (nu q)).length c7, .slice B7 (dig q.den).length d7], .int .i64 0]) (by simp [results, Tryz.results18, go_sem, hc00, hc01, hc02]) rfl (HP.out _ _ ⟨A7, c7, B7, d7, rfl, ⟨N7, D7, hSz⟩, HX.below⟩)
      · obtain rfl : l = false := by rw [← HLo, lead, decide_eq_false hw1]; rfl
        clear HLo HL
        have HP := Lib.hid (HG.out rfl)
        have hall := HD.out rfl
        have hz := zs_parse hall (by rw [List.length_append]; omega)
        have zN := val_len hall (by rw [List.length_append]; omega)
        have zD := ten_len (k := P.length) (by omega)
        obtain ⟨N, hN⟩ : ∃ N, dval 0 (W ++ P) = N := ⟨_, rfl⟩
        obtain ⟨D, hD⟩ : ∃ D, 10 ^ P.length = D := ⟨_, rfl⟩
        rw [hN] at hz zN
        rw [hD] at zD
        have HQ2 := HQ.out
        rw [hN, hD] at HQ2
        have hSz : Sz q 30 := HQ2 ▸ Sz.of_rv (by omega) (by omega) (by omega)
        have HQ3 := Lib.hid HQ2
        have HD2 := Lib.hid hD
        have hap := HAP.out
        clear HB HG HD HQ hall hN hD HQ2
        go_wp2_with fail
        refine (stl_any (W ++ P) _).mono ?_
        rintro e w4 ⟨rfl, hb⟩
        replace HX := HX.ext hb
        replace hT := hT.ext hb
        clear hb
        clear hap
        obtain ⟨S, hS⟩ : ∃ S, Lib.trimLeftB (W ++ P) 48 = S := ⟨_, rfl⟩
        have hlS : S.length ≤ 200 := by have := tlb_len (W ++ P); rw [hS, List.length_append] at this; omega
        rw [zs, hS] at hz
        rw [hS]
        clear hS
        cases hE : S.isEmpty
        · rw [hE] at hz
          simp only [if_true, if_false, Bool.false_eq_true] at hz
          have HZ := Lib.hid hz
          clear hz
          have hse : (str S).toList.isEmpty = false := by rw [str_toList]; exact hE
          clear hE
          go_wp2_with fail
          refine (nparse_e (L := S) _ HZ (by omega)).mono ?_
          rintro e w5 ⟨A5, c5, rfl, F5, hb⟩
          replace HX := HX.ext hb
          replace hT := hT.ext hb
          clear hb
          go_upto_region 11 with fail
          have hg5 : w.heap.size < w5.heap.size := HX.lt 0 rfl
          have hb := below_alloc w5 (.cells #[.slice A5 (dig N).length c5] 25)
          replace HX := HX.new #[.slice A5 (dig N).length c5] 25
          simp only [List.cons_append, List.nil_append] at HX
          replace hT := hT.ext hb
          replace F5 := F5.ext hb
          clear hb
          generalize w5.alloc (.cells #[.slice A5 (dig N).length c5] 25) = W5 at *
          generalize w5.heap.size = g5 at *
          go_wp2_with fail
          refine (nof_any 10 _ (by omega)).mono ?_
          rintro e w6 ⟨A6, c6, rfl, F6, hb⟩
          replace HX := HX.ext hb
          replace hT := hT.ext hb
          replace F5 := F5.ext hb
          clear hb
          have hl10 : (dig 10).length ≤ 1 := dig_len_le (by decide)
          have hnd : Lib.nDigits (val (dig 10)) * P.length ≤ 4000 := by rw [val_dig]; have : Lib.nDigits 10 = 2 := by decide +kernel
                                                                        rw [this]; omega
          go_wp2_with fail
          refine (npow_any A6 _ c6 (dig 10) P.length _ F6 rfl (by omega) hT (by omega) hnd).mono ?_
          rw [val_dig, HD2.out]
          rintro e w8 ⟨A8, c8, rfl, F8, hb⟩
          replace HX := HX.ext hb
          replace hT := hT.ext hb
          replace F5 := F5.ext hb
          replace F6 := F6.ext hb
          clear hb
          clear F6
          go_upto_region 12 with fail
          have hg8 : w.heap.size < w8.heap.size := HX.lt 0 rfl
          have hb := below_alloc w8 (.cells #[.slice A8 (dig D).length c8] 25)
          replace HX := HX.new #[.slice A8 (dig D).length c8] 25
          simp only [List.cons_append, List.nil_append] at HX
          replace hT := hT.ext hb
          replace F5 := F5.ext hb
          replace F8 := F8.ext hb
          clear hb
          generalize w8.alloc (.cells #[.slice A8 (dig D).length c8] 25) = W8 at *
          generalize w8.heap.size = g8 at *
          have hc10 := HX.cell 1 0 rfl rfl
          have hc20 := HX.cell 2 0 rfl rfl
          try simp only [List.getElem_toArray, List.getElem_cons_zero, List.getElem_cons_succ] at hc10 hc20
          go_wp2_with fail
          refine (fmade_any σ A5 A8 _ _ c5 c8 (dig N) (dig D) _ F5 F8 rfl rfl (by omega) (by omega)).mono ?_
          rw [val_dig, val_dig, HQ3.out]
          rintro e w9 ⟨A7, c7, B7, d7, rfl, N7, D7, hb⟩
          clear hc10 hc20
          replace HX := HX.ext hb
          replace hT := hT.ext hb
          replace F5 := F5.ext hb
          replace F8 := F8.ext hb
          clear hb
          clear F5 F8
          have hc00 := HX.cell 0 0 rfl rfl
          have hf00 := HX.free 0 0 rfl
          have hc01 := HX.cell 0 1 rfl rfl
          have hf01 := HX.free 0 1 rfl
          have hc02 := HX.cell 0 2 rfl rfl
          have hf02 := HX.free 0 2 rfl
          try simp only [List.getElem_toArray, List.getElem_cons_zero, List.getElem_cons_succ] at hc00 hf00 hc01 hf01 hc02 hf02
          go_wp2
          clear hc00 hf00 hc01 hf01 hc02 hf02
          have hk := HX.keep3 0 rfl rfl rfl rfl (by omega) (.bool (sg q)) (.slice A7 (dig (nu q)).length c7) (.slice B7 (dig q.den).length d7)
          replace HX := HX.put3 0 rfl (by omega) (by intro k q hk hne; match k, hk with | 0, hk => (simp at hk; subst hk; simp at hne ⊢; try omega) | 1, hk => (simp at hk; subst hk; simp at hne ⊢; try omega) | 2, hk => (simp at hk; subst hk; simp at hne ⊢; try omega) | k + 3, hk => simp at hk) (.bool (sg q)) (.slice A7 (dig (nu q)).length c7) (.slice B7 (dig q.den).length d7)
          replace N7 := N7.stay hk
          replace D7 := D7.stay hk
          clear hk
          simp only [List.set_cons_zero, List.set_cons_succ] at HX
          have hc00 := HX.cell 0 0 rfl rfl
          have hc01 := HX.cell 0 1 rfl rfl
          have hc02 := HX.cell 0 2 rfl rfl
          try simp only [List.getElem_toArray, List.getElem_cons_zero, List.getElem_cons_succ] at hc00 hc01 hc02
          exact bodyPost_ret (v := .tuple #[.agg #[.bool (sg q), .slice A7 (dig (nu q)).length c7, .slice B7 (dig q.den).length d7], .int .i64 0]) (by simp [results, Tryz.results18, go_sem, hc00, hc01, hc02]) rfl (HP.out _ _ ⟨A7, c7, B7, d7, rfl, ⟨N7, D7, hSz⟩, HX.below⟩)
        · rw [hE] at hz
          simp only [if_true, if_false, Bool.false_eq_true] at hz
          have HZ := Lib.hid hz
          clear hz
          have hse : (str S).toList.isEmpty = true := by rw [str_toList]; exact hE
          clear hE
          go_wp2_with fail
          refine (nparse_e (L := [48]) _ HZ (by simp)).mono ?_
          rintro e w5 ⟨A5, c5, rfl, F5, hb⟩
          replace HX := HX.ext hb
          replace hT := hT.ext hb
          clear hb
          go_upto_region 11 with fail
          have hg5 : w.heap.size < w5.heap.size := HX.lt 0 rfl
          have hb := below_alloc w5 (.cells #[.slice A5 (dig N).length c5] 25)
          replace HX := HX.new #[.slice A5 (dig N).length c5] 25
          simp only [List.cons_append, List.nil_append] at HX
          replace hT := hT.ext hb
          replace F5 := F5.ext hb
          clear hb
          generalize w5.alloc (.cells #[.slice A5 (dig N).length c5] 25) = W5 at *
          generalize w5.heap.size = g5 at *
          go_wp2_with fail
          refine (nof_any 10 _ (by omega)).mono ?_
          rintro e w6 ⟨A6, c6, rfl, F6, hb⟩
          replace HX := HX.ext hb
          replace hT := hT.ext hb
          replace F5 := F5.ext hb
          clear hb
          have hl10 : (dig 10).length ≤ 1 := dig_len_le (by decide)
          have hnd : Lib.nDigits (val (dig 10)) * P.length ≤ 4000 := by rw [val_dig]; have : Lib.nDigits 10 = 2 := by decide +kernel
                                                                        rw [this]; omega
          go_wp2_with fail
          refine (npow_any A6 _ c6 (dig 10) P.length _ F6 rfl (by omega) hT (by omega) hnd).mono ?_
          rw [val_dig, HD2.out]
          rintro e w8 ⟨A8, c8, rfl, F8, hb⟩
          replace HX := HX.ext hb
          replace hT := hT.ext hb
          replace F5 := F5.ext hb
          replace F6 := F6.ext hb
          clear hb
          clear F6
          go_upto_region 12 with fail
          have hg8 : w.heap.size < w8.heap.size := HX.lt 0 rfl
          have hb := below_alloc w8 (.cells #[.slice A8 (dig D).length c8] 25)
          replace HX := HX.new #[.slice A8 (dig D).length c8] 25
          simp only [List.cons_append, List.nil_append] at HX
          replace hT := hT.ext hb
          replace F5 := F5.ext hb
          replace F8 := F8.ext hb
          clear hb
          generalize w8.alloc (.cells #[.slice A8 (dig D).length c8] 25) = W8 at *
          generalize w8.heap.size = g8 at *
          have hc10 := HX.cell 1 0 rfl rfl
          have hc20 := HX.cell 2 0 rfl rfl
          try simp only [List.getElem_toArray, List.getElem_cons_zero, List.getElem_cons_succ] at hc10 hc20
          go_wp2_with fail
          refine (fmade_any σ A5 A8 _ _ c5 c8 (dig N) (dig D) _ F5 F8 rfl rfl (by omega) (by omega)).mono ?_
          rw [val_dig, val_dig, HQ3.out]
          rintro e w9 ⟨A7, c7, B7, d7, rfl, N7, D7, hb⟩
          clear hc10 hc20
          replace HX := HX.ext hb
          replace hT := hT.ext hb
          replace F5 := F5.ext hb
          replace F8 := F8.ext hb
          clear hb
          clear F5 F8
          have hc00 := HX.cell 0 0 rfl rfl
          have hf00 := HX.free 0 0 rfl
          have hc01 := HX.cell 0 1 rfl rfl
          have hf01 := HX.free 0 1 rfl
          have hc02 := HX.cell 0 2 rfl rfl
          have hf02 := HX.free 0 2 rfl
          try simp only [List.getElem_toArray, List.getElem_cons_zero, List.getElem_cons_succ] at hc00 hf00 hc01 hf01 hc02 hf02
          go_wp2
          clear hc00 hf00 hc01 hf01 hc02 hf02
          have hk := HX.keep3 0 rfl rfl rfl rfl (by omega) (.bool (sg q)) (.slice A7 (dig (nu q)).length c7) (.slice B7 (dig q.den).length d7)
          replace HX := HX.put3 0 rfl (by omega) (by intro k q hk hne; match k, hk with | 0, hk => (simp at hk; subst hk; simp at hne ⊢; try omega) | 1, hk => (simp at hk; subst hk; simp at hne ⊢; try omega) | 2, hk => (simp at hk; subst hk; simp at hne ⊢; try omega) | k + 3, hk => simp at hk) (.bool (sg q)) (.slice A7 (dig (nu q)).length c7) (.slice B7 (dig q.den).length d7)
          replace N7 := N7.stay hk
          replace D7 := D7.stay hk
          clear hk
          simp only [List.set_cons_zero, List.set_cons_succ] at HX
          have hc00 := HX.cell 0 0 rfl rfl
          have hc01 := HX.cell 0 1 rfl rfl
          have hc02 := HX.cell 0 2 rfl rfl
          try simp only [List.getElem_toArray, List.getElem_cons_zero, List.getElem_cons_succ] at hc00 hc01 hc02
          exact bodyPost_ret (v := .tuple #[.agg #[.bool (sg q), .slice A7 (dig (nu q)).length c7, .slice B7 (dig q.den).length d7], .int .i64 0]) (by simp [results, Tryz.results18, go_sem, hc00, hc01, hc02]) rfl (HP.out _ _ ⟨A7, c7, B7, d7, rfl, ⟨N7, D7, hSz⟩, HX.below⟩)
    · go_wp2_with fail
      refine (fdigits_any _ HB2 (by omega)).mono ?_
      rintro e w10 ⟨rfl, hb⟩
      replace HX := HX.ext hb
      replace hT := hT.ext hb
      clear hb
      cases b
      · have HP := Lib.hid (HB.out rfl)
        clear HB HG HD
        have hc00 := HX.cell 0 0 rfl rfl
        have hf00 := HX.free 0 0 rfl
        have hc01 := HX.cell 0 1 rfl rfl
        have hf01 := HX.free 0 1 rfl
        have hc02 := HX.cell 0 2 rfl rfl
        have hf02 := HX.free 0 2 rfl
        try simp only [List.getElem_toArray, List.getElem_cons_zero, List.getElem_cons_succ] at hc00 hf00 hc01 hf01 hc02 hf02
        go_wp2
        clear hc00 hf00 hc01 hf01 hc02 hf02
        have hk := HX.keep3 0 rfl rfl rfl rfl (by omega) (.bool false) (.slice none 0 0) (.slice none 0 0)
        replace HX := HX.put3 0 rfl (by omega) (by intro k q hk hne; match k, hk with | 0, hk => (simp at hk; subst hk; simp at hne ⊢; try omega) | k + 1, hk => simp at hk) (.bool false) (.slice none 0 0) (.slice none 0 0)
        clear hk
        simp only [List.set_cons_zero, List.set_cons_succ] at HX
        have hc00 := HX.cell 0 0 rfl rfl
        have hc01 := HX.cell 0 1 rfl rfl
        have hc02 := HX.cell 0 2 rfl rfl
        try simp only [List.getElem_toArray, List.getElem_cons_zero, List.getElem_cons_succ] at hc00 hc01 hc02
        exact bodyPost_ret (v := .tuple #[.agg #[.bool false, .slice none 0 0, .slice none 0 0], .int .i64 3]) (by simp [results, Tryz.results18, go_sem, hc00, hc01, hc02]) rfl (HP.out _ _ ⟨rfl, HX.below⟩)
      · have HLo := HL.out
        by_cases hw1 : 1 < W.length
        · have hw0 : 0 < W.length := by omega
          have hix : ∀ h, (str W)[0]'h = W[0]'hw0 := fun _ => rfl
          rw [lead, decide_eq_true hw1, Bool.true_and, List.head?_eq_getElem?, List.getElem?_eq_getElem hw0] at HLo
          by_cases hw48 : W[0]'hw0 = 48
          · have hw : ((((W[0]'hw0).toNat : Nat) : Int) == 48) = true := by rw [hw48]; rfl
            obtain rfl : l = true := by rw [← HLo, hw48]; rfl
            clear HLo
            generalize W[0]'hw0 = b0 at *
            clear hw48 HL
            have HP := Lib.hid (HB.out rfl)
            clear HB HG HD
            have hc00 := HX.cell 0 0 rfl rfl
            have hf00 := HX.free 0 0 rfl
            have hc01 := HX.cell 0 1 rfl rfl
            have hf01 := HX.free 0 1 rfl
            have hc02 := HX.cell 0 2 rfl rfl
            have hf02 := HX.free 0 2 rfl
            try simp only [List.getElem_toArray, List.getElem_cons_zero, List.getElem_cons_succ] at hc00 hf00 hc01 hf01 hc02 hf02
            go_wp2
            clear hc00 hf00 hc01 hf01 hc02 hf02
            have hk := HX.keep3 0 rfl rfl rfl rfl (by omega) (.bool false) (.slice none 0 0) (.slice none 0 0)
            replace HX := HX.put3 0 rfl (by omega) (by intro k q hk hne; match k, hk with | 0, hk => (simp at hk; subst hk; simp at hne ⊢; try omega) | k + 1, hk => simp at hk) (.bool false) (.slice none 0 0) (.slice none 0 0)
            clear hk
            simp only [List.set_cons_zero, List.set_cons_succ] at HX
            have hc00 := HX.cell 0 0 rfl rfl
            have hc01 := HX.cell 0 1 rfl rfl
            have hc02 := HX.cell 0 2 rfl rfl
            try simp only [List.getElem_toArray, List.getElem_cons_zero, List.getElem_cons_succ] at hc00 hc01 hc02
            exact bodyPost_ret (v := .tuple #[.agg #[.bool false, .slice none 0 0, .slice none 0 0], .int .i64 3]) (by simp [results, Tryz.results18, go_sem, hc00, hc01, hc02]) rfl (HP.out _ _ ⟨rfl, HX.below⟩)
          · have hw : ((((W[0]'hw0).toNat : Nat) : Int) == 48) = false := by
              rw [beq_eq_false_iff_ne]
              intro h
              refine hw48 (UInt8.toNat_inj.1 ?_)
              have : (48 : UInt8).toNat = 48 := rfl
              omega
            obtain rfl : l = false := by rw [← HLo]; simpa using hw48
            clear HLo
            generalize W[0]'hw0 = b0 at *
            clear hw48 HL
            have HP := Lib.hid (HG.out rfl)
            have hall := HD.out rfl
            have hz := zs_parse hall (by rw [List.length_append]; omega)
            have zN := val_len hall (by rw [List.length_append]; omega)
            have zD := ten_len (k := P.length) (by omega)
            obtain ⟨N, hN⟩ : ∃ N, dval 0 (W ++ P) = N := ⟨_, rfl⟩
            obtain ⟨D, hD⟩ : ∃ D, 10 ^ P.length = D := ⟨_, rfl⟩
            rw [hN] at hz zN
            rw [hD] at zD
            have HQ2 := HQ.out
            rw [hN, hD] at HQ2
            have hSz : Sz q 30 := HQ2 ▸ Sz.of_rv (by omega) (by omega) (by omega)
            have HQ3 := Lib.hid HQ2
            have HD2 := Lib.hid hD
            have hap := HAP.out
            clear HB HG HD HQ hall hN hD HQ2
            go_wp2_with fail
            refine (stl_any (W ++ P) _).mono ?_
            rintro e w4 ⟨rfl, hb⟩
            replace HX := HX.ext hb
            replace hT := hT.ext hb
            clear hb
            clear hap
            obtain ⟨S, hS⟩ : ∃ S, Lib.trimLeftB (W ++ P) 48 = S := ⟨_, rfl⟩
            have hlS : S.length ≤ 200 := by have := tlb_len (W ++ P); rw [hS, List.length_append] at this; omega
            rw [zs, hS] at hz
            rw [hS]
            clear hS
            cases hE : S.isEmpty
            · rw [hE] at hz
              simp only [if_true, if_false, Bool.false_eq_true] at hz
              have HZ := Lib.hid hz
              clear hz
              have hse : (str S).toList.isEmpty = false := by rw [str_toList]; exact hE
              clear hE
              go_wp2_with fail
              refine (nparse_e (L := S) _ HZ (by omega)).mono ?_
              rintro e w5 ⟨A5, c5, rfl, F5, hb⟩
              replace HX := HX.ext hb
              replace hT := hT.ext hb
              clear hb
              go_upto_region 11 with fail
              have hg5 : w.heap.size < w5.heap.size := HX.lt 0 rfl
              have hb := below_alloc w5 (.cells #[.slice A5 (dig N).length c5] 25)
              replace HX := HX.new #[.slice A5 (dig N).length c5] 25
              simp only [List.cons_append, List.nil_append] at HX
              replace hT := hT.ext hb
              replace F5 := F5.ext hb
              clear hb
              generalize w5.alloc (.cells #[.slice A5 (dig N).length c5] 25) = W5 at *
              generalize w5.heap.size = g5 at *
              go_wp2_with fail
              refine (nof_any 10 _ (by omega)).mono ?_
              rintro e w6 ⟨A6, c6, rfl, F6, hb⟩
              replace HX := HX.ext hb
              replace hT := hT.ext hb
              replace F5 := F5.ext hb
              clear hb
              have hl10 : (dig 10).length ≤ 1 := dig_len_le (by decide)
              have hnd : Lib.nDigits (val (dig 10)) * P.length ≤ 4000 := by rw [val_dig]; have : Lib.nDigits 10 = 2 := by decide +kernel
                                                                            rw [this]; omega
              go_wp2_with fail
              refine (npow_any A6 _ c6 (dig 10) P.length _ F6 rfl (by omega) hT (by omega) hnd).mono ?_
              rw [val_dig, HD2.out]
              rintro e w8 ⟨A8, c8, rfl, F8, hb⟩
              replace HX := HX.ext hb
              replace hT := hT.ext hb
              replace F5 := F5.ext hb
              replace F6 := F6.ext hb
              clear hb
              clear F6
              go_upto_region 12 with fail
              have hg8 : w.heap.size < w8.heap.size := HX.lt 0 rfl
              have hb := below_alloc w8 (.cells #[.slice A8 (dig D).length c8] 25)
              replace HX := HX.new #[.slice A8 (dig D).length c8] 25
              simp only [List.cons_append, List.nil_append] at HX
              replace hT := hT.ext hb
              replace F5 := F5.ext hb
              replace F8 := F8.ext hb
              clear hb
              generalize w8.alloc (.cells #[.slice A8 (dig D).length c8] 25) = W8 at *
              generalize w8.heap.size = g8 at *
              have hc10 := HX.cell 1 0 rfl rfl
              have hc20 := HX.cell 2 0 rfl rfl
              try simp only [List.getElem_toArray, List.getElem_cons_zero, List.getElem_cons_succ] at hc10 hc20
              go_wp2_with fail
              refine (fmade_any σ A5 A8 _ _ c5 c8 (dig N) (dig D) _ F5 F8 rfl rfl (by omega) (by omega)).mono ?_
              rw [val_dig, val_dig, HQ3.out]
              rintro e w9 ⟨A7, c7, B7, d7, rfl, N7, D7, hb⟩
              clear hc10 hc20
              replace HX := HX.ext hb
              replace hT := hT.ext hb
              replace F5 := F5.ext hb
              replace F8 := F8.ext hb
              clear hb
              clear F5 F8
              have hc00 := HX.cell 0 0 rfl rfl
              have hf00 := HX.free 0 0 rfl
              have hc01 := HX.cell 0 1 rfl rfl
              have hf01 := HX.free 0 1 rfl
              have hc02 := HX.cell 0 2 rfl rfl
              have hf02 := HX.free 0 2 rfl
              try simp only [List.getElem_toArray, List.getElem_cons_zero, List.getElem_cons_succ] at hc00 hf00 hc01 hf01 hc02 hf02
              go_wp2
              clear hc00 hf00 hc01 hf01 hc02 hf02
              have hk := HX.keep3 0 rfl rfl rfl rfl (by omega) (.bool (sg q)) (.slice A7 (dig (nu q)).length c7) (.slice B7 (dig q.den).length d7)
              replace HX := HX.put3 0 rfl (by omega) (by intro k q hk hne; match k, hk with | 0, hk => (simp at hk; subst hk; simp at hne ⊢; try omega) | 1, hk => (simp at hk; subst hk; simp at hne ⊢; try omega) | 2, hk => (simp at hk; subst hk; simp at hne ⊢; try omega) | k + 3, hk => simp at hk) (.bool (sg q)) (.slice A7 (dig (nu q)).length c7) (.slice B7 (dig q.den).length d7)
              replace N7 := N7.stay hk
              replace D7 := D7.stay hk
              clear hk
              simp only [List.set_cons_zero, List.set_cons_succ] at HX
              have hc00 := HX.cell 0 0 rfl rfl
              have hc01 := HX.cell 0 1 rfl rfl
              have hc02 := HX.cell 0 2 rfl rfl
              try simp only [List.getElem_toArray, List.getElem_cons_zero, List.getElem_cons_succ] at hc00 hc01 hc02
              exact bodyPost_ret (v := .tuple #[.agg #[.bool (sg q), .slice A7 (dig (nu q)).length c7, .slice B7 (dig q.den).length d7], .int .i64 0]) (by simp [results, Tryz.results18, go_sem, hc00, hc01, hc02]) rfl (HP.out _ _ ⟨A7, c7, B7, d7, rfl, ⟨N7, D7, hSz⟩, HX.below⟩)
            · rw [hE] at hz
              simp only [if_true, if_false, Bool.false_eq_true] at hz
              have HZ := Lib.hid hz
              clear hz
              have hse : (str S).toList.isEmpty = true := by rw [str_toList]; exact hE
              clear hE
              go_wp2_with fail
              refine (nparse_e (L := [48]) _ HZ (by simp)).mono ?_
              rintro e w5 ⟨A5, c5, rfl, F5, hb⟩
              replace HX := HX.ext hb
              replace hT := hT.ext hb
              clear hb
              go_upto_region 11 with fail
              have hg5 : w.heap.size < w5.heap.size := HX.lt 0 rfl
              have hb := below_alloc w5 (.cells #[.slice A5 (dig N).length c5] 25)
              replace HX := HX.new #[.slice A5 (dig N).length c5] 25
              simp only [List.cons_append, List.nil_append] at HX
              replace hT := hT.ext hb
              replace F5 := F5.ext hb
              clear hb
              generalize w5.alloc (.cells #[.slice A5 (dig N).length c5] 25) = W5 at *
              generalize w5.heap.size = g5 at *
              go_wp2_with fail
              refine (nof_any 10 _ (by omega)).mono ?_
              rintro e w6 ⟨A6, c6, rfl, F6, hb⟩
              replace HX := HX.ext hb
              replace hT := hT.ext hb
              replace F5 := F5.ext hb
              clear hb
              have hl10 : (dig 10).length ≤ 1 := dig_len_le (by decide)
              have hnd : Lib.nDigits (val (dig 10)) * P.length ≤ 4000 := by rw [val_dig]; have : Lib.nDigits 10 = 2 := by decide +kernel
                                                                            rw [this]; omega
              go_wp2_with fail
              refine (npow_any A6 _ c6 (dig 10) P.length _ F6 rfl (by omega) hT (by omega) hnd).mono ?_
              rw [val_dig, HD2.out]
              rintro e w8 ⟨A8, c8, rfl, F8, hb⟩
              replace HX := HX.ext hb
              replace hT := hT.ext hb
              replace F5 := F5.ext hb
              replace F6 := F6.ext hb
              clear hb
              clear F6
              go_upto_region 12 with fail
              have hg8 : w.heap.size < w8.heap.size := HX.lt 0 rfl
              have hb := below_alloc w8 (.cells #[.slice A8 (dig D).length c8] 25)
              replace HX := HX.new #[.slice A8 (dig D).length c8] 25
              simp only [List.cons_append, List.nil_append] at HX
              replace hT := hT.ext hb
              replace F5 := F5.ext hb
              replace F8 := F8.ext hb
              clear hb
              generalize w8.alloc (.cells #[.slice A8 (dig D).length c8] 25) = W8 at *
              generalize w8.heap.size = g8 at *
              have hc10 := HX.cell 1 0 rfl rfl
              have hc20 := HX.cell 2 0 rfl rfl
              try simp only [List.getElem_toArray, List.getElem_cons_zero, List.getElem_cons_succ] at hc10 hc20
              go_wp2_with fail
              refine (fmade_any σ A5 A8 _ _ c5 c8 (dig N) (dig D) _ F5 F8 rfl rfl (by omega) (by omega)).mono ?_
              rw [val_dig, val_dig, HQ3.out]
              rintro e w9 ⟨A7, c7, B7, d7, rfl, N7, D7, hb⟩
              clear hc10 hc20
              replace HX := HX.ext hb
              replace hT := hT.ext hb
              replace F5 := F5.ext hb
              replace F8 := F8.ext hb
              clear hb
              clear F5 F8
              have hc00 := HX.cell 0 0 rfl rfl
              have hf00 := HX.free 0 0 rfl
              have hc01 := HX.cell 0 1 rfl rfl
              have hf01 := HX.free 0 1 rfl
              have hc02 := HX.cell 0 2 rfl rfl
              have hf02 := HX.free 0 2 rfl
              try simp only [List.getElem_toArray, List.getElem_cons_zero, List.getElem_cons_succ] at hc00 hf00 hc01 hf01 hc02 hf02
              go_wp2
              clear hc00 hf00 hc01 hf01 hc02 hf02
              have hk := HX.keep3 0 rfl rfl rfl rfl (by omega) (.bool (sg q)) (.slice A7 (dig (nu q)).length c7) (.slice B7 (dig q.den).length d7)
              replace HX := HX.put3 0 rfl (by omega) (by intro k q hk hne; match k, hk with | 0, hk => (simp at hk; subst hk; simp at hne ⊢; try omega) | 1, hk => (simp at hk; subst hk; simp at hne ⊢; try omega) | 2, hk => (simp at hk; subst hk; simp at hne ⊢; try omega) | k + 3, hk => simp at hk) (.bool (sg q)) (.slice A7 (dig (nu q)).length c7) (.slice B7 (dig q.den).length d7)
              replace N7 := N7.stay hk
              replace D7 := D7.stay hk
              clear hk
              simp only [List.set_cons_zero, List.set_cons_succ] at HX
              have hc00 := HX.cell 0 0 rfl rfl
              have hc01 := HX.cell 0 1 rfl rfl
              have hc02 := HX.cell 0 2 rfl rfl
              try simp only [List.getElem_toArray, List.getElem_cons_zero, List.getElem_cons_succ] at hc00 hc01 hc02
              exact bodyPost_ret (v := .tuple #[.agg #[.bool (sg q), .slice A7 (dig (nu q)).length c7, .slice B7 (dig q.den).length d7], .int .i64 0]) (by simp [results, Tryz.results18, go_sem, hc00, hc01, hc02]) rfl (HP.out _ _ ⟨A7, c7, B7, d7, rfl, ⟨N7, D7, hSz⟩, HX.below⟩)
        · obtain rfl : l = false := by rw [← HLo, lead, decide_eq_false hw1]; rfl
          clear HLo HL
          have HP := Lib.hid (HG.out rfl)
          have hall := HD.out rfl
          have hz := zs_parse hall (by rw [List.length_append]; omega)
          have zN := val_len hall (by rw [List.length_append]; omega)
          have zD := ten_len (k := P.length) (by omega)
          obtain ⟨N, hN⟩ : ∃ N, dval 0 (W ++ P) = N := ⟨_, rfl⟩
          obtain ⟨D, hD⟩ : ∃ D, 10 ^ P.length = D := ⟨_, rfl⟩
          rw [hN] at hz zN
          rw [hD] at zD
          have HQ2 := HQ.out
          rw [hN, hD] at HQ2
          have hSz : Sz q 30 := HQ2 ▸ Sz.of_rv (by omega) (by omega) (by omega)
          have HQ3 := Lib.hid HQ2
          have HD2 := Lib.hid hD
          have hap := HAP.out
          clear HB HG HD HQ hall hN hD HQ2
          go_wp2_with fail
          refine (stl_any (W ++ P) _).mono ?_
          rintro e w4 ⟨rfl, hb⟩
          replace HX := HX.ext hb
          replace hT := hT.ext hb
          clear hb
          clear hap
          obtain ⟨S, hS⟩ : ∃ S, Lib.trimLeftB (W ++ P) 48 = S := ⟨_, rfl⟩
          have hlS : S.length ≤ 200 := by have := tlb_len (W ++ P); rw [hS, List.length_append] at this; omega
          rw [zs, hS] at hz
          rw [hS]
          clear hS
          cases hE : S.isEmpty
          · rw [hE] at hz
            simp only [if_true, if_false, Bool.false_eq_true] at hz
            have HZ := Lib.hid hz
            clear hz
            have hse : (str S).toList.isEmpty = false := by rw [str_toList]; exact hE
            clear hE
            go_wp2_with fail
            refine (nparse_e (L := S) _ HZ (by omega)).mono ?_
            rintro e w5 ⟨A5, c5, rfl, F5, hb⟩
            replace HX := HX.ext hb
            replace hT := hT.ext hb
            clear hb
            go_upto_region 11 with fail
            have hg5 : w.heap.size < w5.heap.size := HX.lt 0 rfl
            have hb := below_alloc w5 (.cells #[.slice A5 (dig N).length c5] 25)
            replace HX := HX.new #[.slice A5 (dig N).length c5] 25
            simp only [List.cons_append, List.nil_append] at HX
            replace hT := hT.ext hb
            replace F5 := F5.ext hb
            clear hb
            generalize w5.alloc (.cells #[.slice A5 (dig N).length c5] 25) = W5 at *
            generalize w5.heap.size = g5 at *
            go_wp2_with fail
            refine (nof_any 10 _ (by omega)).mono ?_
            rintro e w6 ⟨A6, c6, rfl, F6, hb⟩
            replace HX := HX.ext hb
            replace hT := hT.ext hb
            replace F5 := F5.ext hb
            clear hb
            have hl10 : (dig 10).length ≤ 1 := dig_len_le (by decide)
            have hnd : Lib.nDigits (val (dig 10)) * P.length ≤ 4000 := by rw [val_dig]; have : Lib.nDigits 10 = 2 := by decide +kernel
                                                                          rw [this]; omega
            go_wp2_with fail
            refine (npow_any A6 _ c6 (dig 10) P.length _ F6 rfl (by omega) hT (by omega) hnd).mono ?_
            rw [val_dig, HD2.out]
            rintro e w8 ⟨A8, c8, rfl, F8, hb⟩
            replace HX := HX.ext hb
            replace hT := hT.ext hb
            replace F5 := F5.ext hb
            replace F6 := F6.ext hb
            clear hb
            clear F6
            go_upto_region 12 with fail
            have hg8 : w.heap.size < w8.heap.size := HX.lt 0 rfl
            have hb := below_alloc w8 (.cells #[.slice A8 (dig D).length c8] 25)
            replace HX := HX.new #[.slice A8 (dig D).length c8] 25
            simp only [List.cons_append, List.nil_append] at HX
            replace hT := hT.ext hb
            replace F5 := F5.ext hb
            replace F8 := F8.ext hb
            clear hb
            generalize w8.alloc (.cells #[.slice A8 (dig D).length c8] 25) = W8 at *
            generalize w8.heap.size = g8 at *
            have hc10 := HX.cell 1 0 rfl rfl
            have hc20 := HX.cell 2 0 rfl rfl
            try simp only [List.getElem_toArray, List.getElem_cons_zero, List.getElem_cons_succ] at hc10 hc20
            go_wp2_with fail
            refine (fmade_any σ A5 A8 _ _ c5 c8 (dig N) (dig D) _ F5 F8 rfl rfl (by omega) (by omega)).mono ?_
            rw [val_dig, val_dig, HQ3.out]
            rintro e w9 ⟨A7, c7, B7, d7, rfl, N7, D7, hb⟩
            clear hc10 hc20
            replace HX := HX.ext hb
            replace hT := hT.ext hb
            replace F5 := F5.ext hb
            replace F8 := F8.ext hb
            clear hb
            clear F5 F8
            have hc00 := HX.cell 0 0 rfl rfl
            have hf00 := HX.free 0 0 rfl
            have hc01 := HX.cell 0 1 rfl rfl
            have hf01 := HX.free 0 1 rfl
            have hc02 := HX.cell 0 2 rfl rfl
            have hf02 := HX.free 0 2 rfl
            try simp only [List.getElem_toArray, List.getElem_cons_zero, List.getElem_cons_succ] at hc00 hf00 hc01 hf01 hc02 hf02
            go_wp2
            clear hc00 hf00 hc01 hf01 hc02 hf02
            have hk := HX.keep3 0 rfl rfl rfl rfl (by omega) (.bool (sg q)) (.slice A7 (dig (nu q)).length c7) (.slice B7 (dig q.den).length d7)
            replace HX := HX.put3 0 rfl (by omega) (by intro k q hk hne; match k, hk with | 0, hk => (simp at hk; subst hk; simp at hne ⊢; try omega) | 1, hk => (simp at hk; subst hk; simp at hne ⊢; try omega) | 2, hk => (simp at hk; subst hk; simp at hne ⊢; try omega) | k + 3, hk => simp at hk) (.bool (sg q)) (.slice A7 (dig (nu q)).length c7) (.slice B7 (dig q.den).length d7)
            replace N7 := N7.stay hk
            replace D7 := D7.stay hk
            clear hk
            simp only [List.set_cons_zero, List.set_cons_succ] at HX
            have hc00 := HX.cell 0 0 rfl rfl
            have hc01 := HX.cell 0 1 rfl rfl
            have hc02 := HX.cell 0 2 rfl rfl
            try simp only [List.getElem_toArray, List.getElem_cons_zero, List.getElem_cons_succ] at hc00 hc01 hc02
            exact bodyPost_ret (v := .tuple #[.agg #[.bool (sg q), .slice A7 (dig (nu q)).length c7, .slice B7 (dig q.den).length d7], .int .i64 0]) (by simp [results, Tryz.results18, go_sem, hc00, hc01, hc02]) rfl (HP.out _ _ ⟨A7, c7, B7, d7, rfl, ⟨N7, D7, hSz⟩, HX.below⟩)
          · rw [hE] at hz
            simp only [if_true, if_false, Bool.false_eq_true] at hz
            have HZ := Lib.hid hz
            clear hz
            have hse : (str S).toList.isEmpty = true := by rw [str_toList]; exact hE
            clear hE
            go_wp2_with fail
            refine (nparse_e (L := [48]) _ HZ (by simp)).mono ?_
            rintro e w5 ⟨A5, c5, rfl, F5, hb⟩
            replace HX := HX.ext hb
            replace hT := hT.ext hb
            clear hb
            go_upto_region 11 with fail
            have hg5 : w.heap.size < w5.heap.size := HX.lt 0 rfl
            have hb := below_alloc w5 (.cells #[.slice A5 (dig N).length c5] 25)
            replace HX := HX.new #[.slice A5 (dig N).length c5] 25
            simp only [List.cons_append, List.nil_append] at HX
            replace hT := hT.ext hb
            replace F5 := F5.ext hb
            clear hb
            generalize w5.alloc (.cells #[.slice A5 (dig N).length c5] 25) = W5 at *
            generalize w5.heap.size = g5 at *
            go_wp2_with fail
            refine (nof_any 10 _ (by omega)).mono ?_
            rintro e w6 ⟨A6, c6, rfl, F6, hb⟩
            replace HX := HX.ext hb
            replace hT := hT.ext hb
            replace F5 := F5.ext hb
            clear hb
            have hl10 : (dig 10).length ≤ 1 := dig_len_le (by decide)
            have hnd : Lib.nDigits (val (dig 10)) * P.length ≤ 4000 := by rw [val_dig]; have : Lib.nDigits 10 = 2 := by decide +kernel
                                                                          rw [this]; omega
            go_wp2_with fail
            refine (npow_any A6 _ c6 (dig 10) P.length _ F6 rfl (by omega) hT (by omega) hnd).mono ?_
            rw [val_dig, HD2.out]
            rintro e w8 ⟨A8, c8, rfl, F8, hb⟩
            replace HX := HX.ext hb
            replace hT := hT.ext hb
            replace F5 := F5.ext hb
            replace F6 := F6.ext hb
            clear hb
            clear F6
            go_upto_region 12 with fail
            have hg8 : w.heap.size < w8.heap.size := HX.lt 0 rfl
            have hb := below_alloc w8 (.cells #[.slice A8 (dig D).length c8] 25)
            replace HX := HX.new #[.slice A8 (dig D).length c8] 25
            simp only [List.cons_append, List.nil_append] at HX
            replace hT := hT.ext hb
            replace F5 := F5.ext hb
            replace F8 := F8.ext hb
            clear hb
            generalize w8.alloc (.cells #[.slice A8 (dig D).length c8] 25) = W8 at *
            generalize w8.heap.size = g8 at *
            have hc10 := HX.cell 1 0 rfl rfl
            have hc20 := HX.cell 2 0 rfl rfl
            try simp only [List.getElem_toArray, List.getElem_cons_zero, List.getElem_cons_succ] at hc10 hc20
            go_wp2_with fail
            refine (fmade_any σ A5 A8 _ _ c5 c8 (dig N) (dig D) _ F5 F8 rfl rfl (by omega) (by omega)).mono ?_
            rw [val_dig, val_dig, HQ3.out]
            rintro e w9 ⟨A7, c7, B7, d7, rfl, N7, D7, hb⟩
            clear hc10 hc20
            replace HX := HX.ext hb
            replace hT := hT.ext hb
            replace F5 := F5.ext hb
            replace F8 := F8.ext hb
            clear hb
            clear F5 F8
            have hc00 := HX.cell 0 0 rfl rfl
            have hf00 := HX.free 0 0 rfl
            have hc01 := HX.cell 0 1 rfl rfl
            have hf01 := HX.free 0 1 rfl
            have hc02 := HX.cell 0 2 rfl rfl
            have hf02 := HX.free 0 2 rfl
            try simp only [List.getElem_toArray, List.getElem_cons_zero, List.getElem_cons_succ] at hc00 hf00 hc01 hf01 hc02 hf02
            go_wp2
            clear hc00 hf00 hc01 hf01 hc02 hf02
            have hk := HX.keep3 0 rfl rfl rfl rfl (by omega) (.bool (sg q)) (.slice A7 (dig (nu q)).length c7) (.slice B7 (dig q.den).length d7)
            replace HX := HX.put3 0 rfl (by omega) (by intro k q hk hne; match k, hk with | 0, hk => (simp at hk; subst hk; simp at hne ⊢; try omega) | 1, hk => (simp at hk; subst hk; simp at hne ⊢; try omega) | 2, hk => (simp at hk; subst hk; simp at hne ⊢; try omega) | k + 3, hk => simp at hk) (.bool (sg q)) (.slice A7 (dig (nu q)).length c7) (.slice B7 (dig q.den).length d7)
            replace N7 := N7.stay hk
            replace D7 := D7.stay hk
            clear hk
            simp only [List.set_cons_zero, List.set_cons_succ] at HX
            have hc00 := HX.cell 0 0 rfl rfl
            have hc01 := HX.cell 0 1 rfl rfl
            have hc02 := HX.cell 0 2 rfl rfl
            try simp only [List.getElem_toArray, List.getElem_cons_zero, List.getElem_cons_succ] at hc00 hc01 hc02
            exact bodyPost_ret (v := .tuple #[.agg #[.bool (sg q), .slice A7 (dig (nu q)).length c7, .slice B7 (dig q.den).length d7], .int .i64 0]) (by simp [results, Tryz.results18, go_sem, hc00, hc01, hc02]) rfl (HP.out _ _ ⟨A7, c7, B7, d7, rfl, ⟨N7, D7, hSz⟩, HX.below⟩)
theorem fpoint_any (L : List UInt8) (w : World) (hL : L.length ≤ 9223372036854775807) (hm : Mx w) (hT : Tab w) :
    Calls Tryz.prog 18 #[.string (str L)] w (RetD w L) := by
  by_cases h : L.length ≤ 200
  · exact fpoint_short L w h hm hT
  · exact fpoint_long L w hL (by omega)
end Go.Proofs.YtajddhkepbnilaaGreatDoor
