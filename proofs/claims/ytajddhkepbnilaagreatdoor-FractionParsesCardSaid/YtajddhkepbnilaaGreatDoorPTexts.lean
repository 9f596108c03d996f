/- The statements FractionTexts and FractionParses: their walks. -/
import Derived.Test.YtajddhkepbnilaaGreatDoorQParse
import Derived.Test.YtajddhkepbnilaaGreatDoorFParse
namespace Go.Proofs.YtajddhkepbnilaaGreatDoor
open Go.RowKit Go.Proofs Go

theorem frac_len {q : Rat} {k : Nat} (h : Sz q k) : (fracText q).length ≤ 18 * k + 4 := by
  have h1 := nDigits_dig h.1
  have h2 := nDigits_dig h.2
  rw [fracText]
  simp only [List.length_append, Lib.decDigits_length]
  have h3 : (if sg q = true then [45] else ([] : List UInt8)).length ≤ 1 := by split <;> simp
  have h4 : (if q.den = 1 then ([] : List UInt8) else 47 :: Lib.decDigits q.den).length ≤ Lib.nDigits q.den + 1 := by
    split
    · simp
    · simp [Lib.decDigits_length]
  omega
section
variable {w : World} {s : Bool} {A B : Option Addr} {n c m d : Nat} {q : Rat} {L : List UInt8} {k j : Nat}
theorem ftext_h (hL : Hid (fracText q = L)) (h : Fr w s A n c B m d q k) (hk : k ≤ 1000000) (hT : Tab w) :
    Calls Tryz.prog 13 #[.agg #[.bool s, .slice A n c, .slice B m d]] w fun e w' => e = .returned (.string (str L)) ∧ Below w.heap.size w w' := by
  have := ftext_any w h (by omega) hT
  rwa [hL.out] at this
theorem qtext_h (hL : Hid (fracText q = L)) (h : Fr w s A n c B m d q k) (hk : k ≤ 1000000) :
    Calls Tryz.prog 15 #[.agg #[.bool s, .slice A n c, .slice B m d]] w fun e w' => e = .returned (.string (str L)) ∧ Below w.heap.size w w' := by
  have := qtext_any w h hk
  rwa [hL.out] at this
theorem fparse_text (hL : Hid (fracText q = L)) (hz : Sz q j) (hj : j ≤ 40) (hm : Mx w) (hT : Tab w) :
    Calls Tryz.prog 10 #[.string (str L)] w (RetGE w q j) := by
  have hl := frac_len hz
  rw [hL.out] at hl
  refine (fparse_short L w (by omega) hm hT).mono fun e w' h => ?_
  rw [RetP, if_neg (by omega), ← hL.out, if_pos (fok_text q), fq_text] at h
  obtain ⟨A, c, B, d, h1, h2, h3⟩ := h
  exact ⟨A, c, B, d, h1, ⟨h2.num, h2.den, hz⟩, h3⟩
end
theorem cmpQ_eq_zero {p q : Rat} : cmpQ p q = 0 ↔ p = q := by
  rw [cmpQ_sub, sgn_eq_zero]
  constructor
  · intro h
    have h2 : p = p - q + q := by rw [Rat.sub_add_cancel]
    rw [h2, h, Rat.zero_add]
  · rintro rfl; exact Rat.sub_self
theorem text_cmp {p q : Rat} {b : Bool} (h : (fracText p == fracText q) = b) : (cmpQ p q == 0) = b := by
  rw [← h, Bool.eq_iff_iff, beq_iff_eq, beq_iff_eq, text_inj, cmpQ_eq_zero]
set_option maxHeartbeats 800000 in
set_option maxRecDepth 100000 in
theorem ftexts_few {s1 : Bool} {A1' B1' : Option Addr} {n1 c1' m1 d1' : Nat} {s2 : Bool} {A2' B2' : Option Addr} {n2 c2' m2 d2' : Nat} (w : World) (hT : Tab w) (hlens : Hid (∀ x ∈ [(FE.mk s1 A1' n1 c1' B1' m1 d1'), (FE.mk s2 A2' n2 c2' B2' m2 d2')], x.n ≤ 9223372036854775807 ∧ x.m ≤ 9223372036854775807)) (hfew : Hid (fewB [(FE.mk s1 A1' n1 c1' B1' m1 d1'), (FE.mk s2 A2' n2 c2' B2' m2 d2')] = false)) :
    Calls Tryz.prog 4 #[.agg #[.bool s1, .slice A1' n1 c1', .slice B1' m1 d1'], .agg #[.bool s2, .slice A2' n2 c2', .slice B2' m2 d2']] w (RetB w true) := by
  go_enter Tryz.func4, Tryz.ntmps4
  go_wp2_with fail
  have HX := BL.two w #[.bool s1, .slice A1' n1 c1', .slice B1' m1 d1'] #[.bool s2, .slice A2' n2 c2', .slice B2' m2 d2'] 27 27
  refine (awake_h (hT.ext HX.below)).mono ?_
  rintro e w1 ⟨rfl, hb⟩
  replace HX := HX.ext hb
  clear hb
  have hc00 := HX.cell 0 0 rfl rfl
  have hc01 := HX.cell 0 1 rfl rfl
  have hc02 := HX.cell 0 2 rfl rfl
  have hc10 := HX.cell 1 0 rfl rfl
  have hc11 := HX.cell 1 1 rfl rfl
  have hc12 := HX.cell 1 2 rfl rfl
  simp only [] at hc00 hc01 hc02 hc10 hc11 hc12
  go_wp2_with fail
  have hfs := FS.lit w1 27 [(FE.mk s1 A1' n1 c1' B1' m1 d1'), (FE.mk s2 A2' n2 c2' B2' m2 d2')] #[.bool s1, .slice A1' n1 c1', .slice B1' m1 d1', .bool s2, .slice A2' n2 c2', .slice B2' m2 d2'] rfl
  refine (few_any _ 2 2 _ _ hfs rfl (by omega) hlens.out).mono ?_
  rintro e w2 ⟨rfl, rfl⟩
  rw [hfew.out]
  have hb := below_alloc w1 (.cells #[.bool s1, .slice A1' n1 c1', .slice B1' m1 d1', .bool s2, .slice A2' n2 c2', .slice B2' m2 d2'] 27)
  clear hfs hc00 hc01 hc02 hc10 hc11 hc12
  replace HX := HX.ext hb
  clear hb
  generalize w1.alloc (.cells #[.bool s1, .slice A1' n1 c1', .slice B1' m1 d1', .bool s2, .slice A2' n2 c2', .slice B2' m2 d2'] 27) = w2 at *
  go_wp2_with fail
  refine (awake_h (hT.ext HX.below)).mono ?_
  rintro e w3 ⟨rfl, hb⟩
  replace HX := HX.ext hb
  go_wp2
  go_ret
  exact ⟨rfl, HX.below⟩

set_option maxHeartbeats 4000000 in
set_option maxRecDepth 100000 in
theorem ftexts {s1 : Bool} {A1' B1' : Option Addr} {n1 c1' m1 d1' : Nat} {s2 : Bool} {A2' B2' : Option Addr} {n2 c2' m2 d2' : Nat} {a b : Rat} (w : World) (hT : Tab w) (hm : Mx w) (Pa : Fr w s1 A1' n1 c1' B1' m1 d1' a 6) (Pb : Fr w s2 A2' n2 c2' B2' m2 d2' b 6) (hlens : Hid (∀ x ∈ [(FE.mk s1 A1' n1 c1' B1' m1 d1'), (FE.mk s2 A2' n2 c2' B2' m2 d2')], x.n ≤ 9223372036854775807 ∧ x.m ≤ 9223372036854775807)) (hfew : Hid (fewB [(FE.mk s1 A1' n1 c1' B1' m1 d1'), (FE.mk s2 A2' n2 c2' B2' m2 d2')] = true)) :
    Calls Tryz.prog 4 #[.agg #[.bool s1, .slice A1' n1 c1', .slice B1' m1 d1'], .agg #[.bool s2, .slice A2' n2 c2', .slice B2' m2 d2']] w (RetB w true) := by
  have za : Sz a 7 := Pa.sz
  have zb : Sz b 7 := Pb.sz
  obtain ⟨S, hS⟩ : ∃ S, fracText a = S := ⟨_, rfl⟩
  obtain ⟨T, hT2⟩ : ∃ T, fracText b = T := ⟨_, rfl⟩
  obtain ⟨t, ht⟩ : ∃ t, (S == T) = t := ⟨_, rfl⟩
  obtain ⟨x, hx⟩ : ∃ x, cmpQ a b = x := ⟨_, rfl⟩
  have hx0 : (x == 0) = t := by rw [← hx]; exact text_cmp (by rw [hS, hT2]; exact ht)
  have htt : ((str S).toList == (str T).toList) = t := by rw [str_toList, str_toList]; exact ht
  have hss : ((str S).toList == (str S).toList) = true := beq_self_eq_true _
  have HS := Lib.hid hS
  have HT := Lib.hid hT2
  have HC := Lib.hid hx
  clear hS hT2 ht hx
  go_enter Tryz.func4, Tryz.ntmps4
  go_wp2_with fail
  have HX := BL.two w #[.bool s1, .slice A1' n1 c1', .slice B1' m1 d1'] #[.bool s2, .slice A2' n2 c2', .slice B2' m2 d2'] 27 27
  replace Pa := Pa.ext HX.below
  replace Pb := Pb.ext HX.below
  refine (awake_h (hT.ext HX.below)).mono ?_
  rintro e w1 ⟨rfl, hb⟩
  replace HX := HX.ext hb
  replace Pa := Pa.ext hb
  replace Pb := Pb.ext hb
  clear hb
  have hc00 := HX.cell 0 0 rfl rfl
  have hc01 := HX.cell 0 1 rfl rfl
  have hc02 := HX.cell 0 2 rfl rfl
  have hc10 := HX.cell 1 0 rfl rfl
  have hc11 := HX.cell 1 1 rfl rfl
  have hc12 := HX.cell 1 2 rfl rfl
  simp only [] at hc00 hc01 hc02 hc10 hc11 hc12
  go_wp2_with fail
  have hfs := FS.lit w1 27 [(FE.mk s1 A1' n1 c1' B1' m1 d1'), (FE.mk s2 A2' n2 c2' B2' m2 d2')] #[.bool s1, .slice A1' n1 c1', .slice B1' m1 d1', .bool s2, .slice A2' n2 c2', .slice B2' m2 d2'] rfl
  refine (few_any _ 2 2 _ _ hfs rfl (by omega) hlens.out).mono ?_
  rintro e w2 ⟨rfl, rfl⟩
  rw [hfew.out]
  have hb := below_alloc w1 (.cells #[.bool s1, .slice A1' n1 c1', .slice B1' m1 d1', .bool s2, .slice A2' n2 c2', .slice B2' m2 d2'] 27)
  clear hfs hc00 hc01 hc02 hc10 hc11 hc12
  replace HX := HX.ext hb
  replace Pa := Pa.ext hb
  replace Pb := Pb.ext hb
  clear hb
  generalize w1.alloc (.cells #[.bool s1, .slice A1' n1 c1', .slice B1' m1 d1', .bool s2, .slice A2' n2 c2', .slice B2' m2 d2'] 27) = w2 at *
  clear hlens hfew
  replace hT := hT.ext HX.below
  replace hm := hm.ext HX.below
  have hc00 := HX.cell 0 0 rfl rfl
  have hc01 := HX.cell 0 1 rfl rfl
  have hc02 := HX.cell 0 2 rfl rfl
  try simp only [List.getElem_toArray, List.getElem_cons_zero, List.getElem_cons_succ] at hc00 hc01 hc02
  go_wp2_with fail
  refine (ftext_h HS Pa (by omega) hT).mono ?_
  rintro e w3 ⟨rfl, hb⟩
  clear hc00 hc01 hc02
  replace HX := HX.ext hb
  replace Pa := Pa.ext hb
  replace Pb := Pb.ext hb
  replace hT := hT.ext hb
  replace hm := hm.ext hb
  clear hb
  go_wp2_with fail
  refine (fparse_text HS za (by omega) hm hT).mono ?_
  rintro e w4 ⟨A4, c4, B4, d4, rfl, F4, hb⟩
  replace HX := HX.ext hb
  replace Pa := Pa.ext hb
  replace Pb := Pb.ext hb
  replace hT := hT.ext hb
  replace hm := hm.ext hb
  clear hb
  go_upto_region 5 with fail
  have hb := below_alloc w4 (.cells #[.bool (sg a), .slice A4 (dig (nu a)).length c4, .slice B4 (dig a.den).length d4] 27)
  replace HX := HX.new #[.bool (sg a), .slice A4 (dig (nu a)).length c4, .slice B4 (dig a.den).length d4] 27
  simp only [List.cons_append, List.nil_append] at HX
  replace Pa := Pa.ext hb
  replace Pb := Pb.ext hb
  replace hT := hT.ext hb
  replace hm := hm.ext hb
  replace F4 := F4.ext hb
  clear hb
  generalize w4.alloc (.cells #[.bool (sg a), .slice A4 (dig (nu a)).length c4, .slice B4 (dig a.den).length d4] 27) = W5 at *
  generalize w4.heap.size = g5 at *
  have held : ∀ {W' : World}, BL w W' [(w.heap.size, #[.bool s1, .slice A1' n1 c1', .slice B1' m1 d1'], 27), (w.heap.size + 1, #[.bool s2, .slice A2' n2 c2', .slice B2' m2 d2'], 27), (g5, #[.bool (sg a), .slice A4 (dig (nu a)).length c4, .slice B4 (dig a.den).length d4], 27)] → W'.cell? ⟨w.heap.size, 0, none⟩ = some (.bool s1) ∧ W'.cell? ⟨w.heap.size, 1, none⟩ = some (.slice A1' n1 c1') ∧ W'.cell? ⟨w.heap.size, 2, none⟩ = some (.slice B1' m1 d1') ∧ W'.cell? ⟨w.heap.size + 1, 0, none⟩ = some (.bool s2) ∧ W'.cell? ⟨w.heap.size + 1, 1, none⟩ = some (.slice A2' n2 c2') ∧ W'.cell? ⟨w.heap.size + 1, 2, none⟩ = some (.slice B2' m2 d2') ∧ W'.cell? ⟨g5, 0, none⟩ = some (.bool (sg a)) ∧ W'.cell? ⟨g5, 1, none⟩ = some (.slice A4 (dig (nu a)).length c4) ∧ W'.cell? ⟨g5, 2, none⟩ = some (.slice B4 (dig a.den).length d4) := fun h => ⟨h.cell 0 0 rfl rfl, h.cell 0 1 rfl rfl, h.cell 0 2 rfl rfl, h.cell 1 0 rfl rfl, h.cell 1 1 rfl rfl, h.cell 1 2 rfl rfl, h.cell 2 0 rfl rfl, h.cell 2 1 rfl rfl, h.cell 2 2 rfl rfl⟩
  replace HX := HX.ext (drew_ext _)
  replace Pa := Pa.ext (drew_ext _)
  replace Pb := Pb.ext (drew_ext _)
  replace hT := hT.ext (drew_ext _)
  replace hm := hm.ext (drew_ext _)
  replace F4 := F4.ext (drew_ext _)
  skip
  go_region_held3 (fun W' => W'.cell? ⟨w.heap.size, 0, none⟩ = some (.bool s1) ∧ W'.cell? ⟨w.heap.size, 1, none⟩ = some (.slice A1' n1 c1') ∧ W'.cell? ⟨w.heap.size, 2, none⟩ = some (.slice B1' m1 d1') ∧ W'.cell? ⟨w.heap.size + 1, 0, none⟩ = some (.bool s2) ∧ W'.cell? ⟨w.heap.size + 1, 1, none⟩ = some (.slice A2' n2 c2') ∧ W'.cell? ⟨w.heap.size + 1, 2, none⟩ = some (.slice B2' m2 d2') ∧ W'.cell? ⟨g5, 0, none⟩ = some (.bool (sg a)) ∧ W'.cell? ⟨g5, 1, none⟩ = some (.slice A4 (dig (nu a)).length c4) ∧ W'.cell? ⟨g5, 2, none⟩ = some (.slice B4 (dig a.den).length d4))
    (exact held HX)
    (first
      | (go_at_call_of 15 (Value.slice A1' n1 c1'); refine (qtext_h HS Pa (by omega)).mono ?_; rintro e w5 ⟨rfl, hb⟩; replace HX := HX.ext hb; replace Pa := Pa.ext hb; replace Pb := Pb.ext hb; replace hT := hT.ext hb; replace hm := hm.ext hb; replace F4 := F4.ext hb; clear hb)
      | (go_at_call_of 16 (Value.slice A1' n1 c1'); refine (fnorm_s za Pa (by omega)).mono ?_; rintro e w6 ⟨A6, c6, B6, d6, rfl, F6, hb⟩; replace HX := HX.ext hb; replace Pa := Pa.ext hb; replace Pb := Pb.ext hb; replace hT := hT.ext hb; replace hm := hm.ext hb; replace F4 := F4.ext hb; clear hb)
      | (go_at_call_of 12 (Value.slice A4 (dig (nu a)).length c4); go_at_call_of 12 (Value.slice A6 (dig (nu a)).length c6); refine (bfrac_s F4 F6 (by omega) (by omega)).mono ?_; rintro e w7 ⟨rfl, hb⟩; replace HX := HX.ext hb; replace Pa := Pa.ext hb; replace Pb := Pb.ext hb; replace hT := hT.ext hb; replace hm := hm.ext hb; replace F4 := F4.ext hb; replace F6 := F6.ext hb; clear hb)
      | (go_at_call_of 13 (Value.slice A2' n2 c2'); refine (ftext_h HT Pb (by omega) hT).mono ?_; rintro e w8 ⟨rfl, hb⟩; replace HX := HX.ext hb; replace Pa := Pa.ext hb; replace Pb := Pb.ext hb; replace hT := hT.ext hb; replace hm := hm.ext hb; replace F4 := F4.ext hb; replace F6 := F6.ext hb; clear hb)
      | (go_at_call_of 17 (Value.slice A1' n1 c1'); go_at_call_of 17 (Value.slice A2' n2 c2'); refine (fcmp_h HC Pa Pb (by omega) (by omega)).mono ?_; rintro e w9 ⟨rfl, hb⟩; replace HX := HX.ext hb; replace Pa := Pa.ext hb; replace Pb := Pb.ext hb; replace hT := hT.ext hb; replace hm := hm.ext hb; replace F4 := F4.ext hb; replace F6 := F6.ext hb; clear hb))
  go_wp2
  go_ret
  exact ⟨by first | rfl | simp | (cases t <;> rfl), HX.below⟩

theorem ftexts_any {s1 : Bool} {A1' B1' : Option Addr} {n1 c1' m1 d1' : Nat} {s2 : Bool} {A2' B2' : Option Addr} {n2 c2' m2 d2' : Nat} (w : World) (hT : Tab w) (hm : Mx w) (Pa : Arg w s1 A1' n1 c1' B1' m1 d1') (Pb : Arg w s2 A2' n2 c2' B2' m2 d2') :
    Calls Tryz.prog 4 #[.agg #[.bool s1, .slice A1' n1 c1', .slice B1' m1 d1'], .agg #[.bool s2, .slice A2' n2 c2', .slice B2' m2 d2']] w (RetB w true) := by
  have hlens : ∀ x ∈ [(FE.mk s1 A1' n1 c1' B1' m1 d1'), (FE.mk s2 A2' n2 c2' B2' m2 d2')], x.n ≤ 9223372036854775807 ∧ x.m ≤ 9223372036854775807 := by
    intro x hx
    simp only [List.mem_cons, List.not_mem_nil, or_false] at hx
    rcases hx with rfl | rfl
    · exact ⟨Pa.hn, Pa.hm⟩
    · exact ⟨Pb.hn, Pb.hm⟩
  cases hf : fewB [(FE.mk s1 A1' n1 c1' B1' m1 d1'), (FE.mk s2 A2' n2 c2' B2' m2 d2')]
  · exact ftexts_few w hT (Lib.hid hlens) (Lib.hid hf)
  · have hf2 := hf
    rw [fewB2] at hf2
    simp only [Bool.and_eq_true, decide_eq_true_eq] at hf2
    obtain ⟨a, Pa'⟩ : ∃ q, Fr w s1 A1' n1 c1' B1' m1 d1' q 6 := Pa.fr (by omega) (by omega)
    obtain ⟨b, Pb'⟩ : ∃ q, Fr w s2 A2' n2 c2' B2' m2 d2' q 6 := Pb.fr (by omega) (by omega)
    exact ftexts w hT hm Pa' Pb' (Lib.hid hlens) (Lib.hid hf)

set_option maxHeartbeats 800000 in
set_option maxRecDepth 100000 in
theorem fparses_far (L : List UInt8) (w : World) (hT : Tab w) (hl : L.length ≤ 9223372036854775807) (h1 : (400 < L.length ∧ L.length < 4001) ∨ 5000 < L.length) :
    Calls Tryz.prog 3 #[.string (str L)] w (RetB w true) := by
  have hsz : (str L).size = L.length := str_size L
  have HX := BL.nil w
  rcases h1 with ⟨h1, h2⟩ | h1
  · go_enter Tryz.func3, Tryz.ntmps3
    go_wp2_with fail
    refine (awake_h hT).mono ?_
    rintro e w1 ⟨rfl, hb⟩
    replace hT := hT.ext hb
    replace HX := HX.ext hb
    clear hb
    go_wp2_with fail
    refine (awake_h hT).mono ?_
    rintro e w2 ⟨rfl, hb⟩
    replace HX := HX.ext hb
    go_wp2
    go_ret
    exact ⟨rfl, HX.below⟩
  · go_enter Tryz.func3, Tryz.ntmps3
    go_wp2_with fail
    refine (awake_h hT).mono ?_
    rintro e w1 ⟨rfl, hb⟩
    replace hT := hT.ext hb
    replace HX := HX.ext hb
    clear hb
    go_wp2_with fail
    refine (awake_h hT).mono ?_
    rintro e w2 ⟨rfl, hb⟩
    replace HX := HX.ext hb
    go_wp2
    go_ret
    exact ⟨rfl, HX.below⟩

set_option maxHeartbeats 2000000 in
set_option maxRecDepth 100000 in
theorem fparses_ok {q : Rat} (L : List UInt8) (w : World) (hT : Tab w) (hm : Mx w) (hl : L.length ≤ 5000) (h1 : L.length ≤ 400 ∨ 4000 < L.length) (hok : Hid (∀ w e w', RetP w L e w' → RetGE w q 500 e w')) (HL : Hid (fracText q = L)) :
    Calls Tryz.prog 3 #[.string (str L)] w (RetB w true) := by
  have hsz : (str L).size = L.length := str_size L
  have HX := BL.nil w
  have hls : L.length ≤ 3000 ∨ 4000 < L.length := by omega
  have hss : ((str L).toList == (str L).toList) = true := beq_self_eq_true _
  rcases h1 with h1 | h1
  · go_enter Tryz.func3, Tryz.ntmps3
    go_wp2_with fail
    refine (awake_h hT).mono ?_
    rintro e w1 ⟨rfl, hb⟩
    replace HX := HX.ext hb
    replace hT := hT.ext hb
    replace hm := hm.ext hb
    clear hb
    go_wp2_with fail
    refine (fparse_any L _ (by omega) hls hm hT).mono ?_
    intro e w2 h2
    replace h2 := hok.out _ _ _ h2
    obtain ⟨A2, c2, B2, d2, rfl, F2, hb⟩ := h2
    replace HX := HX.ext hb
    replace hT := hT.ext hb
    replace hm := hm.ext hb
    clear hb
    go_upto_region 4 with fail
    have hb := below_alloc w2 (.cells #[.bool (sg q), .slice A2 (dig (nu q)).length c2, .slice B2 (dig q.den).length d2] 27)
    replace HX := HX.new #[.bool (sg q), .slice A2 (dig (nu q)).length c2, .slice B2 (dig q.den).length d2] 27
    simp only [List.cons_append, List.nil_append] at HX
    replace hT := hT.ext hb
    replace hm := hm.ext hb
    replace F2 := F2.ext hb
    clear hb
    generalize w2.alloc (.cells #[.bool (sg q), .slice A2 (dig (nu q)).length c2, .slice B2 (dig q.den).length d2] 27) = W2 at *
    generalize w2.heap.size = g2 at *
    go_wp2_with fail
    refine (qparse_any L _ (by omega) hls).mono ?_
    intro e w4 h4
    replace h4 := hok.out _ _ _ h4
    obtain ⟨A4, c4, B4, d4, rfl, F4, hb⟩ := h4
    replace HX := HX.ext hb
    replace hT := hT.ext hb
    replace hm := hm.ext hb
    replace F2 := F2.ext hb
    clear hb
    go_upto_region 5 with fail
    have hb := below_alloc w4 (.cells #[.bool (sg q), .slice A4 (dig (nu q)).length c4, .slice B4 (dig q.den).length d4] 27)
    replace HX := HX.new #[.bool (sg q), .slice A4 (dig (nu q)).length c4, .slice B4 (dig q.den).length d4] 27
    simp only [List.cons_append, List.nil_append] at HX
    replace hT := hT.ext hb
    replace hm := hm.ext hb
    replace F2 := F2.ext hb
    replace F4 := F4.ext hb
    clear hb
    generalize w4.alloc (.cells #[.bool (sg q), .slice A4 (dig (nu q)).length c4, .slice B4 (dig q.den).length d4] 27) = W4 at *
    generalize w4.heap.size = g4 at *
    have hc00 := HX.cell 0 0 rfl rfl
    have hc01 := HX.cell 0 1 rfl rfl
    have hc02 := HX.cell 0 2 rfl rfl
    have hc10 := HX.cell 1 0 rfl rfl
    have hc11 := HX.cell 1 1 rfl rfl
    have hc12 := HX.cell 1 2 rfl rfl
    try simp only [List.getElem_toArray, List.getElem_cons_zero, List.getElem_cons_succ] at hc00 hc01 hc02 hc10 hc11 hc12
    go_wp2_with fail
    refine (bfrac_s F2 F4 (by omega) (by omega)).mono ?_
    rintro e w5 ⟨rfl, hb⟩
    clear hc00 hc01 hc02 hc10 hc11 hc12
    replace HX := HX.ext hb
    replace hT := hT.ext hb
    replace hm := hm.ext hb
    replace F2 := F2.ext hb
    clear hb
    have hc00 := HX.cell 0 0 rfl rfl
    have hc01 := HX.cell 0 1 rfl rfl
    have hc02 := HX.cell 0 2 rfl rfl
    try simp only [List.getElem_toArray, List.getElem_cons_zero, List.getElem_cons_succ] at hc00 hc01 hc02
    go_wp2_with fail
    refine (ftext_h HL F2.fr (by omega) hT).mono ?_
    rintro e w6 ⟨rfl, hb⟩
    replace HX := HX.ext hb
    go_wp2
    go_ret
    exact ⟨by first | rfl | simp, HX.below⟩
  · go_enter Tryz.func3, Tryz.ntmps3
    go_wp2_with fail
    refine (awake_h hT).mono ?_
    rintro e w1 ⟨rfl, hb⟩
    replace HX := HX.ext hb
    replace hT := hT.ext hb
    replace hm := hm.ext hb
    clear hb
    go_wp2_with fail
    refine (fparse_any L _ (by omega) hls hm hT).mono ?_
    intro e w2 h2
    replace h2 := hok.out _ _ _ h2
    obtain ⟨A2, c2, B2, d2, rfl, F2, hb⟩ := h2
    replace HX := HX.ext hb
    replace hT := hT.ext hb
    replace hm := hm.ext hb
    clear hb
    go_upto_region 4 with fail
    have hb := below_alloc w2 (.cells #[.bool (sg q), .slice A2 (dig (nu q)).length c2, .slice B2 (dig q.den).length d2] 27)
    replace HX := HX.new #[.bool (sg q), .slice A2 (dig (nu q)).length c2, .slice B2 (dig q.den).length d2] 27
    simp only [List.cons_append, List.nil_append] at HX
    replace hT := hT.ext hb
    replace hm := hm.ext hb
    replace F2 := F2.ext hb
    clear hb
    generalize w2.alloc (.cells #[.bool (sg q), .slice A2 (dig (nu q)).length c2, .slice B2 (dig q.den).length d2] 27) = W2 at *
    generalize w2.heap.size = g2 at *
    go_wp2_with fail
    refine (qparse_any L _ (by omega) hls).mono ?_
    intro e w4 h4
    replace h4 := hok.out _ _ _ h4
    obtain ⟨A4, c4, B4, d4, rfl, F4, hb⟩ := h4
    replace HX := HX.ext hb
    replace hT := hT.ext hb
    replace hm := hm.ext hb
    replace F2 := F2.ext hb
    clear hb
    go_upto_region 5 with fail
    have hb := below_alloc w4 (.cells #[.bool (sg q), .slice A4 (dig (nu q)).length c4, .slice B4 (dig q.den).length d4] 27)
    replace HX := HX.new #[.bool (sg q), .slice A4 (dig (nu q)).length c4, .slice B4 (dig q.den).length d4] 27
    simp only [List.cons_append, List.nil_append] at HX
    replace hT := hT.ext hb
    replace hm := hm.ext hb
    replace F2 := F2.ext hb
    replace F4 := F4.ext hb
    clear hb
    generalize w4.alloc (.cells #[.bool (sg q), .slice A4 (dig (nu q)).length c4, .slice B4 (dig q.den).length d4] 27) = W4 at *
    generalize w4.heap.size = g4 at *
    have hc00 := HX.cell 0 0 rfl rfl
    have hc01 := HX.cell 0 1 rfl rfl
    have hc02 := HX.cell 0 2 rfl rfl
    have hc10 := HX.cell 1 0 rfl rfl
    have hc11 := HX.cell 1 1 rfl rfl
    have hc12 := HX.cell 1 2 rfl rfl
    try simp only [List.getElem_toArray, List.getElem_cons_zero, List.getElem_cons_succ] at hc00 hc01 hc02 hc10 hc11 hc12
    go_wp2_with fail
    refine (bfrac_s F2 F4 (by omega) (by omega)).mono ?_
    rintro e w5 ⟨rfl, hb⟩
    clear hc00 hc01 hc02 hc10 hc11 hc12
    replace HX := HX.ext hb
    replace hT := hT.ext hb
    replace hm := hm.ext hb
    replace F2 := F2.ext hb
    clear hb
    have hc00 := HX.cell 0 0 rfl rfl
    have hc01 := HX.cell 0 1 rfl rfl
    have hc02 := HX.cell 0 2 rfl rfl
    try simp only [List.getElem_toArray, List.getElem_cons_zero, List.getElem_cons_succ] at hc00 hc01 hc02
    go_wp2_with fail
    refine (ftext_h HL F2.fr (by omega) hT).mono ?_
    rintro e w6 ⟨rfl, hb⟩
    replace HX := HX.ext hb
    go_wp2
    go_ret
    exact ⟨by first | rfl | simp, HX.below⟩

set_option maxHeartbeats 2000000 in
set_option maxRecDepth 100000 in
theorem fparses_bad {err : Int} (L : List UInt8) (w : World) (hT : Tab w) (hm : Mx w) (hl : L.length ≤ 5000) (h1 : L.length ≤ 400 ∨ 4000 < L.length) (hbad : Hid (∀ w e w', RetP w L e w' → RetZE w err e w')) (herr : err ≠ 0) :
    Calls Tryz.prog 3 #[.string (str L)] w (RetB w true) := by
  have hsz : (str L).size = L.length := str_size L
  have HX := BL.nil w
  have hls : L.length ≤ 3000 ∨ 4000 < L.length := by omega
  have he1 : (err != 0) = true := by rw [bne, beq_eq_false_iff_ne.2 herr]; rfl
  have he2 : (err == err) = true := beq_self_eq_true _
  rcases h1 with h1 | h1
  · go_enter Tryz.func3, Tryz.ntmps3
    go_wp2_with fail
    refine (awake_h hT).mono ?_
    rintro e w1 ⟨rfl, hb⟩
    replace HX := HX.ext hb
    replace hT := hT.ext hb
    replace hm := hm.ext hb
    clear hb
    go_wp2_with fail
    refine (fparse_any L _ (by omega) hls hm hT).mono ?_
    intro e w2 h2
    replace h2 := hbad.out _ _ _ h2
    obtain ⟨rfl, hb⟩ := h2
    replace HX := HX.ext hb
    replace hT := hT.ext hb
    replace hm := hm.ext hb
    clear hb
    go_upto_region 4 with fail
    have hb := below_alloc w2 (.cells #[.bool false, .slice none 0 0, .slice none 0 0] 27)
    replace HX := HX.new #[.bool false, .slice none 0 0, .slice none 0 0] 27
    simp only [List.cons_append, List.nil_append] at HX
    replace hT := hT.ext hb
    replace hm := hm.ext hb
    clear hb
    generalize w2.alloc (.cells #[.bool false, .slice none 0 0, .slice none 0 0] 27) = W2 at *
    generalize w2.heap.size = g2 at *
    go_wp2_with fail
    refine (qparse_any L _ (by omega) hls).mono ?_
    intro e w4 h4
    replace h4 := hbad.out _ _ _ h4
    obtain ⟨rfl, hb⟩ := h4
    replace HX := HX.ext hb
    replace hT := hT.ext hb
    replace hm := hm.ext hb
    clear hb
    go_upto_region 5 with fail
    have hb := below_alloc w4 (.cells #[.bool false, .slice none 0 0, .slice none 0 0] 27)
    replace HX := HX.new #[.bool false, .slice none 0 0, .slice none 0 0] 27
    simp only [List.cons_append, List.nil_append] at HX
    replace hT := hT.ext hb
    replace hm := hm.ext hb
    clear hb
    generalize w4.alloc (.cells #[.bool false, .slice none 0 0, .slice none 0 0] 27) = W4 at *
    generalize w4.heap.size = g4 at *
    have hc00 := HX.cell 0 0 rfl rfl
    have hc01 := HX.cell 0 1 rfl rfl
    have hc02 := HX.cell 0 2 rfl rfl
    have hc10 := HX.cell 1 0 rfl rfl
    have hc11 := HX.cell 1 1 rfl rfl
    have hc12 := HX.cell 1 2 rfl rfl
    try simp only [List.getElem_toArray, List.getElem_cons_zero, List.getElem_cons_succ] at hc00 hc01 hc02 hc10 hc11 hc12
    go_wp2_with fail
    refine bfrac_0.mono ?_
    rintro e w5 ⟨rfl, hb⟩
    replace HX := HX.ext hb
    go_wp2
    go_ret
    exact ⟨by first | rfl | simp, HX.below⟩
  · go_enter Tryz.func3, Tryz.ntmps3
    go_wp2_with fail
    refine (awake_h hT).mono ?_
    rintro e w1 ⟨rfl, hb⟩
    replace HX := HX.ext hb
    replace hT := hT.ext hb
    replace hm := hm.ext hb
    clear hb
    go_wp2_with fail
    refine (fparse_any L _ (by omega) hls hm hT).mono ?_
    intro e w2 h2
    replace h2 := hbad.out _ _ _ h2
    obtain ⟨rfl, hb⟩ := h2
    replace HX := HX.ext hb
    replace hT := hT.ext hb
    replace hm := hm.ext hb
    clear hb
    go_upto_region 4 with fail
    have hb := below_alloc w2 (.cells #[.bool false, .slice none 0 0, .slice none 0 0] 27)
    replace HX := HX.new #[.bool false, .slice none 0 0, .slice none 0 0] 27
    simp only [List.cons_append, List.nil_append] at HX
    replace hT := hT.ext hb
    replace hm := hm.ext hb
    clear hb
    generalize w2.alloc (.cells #[.bool false, .slice none 0 0, .slice none 0 0] 27) = W2 at *
    generalize w2.heap.size = g2 at *
    go_wp2_with fail
    refine (qparse_any L _ (by omega) hls).mono ?_
    intro e w4 h4
    replace h4 := hbad.out _ _ _ h4
    obtain ⟨rfl, hb⟩ := h4
    replace HX := HX.ext hb
    replace hT := hT.ext hb
    replace hm := hm.ext hb
    clear hb
    go_upto_region 5 with fail
    have hb := below_alloc w4 (.cells #[.bool false, .slice none 0 0, .slice none 0 0] 27)
    replace HX := HX.new #[.bool false, .slice none 0 0, .slice none 0 0] 27
    simp only [List.cons_append, List.nil_append] at HX
    replace hT := hT.ext hb
    replace hm := hm.ext hb
    clear hb
    generalize w4.alloc (.cells #[.bool false, .slice none 0 0, .slice none 0 0] 27) = W4 at *
    generalize w4.heap.size = g4 at *
    have hc00 := HX.cell 0 0 rfl rfl
    have hc01 := HX.cell 0 1 rfl rfl
    have hc02 := HX.cell 0 2 rfl rfl
    have hc10 := HX.cell 1 0 rfl rfl
    have hc11 := HX.cell 1 1 rfl rfl
    have hc12 := HX.cell 1 2 rfl rfl
    try simp only [List.getElem_toArray, List.getElem_cons_zero, List.getElem_cons_succ] at hc00 hc01 hc02 hc10 hc11 hc12
    go_wp2_with fail
    refine bfrac_0.mono ?_
    rintro e w5 ⟨rfl, hb⟩
    replace HX := HX.ext hb
    go_wp2
    go_ret
    exact ⟨by first | rfl | simp, HX.below⟩

theorem fparses_any (L : List UInt8) (w : World) (hT : Tab w) (hm : Mx w) (hl : L.length ≤ 9223372036854775807) :
    Calls Tryz.prog 3 #[.string (str L)] w (RetB w true) := by
  by_cases h : (400 < L.length ∧ L.length < 4001) ∨ 5000 < L.length
  · exact fparses_far L w hT hl h
  · by_cases h4 : 4000 < L.length
    · exact fparses_bad (err := 6) L w hT hm (by omega) (by omega) (Lib.hid (fun w e w' h => by rw [RetP, if_pos h4] at h; exact h)) (by decide)
    · by_cases hf : fok L = true
      · exact fparses_ok (q := fq L) L w hT hm (by omega) (by omega) (Lib.hid (fun w e w' h => by rw [RetP, if_neg h4, if_pos hf] at h; exact h)) (Lib.hid (fok_num hf).2.2)
      · exact fparses_bad (err := 3) L w hT hm (by omega) (by omega) (Lib.hid (fun w e w' h => by rw [RetP, if_neg h4, if_neg hf] at h; exact h)) (by decide)
end Go.Proofs.YtajddhkepbnilaaGreatDoor
