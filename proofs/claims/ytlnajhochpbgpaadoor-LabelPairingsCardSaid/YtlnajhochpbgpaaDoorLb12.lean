/- The statements LabelRuns, LabelExpands, LabelPairings: their walks. -/
import Derived.Test.YtlnajhochpbgpaaDoorLb10
namespace Go.Proofs.YtlnajhochpbgpaaDoor
open Go.RowKit Go.Proofs Go

theorem lexp_anyL {L : List UInt8} {l : List Int} {E : Int} (w : World) (hE : Env w) (hl : L.length ≤ 20000) (hP : PX L l E) : Calls Tryd.prog 22 #[.string (str L)] w (RetX w l E) := by
  by_cases h : L = []
  · subst h; exact lexp_nil w hP
  · exact lexp_cons w hE hl h hP
set_option maxHeartbeats 4000000 in
set_option maxRecDepth 100000 in
theorem lrunsS_any {A : Option Addr} {c : Nat} {l : List Int} (w : World) (hE : Env w) (H : IEs w A l) (hl : l.length ≤ 9223372036854775807) :
    Calls Tryd.prog 7 #[.slice A l.length c] w (RetB w true) := by
  by_cases h200 : 200 < l.length
  · go_enter Tryd.func7, Tryd.ntmps7
    go_wp2_with fail
    have HX := BL.nil w
    go_wp2_with fail
    refine (lawake_any _ hE).mono ?_
    rintro e w1 ⟨rfl, hb⟩
    replace HX := HX.ext hb
    clear hb
    go_wp2_with fail
    refine (lawake_any _ (hE.ext HX.below)).mono ?_
    rintro e w2 ⟨rfl, hb⟩
    replace HX := HX.ext hb
    clear hb
    go_wp2
    go_ret
    exact ⟨by first | rfl | simp, HX.below⟩
  · obtain ⟨T, F, hP⟩ := PR.ex l
    have hTl := hP.len
    have hsT : (str T).size = T.length := str_size T
    have HPR := Lib.hid hP
    have hsb : ((str T).toList == (str T).toList) = true := beq_self_eq_true _
    rcases hP with ⟨rfl, h1, h2⟩ | ⟨rfl, rfl, _⟩
    · have HPX : Hid (PX T l 0) := Lib.hid (.inl ⟨rfl, h1, h2⟩)
      clear h1 h2
      go_enter Tryd.func7, Tryd.ntmps7
      go_wp2_with fail
      have HX := BL.nil w
      go_wp2_with fail
      refine (lawake_any _ hE).mono ?_
      rintro e w1 ⟨rfl, hb⟩
      replace HX := HX.ext hb
      clear hb
      go_wp2_with fail
      refine (lruns_any A c l _ (hE.ext HX.below).tab (H.ext HX.below) (by omega) HPR.out).mono ?_
      rintro e w2 ⟨rfl, hb⟩
      replace HX := HX.ext hb
      clear hb
      go_wp2_with fail
      refine (rruns_any A c l _ (H.ext HX.below) (by omega) HPR.out).mono ?_
      rintro e w3 ⟨rfl, hb⟩
      replace HX := HX.ext hb
      clear hb
      go_wp2_with fail
      refine (lexp_anyL _ (hE.ext HX.below) (by omega) HPX.out).mono ?_
      rintro e w4 ⟨A4, c4, rfl, HI4, hb⟩
      replace HX := HX.ext hb
      clear hb
      go_wp2_with fail
      refine (bints_any (b := true) A4 A c4 c l l _ HI4 (H.ext HX.below) (by omega) (by omega) (yes rfl)).mono ?_
      rintro e w5 ⟨rfl, hb⟩
      replace HX := HX.ext hb
      clear hb
      go_wp2
      go_ret
      exact ⟨by first | rfl | simp, HX.below⟩
    · have HPX : Hid (PX [] [] 0) := Lib.hid (.inl ⟨rfl, Asc.nil, rfl⟩)
      go_enter Tryd.func7, Tryd.ntmps7
      go_wp2_with fail
      have HX := BL.nil w
      go_wp2_with fail
      refine (lawake_any _ hE).mono ?_
      rintro e w1 ⟨rfl, hb⟩
      replace HX := HX.ext hb
      clear hb
      go_wp2_with fail
      refine (lruns_any A c l _ (hE.ext HX.below).tab (H.ext HX.below) (by omega) HPR.out).mono ?_
      rintro e w2 ⟨rfl, hb⟩
      replace HX := HX.ext hb
      clear hb
      go_wp2_with fail
      refine (rruns_any A c l _ (H.ext HX.below) (by omega) HPR.out).mono ?_
      rintro e w3 ⟨rfl, hb⟩
      replace HX := HX.ext hb
      clear hb
      go_wp2_with fail
      refine (lexp_anyL _ (hE.ext HX.below) (by omega) HPX.out).mono ?_
      rintro e w4 ⟨A4, c4, rfl, HI4, hb⟩
      replace HX := HX.ext hb
      clear hb
      go_wp2
      go_ret
      exact ⟨by first | rfl | simp, HX.below⟩
set_option maxHeartbeats 4000000 in
set_option maxRecDepth 100000 in
theorem lexpS_any {L : List UInt8} (w : World) (hE : Env w) (hl : L.length ≤ 9223372036854775807) :
    Calls Tryd.prog 8 #[.string (str L)] w (RetB w true) := by
  have hsL : (str L).size = L.length := str_size L
  by_cases h200 : 200 < L.length
  · go_enter Tryd.func8, Tryd.ntmps8
    go_wp2_with fail
    have HX := BL.nil w
    go_wp2_with fail
    refine (lawake_any _ hE).mono ?_
    rintro e w1 ⟨rfl, hb⟩
    replace HX := HX.ext hb
    clear hb
    go_wp2_with fail
    refine (lawake_any _ (hE.ext HX.below)).mono ?_
    rintro e w2 ⟨rfl, hb⟩
    replace HX := HX.ext hb
    clear hb
    go_wp2
    go_ret
    exact ⟨by first | rfl | simp, HX.below⟩
  · obtain ⟨l, F, hP⟩ := PX.ex L
    have hll := hP.len
    have HPX := Lib.hid hP
    obtain ⟨T, G, hPR, hF⟩ : ∃ T G, PR l T G ∧ ((F = 0 ∧ G = 0 ∧ T = L) ∨ (F = 3 ∧ G = 0 ∧ T = [])) := by
      rcases hP with ⟨rfl, h1, h2⟩ | ⟨rfl, rfl, _⟩
      · exact ⟨L, 0, .inl ⟨rfl, h1, h2⟩, .inl ⟨rfl, rfl, rfl⟩⟩
      · exact ⟨[], 0, .inl ⟨rfl, Asc.nil, rfl⟩, .inr ⟨rfl, rfl, rfl⟩⟩
    have HPR := Lib.hid hPR
    have hsb : ((str L).toList == (str L).toList) = true := beq_self_eq_true _
    clear hP hPR
    have HF := Lib.hid hF
    clear hF
    go_enter Tryd.func8, Tryd.ntmps8
    go_wp2_with fail
    have HX := BL.nil w
    go_wp2_with fail
    refine (lawake_any _ hE).mono ?_
    rintro e w1 ⟨rfl, hb⟩
    replace HX := HX.ext hb
    clear hb
    go_wp2_with fail
    refine (lexp_anyL _ (hE.ext HX.below) (by omega) HPX.out).mono ?_
    rintro e w2 ⟨A2, c2, rfl, HI2, hb⟩
    replace HX := HX.ext hb
    clear hb
    go_wp2_with fail
    refine (rexp_any _ (by omega) HPX.out).mono ?_
    rintro e w3 ⟨A3, c3, rfl, HI3, hb⟩
    replace HI2 := HI2.ext hb
    replace HX := HX.ext hb
    clear hb
    go_wp2_with fail
    refine (lruns_any A2 c2 l _ (hE.ext HX.below).tab HI2 (by omega) HPR.out).mono ?_
    rintro e w4 ⟨rfl, hb⟩
    replace HI2 := HI2.ext hb
    replace HI3 := HI3.ext hb
    replace HX := HX.ext hb
    clear hb
    go_wp2_with fail
    refine (bints_any (b := true) A2 A3 c2 c3 l l _ HI2 HI3 (by omega) (by omega) (yes rfl)).mono ?_
    rintro e w5 ⟨rfl, hb⟩
    replace HX := HX.ext hb
    clear hb
    rcases HF.out with ⟨rfl, rfl, rfl⟩ | ⟨rfl, rfl, rfl⟩
    · go_wp2
      go_ret
      exact ⟨by first | rfl | simp, HX.below⟩
    · go_wp2
      go_ret
      exact ⟨by first | rfl | simp, HX.below⟩
set_option maxHeartbeats 8000000 in
set_option maxRecDepth 100000 in
theorem lpairS_any {a b c a' b' c' : Int} {L : List UInt8} (w : World) (hE : Env w) (hl : L.length ≤ 9223372036854775807) :
    Calls Tryd.prog 10 #[.agg #[.int .i64 a, .int .i64 b, .int .i64 c], .agg #[.int .i64 a', .int .i64 b', .int .i64 c'], .string (str L)] w (RetB w true) := by
  have hsL : (str L).size = L.length := str_size L
  by_cases h100 : 100 < L.length
  · go_enter Tryd.func10, Tryd.ntmps10
    go_wp2_with fail
    have HX := BL.two w #[.int .i64 a, .int .i64 b, .int .i64 c] #[.int .i64 a', .int .i64 b', .int .i64 c'] 23 23
    go_wp2_with fail
    refine (lawake_any _ (hE.ext HX.below)).mono ?_
    rintro e w1 ⟨rfl, hb⟩
    replace HX := HX.ext hb
    clear hb
    go_wp2_with fail
    refine (lawake_any _ (hE.ext HX.below)).mono ?_
    rintro e w2 ⟨rfl, hb⟩
    replace HX := HX.ext hb
    clear hb
    go_wp2
    go_ret
    exact ⟨by first | rfl | simp, HX.below⟩
  · obtain ⟨T, E, hP⟩ := PG.ex a b c a' b' c'
    obtain ⟨u, v, x, u', v', x', F, hS⟩ := PPX.ex L
    have hTl := hP.len
    have hsT : (str T).size = T.length := str_size T
    have HPG := Lib.hid hP
    have HPS := Lib.hid hS
    have hsb : ((str T).toList == (str T).toList) = true := beq_self_eq_true _
    clear hS
    rcases hP with ⟨rfl, h1, h2⟩ | ⟨rfl, rfl, _⟩
    · have HPT : Hid (PPX T a b c a' b' c' 0) := Lib.hid (.inl ⟨rfl, h1, h2⟩)
      clear h1 h2
      go_enter Tryd.func10, Tryd.ntmps10
      go_wp2_with fail
      have HX := BL.two w #[.int .i64 a, .int .i64 b, .int .i64 c] #[.int .i64 a', .int .i64 b', .int .i64 c'] 23 23
      go_wp2_with fail
      refine (lawake_any _ (hE.ext HX.below)).mono ?_
      rintro e w1 ⟨rfl, hb⟩
      replace HX := HX.ext hb
      clear hb
      have hc00 := HX.cell 0 0 rfl rfl
      have hc01 := HX.cell 0 1 rfl rfl
      have hc02 := HX.cell 0 2 rfl rfl
      try simp only [List.getElem_toArray, List.getElem_cons_zero, List.getElem_cons_succ] at hc00 hc01 hc02
      have hc10 := HX.cell 1 0 rfl rfl
      have hc11 := HX.cell 1 1 rfl rfl
      have hc12 := HX.cell 1 2 rfl rfl
      try simp only [List.getElem_toArray, List.getElem_cons_zero, List.getElem_cons_succ] at hc10 hc11 hc12
      go_wp2_with fail
      refine (lpair_any _ (hE.ext HX.below).tab HPG.out).mono ?_
      rintro e w2 ⟨rfl, hb⟩
      clear hc00 hc01 hc02
      clear hc10 hc11 hc12
      replace HX := HX.ext hb
      clear hb
      have hc00 := HX.cell 0 0 rfl rfl
      have hc01 := HX.cell 0 1 rfl rfl
      have hc02 := HX.cell 0 2 rfl rfl
      try simp only [List.getElem_toArray, List.getElem_cons_zero, List.getElem_cons_succ] at hc00 hc01 hc02
      have hc10 := HX.cell 1 0 rfl rfl
      have hc11 := HX.cell 1 1 rfl rfl
      have hc12 := HX.cell 1 2 rfl rfl
      try simp only [List.getElem_toArray, List.getElem_cons_zero, List.getElem_cons_succ] at hc10 hc11 hc12
      go_wp2_with fail
      refine (rpair_any _ HPG.out).mono ?_
      rintro e w3 ⟨rfl, hb⟩
      clear hc00 hc01 hc02
      clear hc10 hc11 hc12
      replace HX := HX.ext hb
      clear hb
      go_wp2_with fail
      refine (lpp_any _ (hE.ext HX.below) (by omega) HPS.out).mono ?_
      rintro e w4 ⟨rfl, hb⟩
      replace HX := HX.ext hb
      clear hb
      go_upto_region 6 with fail
      have hlg40 := HX.lt 0 rfl
      simp only [] at hlg40
      have hlg41 := HX.lt 1 rfl
      simp only [] at hlg41
      replace HX := (HX.new #[.int .i64 u, .int .i64 v, .int .i64 x] 23).new #[.int .i64 u', .int .i64 v', .int .i64 x'] 23
      simp only [List.cons_append, List.nil_append] at HX
      rw [show (w4.alloc (.cells #[.int .i64 u, .int .i64 v, .int .i64 x] 23)).heap.size = w4.heap.size + 1 from by simp] at HX
      generalize (w4.alloc (.cells #[.int .i64 u, .int .i64 v, .int .i64 x] 23)).alloc (.cells #[.int .i64 u', .int .i64 v', .int .i64 x'] 23) = W4 at *
      generalize w4.heap.size = g4 at *
      go_wp2_with fail
      refine (rpp_any _ (by omega) HPS.out).mono ?_
      rintro e w5 ⟨rfl, hb⟩
      replace HX := HX.ext hb
      clear hb
      go_upto_region 7 with fail
      have hlg50 := HX.lt 0 rfl
      simp only [] at hlg50
      have hlg51 := HX.lt 1 rfl
      simp only [] at hlg51
      have hlg52 := HX.lt 2 rfl
      simp only [] at hlg52
      have hlg53 := HX.lt 3 rfl
      simp only [] at hlg53
      replace HX := (HX.new #[.int .i64 u, .int .i64 v, .int .i64 x] 23).new #[.int .i64 u', .int .i64 v', .int .i64 x'] 23
      simp only [List.cons_append, List.nil_append] at HX
      rw [show (w5.alloc (.cells #[.int .i64 u, .int .i64 v, .int .i64 x] 23)).heap.size = w5.heap.size + 1 from by simp] at HX
      generalize (w5.alloc (.cells #[.int .i64 u, .int .i64 v, .int .i64 x] 23)).alloc (.cells #[.int .i64 u', .int .i64 v', .int .i64 x'] 23) = W5 at *
      generalize w5.heap.size = g5 at *
      have hc20 := HX.cell 2 0 rfl rfl
      have hc21 := HX.cell 2 1 rfl rfl
      have hc22 := HX.cell 2 2 rfl rfl
      try simp only [List.getElem_toArray, List.getElem_cons_zero, List.getElem_cons_succ] at hc20 hc21 hc22
      have hc30 := HX.cell 3 0 rfl rfl
      have hc31 := HX.cell 3 1 rfl rfl
      have hc32 := HX.cell 3 2 rfl rfl
      try simp only [List.getElem_toArray, List.getElem_cons_zero, List.getElem_cons_succ] at hc30 hc31 hc32
      have hc40 := HX.cell 4 0 rfl rfl
      have hc41 := HX.cell 4 1 rfl rfl
      have hc42 := HX.cell 4 2 rfl rfl
      try simp only [List.getElem_toArray, List.getElem_cons_zero, List.getElem_cons_succ] at hc40 hc41 hc42
      have hc50 := HX.cell 5 0 rfl rfl
      have hc51 := HX.cell 5 1 rfl rfl
      have hc52 := HX.cell 5 2 rfl rfl
      try simp only [List.getElem_toArray, List.getElem_cons_zero, List.getElem_cons_succ] at hc50 hc51 hc52
      go_wp2_with fail
      refine (lpp_any _ (hE.ext HX.below) (by omega) HPT.out).mono ?_
      rintro e w6 ⟨rfl, hb⟩
      clear hc20 hc21 hc22
      clear hc30 hc31 hc32
      clear hc40 hc41 hc42
      clear hc50 hc51 hc52
      replace HX := HX.ext hb
      clear hb
      go_upto_region 10 with fail
      have hlg60 := HX.lt 0 rfl
      simp only [] at hlg60
      have hlg61 := HX.lt 1 rfl
      simp only [] at hlg61
      have hlg62 := HX.lt 2 rfl
      simp only [] at hlg62
      have hlg63 := HX.lt 3 rfl
      simp only [] at hlg63
      have hlg64 := HX.lt 4 rfl
      simp only [] at hlg64
      have hlg65 := HX.lt 5 rfl
      simp only [] at hlg65
      replace HX := (HX.new #[.int .i64 a, .int .i64 b, .int .i64 c] 23).new #[.int .i64 a', .int .i64 b', .int .i64 c'] 23
      simp only [List.cons_append, List.nil_append] at HX
      rw [show (w6.alloc (.cells #[.int .i64 a, .int .i64 b, .int .i64 c] 23)).heap.size = w6.heap.size + 1 from by simp] at HX
      generalize (w6.alloc (.cells #[.int .i64 a, .int .i64 b, .int .i64 c] 23)).alloc (.cells #[.int .i64 a', .int .i64 b', .int .i64 c'] 23) = W6 at *
      generalize w6.heap.size = g6 at *
      have hc00 := HX.cell 0 0 rfl rfl
      have hc01 := HX.cell 0 1 rfl rfl
      have hc02 := HX.cell 0 2 rfl rfl
      try simp only [List.getElem_toArray, List.getElem_cons_zero, List.getElem_cons_succ] at hc00 hc01 hc02
      have hc10 := HX.cell 1 0 rfl rfl
      have hc11 := HX.cell 1 1 rfl rfl
      have hc12 := HX.cell 1 2 rfl rfl
      try simp only [List.getElem_toArray, List.getElem_cons_zero, List.getElem_cons_succ] at hc10 hc11 hc12
      have hc60 := HX.cell 6 0 rfl rfl
      have hc61 := HX.cell 6 1 rfl rfl
      have hc62 := HX.cell 6 2 rfl rfl
      try simp only [List.getElem_toArray, List.getElem_cons_zero, List.getElem_cons_succ] at hc60 hc61 hc62
      have hc70 := HX.cell 7 0 rfl rfl
      have hc71 := HX.cell 7 1 rfl rfl
      have hc72 := HX.cell 7 2 rfl rfl
      try simp only [List.getElem_toArray, List.getElem_cons_zero, List.getElem_cons_succ] at hc70 hc71 hc72
      go_wp2
      go_ret
      exact ⟨by first | rfl | simp, HX.below⟩
    · have HPT : Hid (PPX [] 0 0 0 0 0 0 3) := Lib.hid (.inr ⟨rfl, ⟨⟨rfl, rfl, rfl⟩, rfl, rfl, rfl⟩, fun a b c a' b' c' _ h => by rw [pairT, labT] at h; cases h⟩)
      go_enter Tryd.func10, Tryd.ntmps10
      go_wp2_with fail
      have HX := BL.two w #[.int .i64 a, .int .i64 b, .int .i64 c] #[.int .i64 a', .int .i64 b', .int .i64 c'] 23 23
      go_wp2_with fail
      refine (lawake_any _ (hE.ext HX.below)).mono ?_
      rintro e w1 ⟨rfl, hb⟩
      replace HX := HX.ext hb
      clear hb
      have hc00 := HX.cell 0 0 rfl rfl
      have hc01 := HX.cell 0 1 rfl rfl
      have hc02 := HX.cell 0 2 rfl rfl
      try simp only [List.getElem_toArray, List.getElem_cons_zero, List.getElem_cons_succ] at hc00 hc01 hc02
      have hc10 := HX.cell 1 0 rfl rfl
      have hc11 := HX.cell 1 1 rfl rfl
      have hc12 := HX.cell 1 2 rfl rfl
      try simp only [List.getElem_toArray, List.getElem_cons_zero, List.getElem_cons_succ] at hc10 hc11 hc12
      go_wp2_with fail
      refine (lpair_any _ (hE.ext HX.below).tab HPG.out).mono ?_
      rintro e w2 ⟨rfl, hb⟩
      clear hc00 hc01 hc02
      clear hc10 hc11 hc12
      replace HX := HX.ext hb
      clear hb
      have hc00 := HX.cell 0 0 rfl rfl
      have hc01 := HX.cell 0 1 rfl rfl
      have hc02 := HX.cell 0 2 rfl rfl
      try simp only [List.getElem_toArray, List.getElem_cons_zero, List.getElem_cons_succ] at hc00 hc01 hc02
      have hc10 := HX.cell 1 0 rfl rfl
      have hc11 := HX.cell 1 1 rfl rfl
      have hc12 := HX.cell 1 2 rfl rfl
      try simp only [List.getElem_toArray, List.getElem_cons_zero, List.getElem_cons_succ] at hc10 hc11 hc12
      go_wp2_with fail
      refine (rpair_any _ HPG.out).mono ?_
      rintro e w3 ⟨rfl, hb⟩
      clear hc00 hc01 hc02
      clear hc10 hc11 hc12
      replace HX := HX.ext hb
      clear hb
      go_wp2_with fail
      refine (lpp_any _ (hE.ext HX.below) (by omega) HPS.out).mono ?_
      rintro e w4 ⟨rfl, hb⟩
      replace HX := HX.ext hb
      clear hb
      go_upto_region 6 with fail
      have hlg40 := HX.lt 0 rfl
      simp only [] at hlg40
      have hlg41 := HX.lt 1 rfl
      simp only [] at hlg41
      replace HX := (HX.new #[.int .i64 u, .int .i64 v, .int .i64 x] 23).new #[.int .i64 u', .int .i64 v', .int .i64 x'] 23
      simp only [List.cons_append, List.nil_append] at HX
      rw [show (w4.alloc (.cells #[.int .i64 u, .int .i64 v, .int .i64 x] 23)).heap.size = w4.heap.size + 1 from by simp] at HX
      generalize (w4.alloc (.cells #[.int .i64 u, .int .i64 v, .int .i64 x] 23)).alloc (.cells #[.int .i64 u', .int .i64 v', .int .i64 x'] 23) = W4 at *
      generalize w4.heap.size = g4 at *
      go_wp2_with fail
      refine (rpp_any _ (by omega) HPS.out).mono ?_
      rintro e w5 ⟨rfl, hb⟩
      replace HX := HX.ext hb
      clear hb
      go_upto_region 7 with fail
      have hlg50 := HX.lt 0 rfl
      simp only [] at hlg50
      have hlg51 := HX.lt 1 rfl
      simp only [] at hlg51
      have hlg52 := HX.lt 2 rfl
      simp only [] at hlg52
      have hlg53 := HX.lt 3 rfl
      simp only [] at hlg53
      replace HX := (HX.new #[.int .i64 u, .int .i64 v, .int .i64 x] 23).new #[.int .i64 u', .int .i64 v', .int .i64 x'] 23
      simp only [List.cons_append, List.nil_append] at HX
      rw [show (w5.alloc (.cells #[.int .i64 u, .int .i64 v, .int .i64 x] 23)).heap.size = w5.heap.size + 1 from by simp] at HX
      generalize (w5.alloc (.cells #[.int .i64 u, .int .i64 v, .int .i64 x] 23)).alloc (.cells #[.int .i64 u', .int .i64 v', .int .i64 x'] 23) = W5 at *
      generalize w5.heap.size = g5 at *
      have hc20 := HX.cell 2 0 rfl rfl
      have hc21 := HX.cell 2 1 rfl rfl
      have hc22 := HX.cell 2 2 rfl rfl
      try simp only [List.getElem_toArray, List.getElem_cons_zero, List.getElem_cons_succ] at hc20 hc21 hc22
      have hc30 := HX.cell 3 0 rfl rfl
      have hc31 := HX.cell 3 1 rfl rfl
      have hc32 := HX.cell 3 2 rfl rfl
      try simp only [List.getElem_toArray, List.getElem_cons_zero, List.getElem_cons_succ] at hc30 hc31 hc32
      have hc40 := HX.cell 4 0 rfl rfl
      have hc41 := HX.cell 4 1 rfl rfl
      have hc42 := HX.cell 4 2 rfl rfl
      try simp only [List.getElem_toArray, List.getElem_cons_zero, List.getElem_cons_succ] at hc40 hc41 hc42
      have hc50 := HX.cell 5 0 rfl rfl
      have hc51 := HX.cell 5 1 rfl rfl
      have hc52 := HX.cell 5 2 rfl rfl
      try simp only [List.getElem_toArray, List.getElem_cons_zero, List.getElem_cons_succ] at hc50 hc51 hc52
      go_wp2_with fail
      refine (lpp_any _ (hE.ext HX.below) (by omega) HPT.out).mono ?_
      rintro e w6 ⟨rfl, hb⟩
      clear hc20 hc21 hc22
      clear hc30 hc31 hc32
      clear hc40 hc41 hc42
      clear hc50 hc51 hc52
      replace HX := HX.ext hb
      clear hb
      go_upto_region 10 with fail
      have hlg60 := HX.lt 0 rfl
      simp only [] at hlg60
      have hlg61 := HX.lt 1 rfl
      simp only [] at hlg61
      have hlg62 := HX.lt 2 rfl
      simp only [] at hlg62
      have hlg63 := HX.lt 3 rfl
      simp only [] at hlg63
      have hlg64 := HX.lt 4 rfl
      simp only [] at hlg64
      have hlg65 := HX.lt 5 rfl
      simp only [] at hlg65
      replace HX := (HX.new #[.int .i64 0, .int .i64 0, .int .i64 0] 23).new #[.int .i64 0, .int .i64 0, .int .i64 0] 23
      simp only [List.cons_append, List.nil_append] at HX
      rw [show (w6.alloc (.cells #[.int .i64 0, .int .i64 0, .int .i64 0] 23)).heap.size = w6.heap.size + 1 from by simp] at HX
      generalize (w6.alloc (.cells #[.int .i64 0, .int .i64 0, .int .i64 0] 23)).alloc (.cells #[.int .i64 0, .int .i64 0, .int .i64 0] 23) = W6 at *
      generalize w6.heap.size = g6 at *
      have hc00 := HX.cell 0 0 rfl rfl
      have hc01 := HX.cell 0 1 rfl rfl
      have hc02 := HX.cell 0 2 rfl rfl
      try simp only [List.getElem_toArray, List.getElem_cons_zero, List.getElem_cons_succ] at hc00 hc01 hc02
      have hc10 := HX.cell 1 0 rfl rfl
      have hc11 := HX.cell 1 1 rfl rfl
      have hc12 := HX.cell 1 2 rfl rfl
      try simp only [List.getElem_toArray, List.getElem_cons_zero, List.getElem_cons_succ] at hc10 hc11 hc12
      have hc60 := HX.cell 6 0 rfl rfl
      have hc61 := HX.cell 6 1 rfl rfl
      have hc62 := HX.cell 6 2 rfl rfl
      try simp only [List.getElem_toArray, List.getElem_cons_zero, List.getElem_cons_succ] at hc60 hc61 hc62
      have hc70 := HX.cell 7 0 rfl rfl
      have hc71 := HX.cell 7 1 rfl rfl
      have hc72 := HX.cell 7 2 rfl rfl
      try simp only [List.getElem_toArray, List.getElem_cons_zero, List.getElem_cons_succ] at hc70 hc71 hc72
      go_wp2
      go_ret
      exact ⟨by first | rfl | simp, HX.below⟩
end Go.Proofs.YtlnajhochpbgpaaDoor
