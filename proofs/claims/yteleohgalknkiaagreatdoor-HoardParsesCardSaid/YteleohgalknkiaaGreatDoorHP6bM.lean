/- The program's parser of hoards, at any text. -/
import Derived.Test.YteleohgalknkiaaGreatDoorHP2M
namespace Go.Proofs.YteleohgalknkiaaGreatDoor
open Go.RowKit Go.Proofs Go

theorem cut_len1 (s p : List UInt8) : (Lib.cut s p).1.length ≤ s.length := by rw [Lib.cut]; split <;> simp <;> omega
theorem cut_len2 (s p : List UInt8) : (Lib.cut s p).2.1.length ≤ s.length := by rw [Lib.cut]; split <;> simp
theorem cutsuf_h {L R : List UInt8} {s : ByteArray} {b : Bool} (w : World) (h : Hid (Lib.trimSuffix L s.data.toList = R ∧ Lib.hasSuffix L s.data.toList = b)) (hL : L.length ≤ 1000000000) :
    Calls Tryz.prog 133 #[.string (str L), .string s] w fun e w' => e = .returned (.tuple #[.string (str R), .bool b]) ∧ w' = w := by
  refine (Tryz.strings_CutSuffix (str L) s w (by rw [str_size]; omega)).mono ?_
  rintro e w' ⟨he, rfl⟩
  have hd : (str L).data.toList = L := by simp [str]
  rw [hd, h.out.1, h.out.2] at he
  exact ⟨he, rfl⟩
theorem year_any {D : List UInt8} {bc : Bool} (w : World) (hE : Env w) (hl : D.length ≤ 1000000000) :
    Calls Tryz.prog 134 #[.string (str D), .bool bc] w fun e w' => ∃ v, e = .returned (.int .i64 v) ∧ Hid (yearIs D bc v) ∧ Below w.heap.size w w' := by
  by_cases hok : ∃ n, Lib.atoiAll D = .ok n
  · obtain ⟨n, hn⟩ := hok
    have hm : ∀ m : Int, 0 ≤ m → m ≤ 10000 → D = dz m → n = m := fun m h0 h1 hD => by
      rw [hD, atoi_dz h0 (by omega)] at hn
      injection hn with hn
      exact hn.symm
    have HM := Lib.hid hm
    have HN := Lib.hid hn
    clear hm hn
    by_cases hb : 19998 < n
    · have HY : Hid (yearIs D bc 19998) := Lib.hid fun m h0 h1 hD => by have := HM.out m h0 h1 hD; omega
      clear HM
      go_enter Tryz.func134, Tryz.ntmps134
      go_wp2_with fail
      refine (atoi_ok w HN hl).mono ?_
      rintro e w1 ⟨rfl, hbo⟩
      go_wp2
      go_ret
      exact ⟨_, rfl, HY, hbo⟩
    · cases bc
      · have HY : Hid (yearIs D false n) := Lib.hid fun m h0 h1 hD => by have := HM.out m h0 h1 hD; simp [this]
        clear HM
        go_enter Tryz.func134, Tryz.ntmps134
        go_wp2_with fail
        refine (atoi_ok w HN hl).mono ?_
        rintro e w1 ⟨rfl, hbo⟩
        go_wp2
        go_ret
        exact ⟨_, rfl, HY, hbo⟩
      · have HY : Hid (yearIs D true (IntKind.i64.wrap (1 - n))) := Lib.hid fun m h0 h1 hD => by
          have := HM.out m h0 h1 hD
          subst this
          rw [if_pos rfl]
          exact IntWalk.i64_in _ (by omega)
        clear HM
        go_enter Tryz.func134, Tryz.ntmps134
        go_wp2_with fail
        refine (atoi_ok w HN hl).mono ?_
        rintro e w1 ⟨rfl, hbo⟩
        go_wp2
        go_ret
        refine ⟨_, rfl, ?_, hbo⟩
        first | exact HY | (have h := HY.out; rw [IntWalk.i64_left] at h; exact Lib.hid h)
  · have hno : Hid (∀ n, Lib.atoiAll D ≠ .ok n) := Lib.hid fun n h => hok ⟨n, h⟩
    have HY : Hid (yearIs D bc 19998) := Lib.hid fun m h0 h1 hD => by
      rw [hD] at hno
      exact absurd (atoi_dz h0 (by omega)) (hno.out m)
    clear hok
    go_enter Tryz.func134, Tryz.ntmps134
    go_wp2_with fail
    refine (atoi_bad w hno hE hl).mono ?_
    rintro e w1 ⟨v, N, rfl, hbo⟩
    go_wp2
    go_ret
    exact ⟨_, rfl, HY, hbo⟩
set_option maxHeartbeats 4000000 in
set_option maxRecDepth 100000 in
theorem yparse_any {L : List UInt8} {f t E : Int} (w : World) (hE : Env w) (hl : L.length ≤ 1000000) (hP : Hid (PY L f t E)) :
    Calls Tryz.prog 82 #[.string (str L)] w fun e w' => e = .returned (.tuple #[.agg #[.int .i64 f, .int .i64 t], .int .i64 E]) ∧ Below w.heap.size w w' := by
  obtain ⟨bc, hbc⟩ : ∃ bc, Lib.hasSuffix L [32, 66, 67] = bc := ⟨_, rfl⟩
  obtain ⟨N0, hN0⟩ : ∃ N, Lib.trimSuffix L [32, 66, 67] = N := ⟨_, rfl⟩
  obtain ⟨b2, hb2⟩ : ∃ b, Lib.hasSuffix L [32, 65, 68] = b := ⟨_, rfl⟩
  obtain ⟨N1, hN1⟩ : ∃ N, Lib.trimSuffix L [32, 65, 68] = N := ⟨_, rfl⟩
  have lN0 : N0.length ≤ 1000000 := by rw [← hN0]; exact Nat.le_trans (Lib.trimSuffix_le _ _) hl
  have lN1 : N1.length ≤ 1000000 := by rw [← hN1]; exact Nat.le_trans (Lib.trimSuffix_le _ _) hl
  obtain ⟨N, hN⟩ : ∃ N, (if bc = true then N0 else N1) = N := ⟨_, rfl⟩
  have lN : N.length ≤ 1000000 := by rw [← hN]; split <;> assumption
  obtain ⟨A, B, two, hc⟩ : ∃ A B two, Lib.cut N [45] = (A, B, two) := ⟨_, _, _, rfl⟩
  have lA : A.length ≤ 1000000 := by have := cut_len1 N [45]; rw [hc] at this; exact Nat.le_trans this lN
  have lB : B.length ≤ 1000000 := by have := cut_len2 N [45]; rw [hc] at this; exact Nat.le_trans this lN
  obtain ⟨both, hbo⟩ : ∃ b, Lib.hasSuffix A [32, 66, 67] = b := ⟨_, rfl⟩
  obtain ⟨O, hO⟩ : ∃ N, Lib.trimSuffix A [32, 66, 67] = N := ⟨_, rfl⟩
  have lO : O.length ≤ 1000000 := by rw [← hO]; exact Nat.le_trans (Lib.trimSuffix_le _ _) lA
  have hyp : yparts L = (O, bc || both, if two = true then B else A, bc) := by
    rw [yparts]; simp only [hbc, hN0, hN1, hN, hc, hbo, hO]
  have HYP0 := Lib.hid hyp
  have H1 : Hid (Lib.trimSuffix L (⟨#[32, 66, 67]⟩ : ByteArray).data.toList = N0 ∧ Lib.hasSuffix L (⟨#[32, 66, 67]⟩ : ByteArray).data.toList = bc) := Lib.hid ⟨hN0, hbc⟩
  have H2 : Hid (Lib.trimSuffix L (⟨#[32, 65, 68]⟩ : ByteArray).data.toList = N1 ∧ Lib.hasSuffix L (⟨#[32, 65, 68]⟩ : ByteArray).data.toList = b2) := Lib.hid ⟨hN1, hb2⟩
  have H3 := Lib.hid hc
  have H4 : Hid (Lib.trimSuffix A (⟨#[32, 66, 67]⟩ : ByteArray).data.toList = O ∧ Lib.hasSuffix A (⟨#[32, 66, 67]⟩ : ByteArray).data.toList = both) := Lib.hid ⟨hO, hbo⟩
  clear hyp hbc hN0 hb2 hN1 hc hbo hO
  cases bc
  · obtain rfl : N1 = N := hN
    cases two
    · have HYP : Hid (yparts L = (O, both, A, false)) := Lib.hid HYP0.out
      clear HYP0
      go_enter Tryz.func82, Tryz.ntmps82
      go_upto_region 1 with fail
      have HX := BL.one w #[.int .i64 0, .int .i64 0] 24
      have hE := hE.ext HX.below
      generalize w.alloc (.cells #[.int .i64 0, .int .i64 0] 24) = W at *
      go_wp2_with fail
      refine (cutsuf_h _ H1 (by omega)).mono ?_
      rintro e w1 ⟨rfl, rfl⟩
      go_wp2_with fail
      refine (cutsuf_h _ H2 (by omega)).mono ?_
      rintro e w2 ⟨rfl, rfl⟩
      go_wp2_with fail
      refine (cut_h _ H3 hE (by omega)).mono ?_
      rintro e w3 ⟨rfl, hb⟩
      replace HX := HX.ext hb
      replace hE := hE.ext hb
      clear hb
      go_wp2_with fail
      refine (cutsuf_h _ H4 (by omega)).mono ?_
      rintro e w4 ⟨rfl, rfl⟩
      go_wp2_with fail
      refine (year_any _ hE (by omega)).mono ?_
      rintro e w5 ⟨u, rfl, HU, hb⟩
      replace HX := HX.ext hb
      replace hE := hE.ext hb
      clear hb
      go_wp2_with fail
      refine (year_any _ hE (by omega)).mono ?_
      rintro e w6 ⟨v, rfl, HV, hb⟩
      replace HX := HX.ext hb
      replace hE := hE.ext hb
      clear hb
      have hbad := Lib.hid (years_bad HYP.out HU.out HV.out)
      go_upto_region 9 with fail
      replace hE := hE.ext (below_alloc w6 (.cells #[.int .i64 u, .int .i64 v] 24))
      have hgl := HX.lt 0 rfl
      simp only [] at hgl
      replace HX := HX.new #[.int .i64 u, .int .i64 v] 24
      simp only [List.cons_append, List.nil_append] at HX
      generalize w6.alloc (.cells #[.int .i64 u, .int .i64 v] 24) = W9 at *
      generalize w6.heap.size = g9 at *
      have hc10 := HX.cell 1 0 rfl rfl
      have hc11 := HX.cell 1 1 rfl rfl
      try simp only [List.getElem_toArray, List.getElem_cons_zero, List.getElem_cons_succ] at hc10 hc11
      by_cases hyv : YV u v
      · have HYV := yes hyv
        go_wp2_with fail
        refine (yvalid_any (b := true) _ HYV).mono ?_
        rintro e w7 ⟨rfl, hb⟩
        clear hc10 hc11
        replace HX := HX.ext hb
        replace hE := hE.ext hb
        clear hb
        have hc10 := HX.cell 1 0 rfl rfl
        have hc11 := HX.cell 1 1 rfl rfl
        try simp only [List.getElem_toArray, List.getElem_cons_zero, List.getElem_cons_succ] at hc10 hc11
        obtain ⟨M, hM⟩ : ∃ M, yearText u v = M := ⟨_, rfl⟩
        have HM := Lib.hid hM
        go_wp2_with fail
        refine (ytext_any _ hyv HM hE.tab).mono ?_
        rintro e w8 ⟨rfl, hb⟩
        clear hc10 hc11
        replace HX := HX.ext hb
        clear hb
        have hc10 := HX.cell 1 0 rfl rfl
        have hc11 := HX.cell 1 1 rfl rfl
        try simp only [List.getElem_toArray, List.getElem_cons_zero, List.getElem_cons_succ] at hc10 hc11
        have hc00 := HX.cell 0 0 rfl rfl
        have hc01 := HX.cell 0 1 rfl rfl
        have hf00 := HX.free 0 0 rfl
        have hf01 := HX.free 0 1 rfl
        try simp only [List.getElem_toArray, List.getElem_cons_zero, List.getElem_cons_succ] at hc00 hc01
        by_cases hML : M = L
        · obtain ⟨rfl, rfl, rfl⟩ := hP.out.ok hyv (hM.trans hML)
          have hse : ((str M).toList == (str L).toList) = true := str_eq (beq_iff_eq.2 hML)
          clear hyv hM hML hbad
          go_wp2
          clear hc00 hc01 hf00 hf01 hc10 hc11
          replace HX := HX.put2 0 rfl (by omega) (by intro k q hk hne; match k, hk with | 0, hk => (simp at hk; subst hk; simp at hne ⊢; try omega) | 1, hk => (simp at hk; subst hk; simp at hne ⊢; try omega) | k + 2, hk => simp at hk) (.int .i64 f) (.int .i64 t)
          simp only [List.set_cons_zero] at HX
          have hc00 := HX.cell 0 0 rfl rfl
          have hc01 := HX.cell 0 1 rfl rfl
          try simp only [List.getElem_toArray, List.getElem_cons_zero, List.getElem_cons_succ] at hc00 hc01
          exact bodyPost_ret (v := .tuple #[.agg #[.int .i64 f, .int .i64 t], .int .i64 0]) (by simp [results, Tryz.results82, go_sem, hc00, hc01]) rfl ⟨rfl, HX.below⟩
        · obtain ⟨rfl, rfl, rfl⟩ := hP.out.bad (hbad.out fun h => hML (hM.symm.trans h.2))
          have hse : ((str M).toList == (str L).toList) = false := str_eq (beq_eq_false_iff_ne.2 hML)
          clear hyv hM hML hbad
          go_wp2
          clear hc00 hc01 hf00 hf01 hc10 hc11
          replace HX := HX.put2 0 rfl (by omega) (by intro k q hk hne; match k, hk with | 0, hk => (simp at hk; subst hk; simp at hne ⊢; try omega) | 1, hk => (simp at hk; subst hk; simp at hne ⊢; try omega) | k + 2, hk => simp at hk) (.int .i64 0) (.int .i64 0)
          simp only [List.set_cons_zero] at HX
          have hc00 := HX.cell 0 0 rfl rfl
          have hc01 := HX.cell 0 1 rfl rfl
          try simp only [List.getElem_toArray, List.getElem_cons_zero, List.getElem_cons_succ] at hc00 hc01
          exact bodyPost_ret (v := .tuple #[.agg #[.int .i64 0, .int .i64 0], .int .i64 3]) (by simp [results, Tryz.results82, go_sem, hc00, hc01]) rfl ⟨rfl, HX.below⟩
      · obtain ⟨rfl, rfl, rfl⟩ := hP.out.bad (hbad.out fun h => hyv h.1)
        have HYV := no hyv
        clear hyv hbad
        go_wp2_with fail
        refine (yvalid_any (b := false) _ HYV).mono ?_
        rintro e w7 ⟨rfl, hb⟩
        clear hc10 hc11
        replace HX := HX.ext hb
        clear hb
        have hc10 := HX.cell 1 0 rfl rfl
        have hc11 := HX.cell 1 1 rfl rfl
        try simp only [List.getElem_toArray, List.getElem_cons_zero, List.getElem_cons_succ] at hc10 hc11
        have hc00 := HX.cell 0 0 rfl rfl
        have hc01 := HX.cell 0 1 rfl rfl
        have hf00 := HX.free 0 0 rfl
        have hf01 := HX.free 0 1 rfl
        try simp only [List.getElem_toArray, List.getElem_cons_zero, List.getElem_cons_succ] at hc00 hc01
        go_wp2
        clear hc00 hc01 hf00 hf01 hc10 hc11
        replace HX := HX.put2 0 rfl (by omega) (by intro k q hk hne; match k, hk with | 0, hk => (simp at hk; subst hk; simp at hne ⊢; try omega) | 1, hk => (simp at hk; subst hk; simp at hne ⊢; try omega) | k + 2, hk => simp at hk) (.int .i64 0) (.int .i64 0)
        simp only [List.set_cons_zero] at HX
        have hc00 := HX.cell 0 0 rfl rfl
        have hc01 := HX.cell 0 1 rfl rfl
        try simp only [List.getElem_toArray, List.getElem_cons_zero, List.getElem_cons_succ] at hc00 hc01
        exact bodyPost_ret (v := .tuple #[.agg #[.int .i64 0, .int .i64 0], .int .i64 3]) (by simp [results, Tryz.results82, go_sem, hc00, hc01]) rfl ⟨rfl, HX.below⟩
    · have HYP : Hid (yparts L = (O, both, B, false)) := Lib.hid HYP0.out
      clear HYP0
      go_enter Tryz.func82, Tryz.ntmps82
      go_upto_region 1 with fail
      have HX := BL.one w #[.int .i64 0, .int .i64 0] 24
      have hE := hE.ext HX.below
      generalize w.alloc (.cells #[.int .i64 0, .int .i64 0] 24) = W at *
      go_wp2_with fail
      refine (cutsuf_h _ H1 (by omega)).mono ?_
      rintro e w1 ⟨rfl, rfl⟩
      go_wp2_with fail
      refine (cutsuf_h _ H2 (by omega)).mono ?_
      rintro e w2 ⟨rfl, rfl⟩
      go_wp2_with fail
      refine (cut_h _ H3 hE (by omega)).mono ?_
      rintro e w3 ⟨rfl, hb⟩
      replace HX := HX.ext hb
      replace hE := hE.ext hb
      clear hb
      go_wp2_with fail
      refine (cutsuf_h _ H4 (by omega)).mono ?_
      rintro e w4 ⟨rfl, rfl⟩
      go_wp2_with fail
      refine (year_any _ hE (by omega)).mono ?_
      rintro e w5 ⟨u, rfl, HU, hb⟩
      replace HX := HX.ext hb
      replace hE := hE.ext hb
      clear hb
      go_wp2_with fail
      refine (year_any _ hE (by omega)).mono ?_
      rintro e w6 ⟨v, rfl, HV, hb⟩
      replace HX := HX.ext hb
      replace hE := hE.ext hb
      clear hb
      have hbad := Lib.hid (years_bad HYP.out HU.out HV.out)
      go_upto_region 9 with fail
      replace hE := hE.ext (below_alloc w6 (.cells #[.int .i64 u, .int .i64 v] 24))
      have hgl := HX.lt 0 rfl
      simp only [] at hgl
      replace HX := HX.new #[.int .i64 u, .int .i64 v] 24
      simp only [List.cons_append, List.nil_append] at HX
      generalize w6.alloc (.cells #[.int .i64 u, .int .i64 v] 24) = W9 at *
      generalize w6.heap.size = g9 at *
      have hc10 := HX.cell 1 0 rfl rfl
      have hc11 := HX.cell 1 1 rfl rfl
      try simp only [List.getElem_toArray, List.getElem_cons_zero, List.getElem_cons_succ] at hc10 hc11
      by_cases hyv : YV u v
      · have HYV := yes hyv
        go_wp2_with fail
        refine (yvalid_any (b := true) _ HYV).mono ?_
        rintro e w7 ⟨rfl, hb⟩
        clear hc10 hc11
        replace HX := HX.ext hb
        replace hE := hE.ext hb
        clear hb
        have hc10 := HX.cell 1 0 rfl rfl
        have hc11 := HX.cell 1 1 rfl rfl
        try simp only [List.getElem_toArray, List.getElem_cons_zero, List.getElem_cons_succ] at hc10 hc11
        obtain ⟨M, hM⟩ : ∃ M, yearText u v = M := ⟨_, rfl⟩
        have HM := Lib.hid hM
        go_wp2_with fail
        refine (ytext_any _ hyv HM hE.tab).mono ?_
        rintro e w8 ⟨rfl, hb⟩
        clear hc10 hc11
        replace HX := HX.ext hb
        clear hb
        have hc10 := HX.cell 1 0 rfl rfl
        have hc11 := HX.cell 1 1 rfl rfl
        try simp only [List.getElem_toArray, List.getElem_cons_zero, List.getElem_cons_succ] at hc10 hc11
        have hc00 := HX.cell 0 0 rfl rfl
        have hc01 := HX.cell 0 1 rfl rfl
        have hf00 := HX.free 0 0 rfl
        have hf01 := HX.free 0 1 rfl
        try simp only [List.getElem_toArray, List.getElem_cons_zero, List.getElem_cons_succ] at hc00 hc01
        by_cases hML : M = L
        · obtain ⟨rfl, rfl, rfl⟩ := hP.out.ok hyv (hM.trans hML)
          have hse : ((str M).toList == (str L).toList) = true := str_eq (beq_iff_eq.2 hML)
          clear hyv hM hML hbad
          go_wp2
          clear hc00 hc01 hf00 hf01 hc10 hc11
          replace HX := HX.put2 0 rfl (by omega) (by intro k q hk hne; match k, hk with | 0, hk => (simp at hk; subst hk; simp at hne ⊢; try omega) | 1, hk => (simp at hk; subst hk; simp at hne ⊢; try omega) | k + 2, hk => simp at hk) (.int .i64 f) (.int .i64 t)
          simp only [List.set_cons_zero] at HX
          have hc00 := HX.cell 0 0 rfl rfl
          have hc01 := HX.cell 0 1 rfl rfl
          try simp only [List.getElem_toArray, List.getElem_cons_zero, List.getElem_cons_succ] at hc00 hc01
          exact bodyPost_ret (v := .tuple #[.agg #[.int .i64 f, .int .i64 t], .int .i64 0]) (by simp [results, Tryz.results82, go_sem, hc00, hc01]) rfl ⟨rfl, HX.below⟩
        · obtain ⟨rfl, rfl, rfl⟩ := hP.out.bad (hbad.out fun h => hML (hM.symm.trans h.2))
          have hse : ((str M).toList == (str L).toList) = false := str_eq (beq_eq_false_iff_ne.2 hML)
          clear hyv hM hML hbad
          go_wp2
          clear hc00 hc01 hf00 hf01 hc10 hc11
          replace HX := HX.put2 0 rfl (by omega) (by intro k q hk hne; match k, hk with | 0, hk => (simp at hk; subst hk; simp at hne ⊢; try omega) | 1, hk => (simp at hk; subst hk; simp at hne ⊢; try omega) | k + 2, hk => simp at hk) (.int .i64 0) (.int .i64 0)
          simp only [List.set_cons_zero] at HX
          have hc00 := HX.cell 0 0 rfl rfl
          have hc01 := HX.cell 0 1 rfl rfl
          try simp only [List.getElem_toArray, List.getElem_cons_zero, List.getElem_cons_succ] at hc00 hc01
          exact bodyPost_ret (v := .tuple #[.agg #[.int .i64 0, .int .i64 0], .int .i64 3]) (by simp [results, Tryz.results82, go_sem, hc00, hc01]) rfl ⟨rfl, HX.below⟩
      · obtain ⟨rfl, rfl, rfl⟩ := hP.out.bad (hbad.out fun h => hyv h.1)
        have HYV := no hyv
        clear hyv hbad
        go_wp2_with fail
        refine (yvalid_any (b := false) _ HYV).mono ?_
        rintro e w7 ⟨rfl, hb⟩
        clear hc10 hc11
        replace HX := HX.ext hb
        clear hb
        have hc10 := HX.cell 1 0 rfl rfl
        have hc11 := HX.cell 1 1 rfl rfl
        try simp only [List.getElem_toArray, List.getElem_cons_zero, List.getElem_cons_succ] at hc10 hc11
        have hc00 := HX.cell 0 0 rfl rfl
        have hc01 := HX.cell 0 1 rfl rfl
        have hf00 := HX.free 0 0 rfl
        have hf01 := HX.free 0 1 rfl
        try simp only [List.getElem_toArray, List.getElem_cons_zero, List.getElem_cons_succ] at hc00 hc01
        go_wp2
        clear hc00 hc01 hf00 hf01 hc10 hc11
        replace HX := HX.put2 0 rfl (by omega) (by intro k q hk hne; match k, hk with | 0, hk => (simp at hk; subst hk; simp at hne ⊢; try omega) | 1, hk => (simp at hk; subst hk; simp at hne ⊢; try omega) | k + 2, hk => simp at hk) (.int .i64 0) (.int .i64 0)
        simp only [List.set_cons_zero] at HX
        have hc00 := HX.cell 0 0 rfl rfl
        have hc01 := HX.cell 0 1 rfl rfl
        try simp only [List.getElem_toArray, List.getElem_cons_zero, List.getElem_cons_succ] at hc00 hc01
        exact bodyPost_ret (v := .tuple #[.agg #[.int .i64 0, .int .i64 0], .int .i64 3]) (by simp [results, Tryz.results82, go_sem, hc00, hc01]) rfl ⟨rfl, HX.below⟩
  · obtain rfl : N0 = N := hN
    cases two
    · have HYP : Hid (yparts L = (O, true, A, true)) := Lib.hid HYP0.out
      clear HYP0
      go_enter Tryz.func82, Tryz.ntmps82
      go_upto_region 1 with fail
      have HX := BL.one w #[.int .i64 0, .int .i64 0] 24
      have hE := hE.ext HX.below
      generalize w.alloc (.cells #[.int .i64 0, .int .i64 0] 24) = W at *
      go_wp2_with fail
      refine (cutsuf_h _ H1 (by omega)).mono ?_
      rintro e w1 ⟨rfl, rfl⟩
      go_wp2_with fail
      refine (cut_h _ H3 hE (by omega)).mono ?_
      rintro e w3 ⟨rfl, hb⟩
      replace HX := HX.ext hb
      replace hE := hE.ext hb
      clear hb
      go_wp2_with fail
      refine (cutsuf_h _ H4 (by omega)).mono ?_
      rintro e w4 ⟨rfl, rfl⟩
      go_wp2_with fail
      refine (year_any _ hE (by omega)).mono ?_
      rintro e w5 ⟨u, rfl, HU, hb⟩
      replace HX := HX.ext hb
      replace hE := hE.ext hb
      clear hb
      go_wp2_with fail
      refine (year_any _ hE (by omega)).mono ?_
      rintro e w6 ⟨v, rfl, HV, hb⟩
      replace HX := HX.ext hb
      replace hE := hE.ext hb
      clear hb
      have hbad := Lib.hid (years_bad HYP.out HU.out HV.out)
      go_upto_region 9 with fail
      replace hE := hE.ext (below_alloc w6 (.cells #[.int .i64 u, .int .i64 v] 24))
      have hgl := HX.lt 0 rfl
      simp only [] at hgl
      replace HX := HX.new #[.int .i64 u, .int .i64 v] 24
      simp only [List.cons_append, List.nil_append] at HX
      generalize w6.alloc (.cells #[.int .i64 u, .int .i64 v] 24) = W9 at *
      generalize w6.heap.size = g9 at *
      have hc10 := HX.cell 1 0 rfl rfl
      have hc11 := HX.cell 1 1 rfl rfl
      try simp only [List.getElem_toArray, List.getElem_cons_zero, List.getElem_cons_succ] at hc10 hc11
      by_cases hyv : YV u v
      · have HYV := yes hyv
        go_wp2_with fail
        refine (yvalid_any (b := true) _ HYV).mono ?_
        rintro e w7 ⟨rfl, hb⟩
        clear hc10 hc11
        replace HX := HX.ext hb
        replace hE := hE.ext hb
        clear hb
        have hc10 := HX.cell 1 0 rfl rfl
        have hc11 := HX.cell 1 1 rfl rfl
        try simp only [List.getElem_toArray, List.getElem_cons_zero, List.getElem_cons_succ] at hc10 hc11
        obtain ⟨M, hM⟩ : ∃ M, yearText u v = M := ⟨_, rfl⟩
        have HM := Lib.hid hM
        go_wp2_with fail
        refine (ytext_any _ hyv HM hE.tab).mono ?_
        rintro e w8 ⟨rfl, hb⟩
        clear hc10 hc11
        replace HX := HX.ext hb
        clear hb
        have hc10 := HX.cell 1 0 rfl rfl
        have hc11 := HX.cell 1 1 rfl rfl
        try simp only [List.getElem_toArray, List.getElem_cons_zero, List.getElem_cons_succ] at hc10 hc11
        have hc00 := HX.cell 0 0 rfl rfl
        have hc01 := HX.cell 0 1 rfl rfl
        have hf00 := HX.free 0 0 rfl
        have hf01 := HX.free 0 1 rfl
        try simp only [List.getElem_toArray, List.getElem_cons_zero, List.getElem_cons_succ] at hc00 hc01
        by_cases hML : M = L
        · obtain ⟨rfl, rfl, rfl⟩ := hP.out.ok hyv (hM.trans hML)
          have hse : ((str M).toList == (str L).toList) = true := str_eq (beq_iff_eq.2 hML)
          clear hyv hM hML hbad
          go_wp2
          clear hc00 hc01 hf00 hf01 hc10 hc11
          replace HX := HX.put2 0 rfl (by omega) (by intro k q hk hne; match k, hk with | 0, hk => (simp at hk; subst hk; simp at hne ⊢; try omega) | 1, hk => (simp at hk; subst hk; simp at hne ⊢; try omega) | k + 2, hk => simp at hk) (.int .i64 f) (.int .i64 t)
          simp only [List.set_cons_zero] at HX
          have hc00 := HX.cell 0 0 rfl rfl
          have hc01 := HX.cell 0 1 rfl rfl
          try simp only [List.getElem_toArray, List.getElem_cons_zero, List.getElem_cons_succ] at hc00 hc01
          exact bodyPost_ret (v := .tuple #[.agg #[.int .i64 f, .int .i64 t], .int .i64 0]) (by simp [results, Tryz.results82, go_sem, hc00, hc01]) rfl ⟨rfl, HX.below⟩
        · obtain ⟨rfl, rfl, rfl⟩ := hP.out.bad (hbad.out fun h => hML (hM.symm.trans h.2))
          have hse : ((str M).toList == (str L).toList) = false := str_eq (beq_eq_false_iff_ne.2 hML)
          clear hyv hM hML hbad
          go_wp2
          clear hc00 hc01 hf00 hf01 hc10 hc11
          replace HX := HX.put2 0 rfl (by omega) (by intro k q hk hne; match k, hk with | 0, hk => (simp at hk; subst hk; simp at hne ⊢; try omega) | 1, hk => (simp at hk; subst hk; simp at hne ⊢; try omega) | k + 2, hk => simp at hk) (.int .i64 0) (.int .i64 0)
          simp only [List.set_cons_zero] at HX
          have hc00 := HX.cell 0 0 rfl rfl
          have hc01 := HX.cell 0 1 rfl rfl
          try simp only [List.getElem_toArray, List.getElem_cons_zero, List.getElem_cons_succ] at hc00 hc01
          exact bodyPost_ret (v := .tuple #[.agg #[.int .i64 0, .int .i64 0], .int .i64 3]) (by simp [results, Tryz.results82, go_sem, hc00, hc01]) rfl ⟨rfl, HX.below⟩
      · obtain ⟨rfl, rfl, rfl⟩ := hP.out.bad (hbad.out fun h => hyv h.1)
        have HYV := no hyv
        clear hyv hbad
        go_wp2_with fail
        refine (yvalid_any (b := false) _ HYV).mono ?_
        rintro e w7 ⟨rfl, hb⟩
        clear hc10 hc11
        replace HX := HX.ext hb
        clear hb
        have hc10 := HX.cell 1 0 rfl rfl
        have hc11 := HX.cell 1 1 rfl rfl
        try simp only [List.getElem_toArray, List.getElem_cons_zero, List.getElem_cons_succ] at hc10 hc11
        have hc00 := HX.cell 0 0 rfl rfl
        have hc01 := HX.cell 0 1 rfl rfl
        have hf00 := HX.free 0 0 rfl
        have hf01 := HX.free 0 1 rfl
        try simp only [List.getElem_toArray, List.getElem_cons_zero, List.getElem_cons_succ] at hc00 hc01
        go_wp2
        clear hc00 hc01 hf00 hf01 hc10 hc11
        replace HX := HX.put2 0 rfl (by omega) (by intro k q hk hne; match k, hk with | 0, hk => (simp at hk; subst hk; simp at hne ⊢; try omega) | 1, hk => (simp at hk; subst hk; simp at hne ⊢; try omega) | k + 2, hk => simp at hk) (.int .i64 0) (.int .i64 0)
        simp only [List.set_cons_zero] at HX
        have hc00 := HX.cell 0 0 rfl rfl
        have hc01 := HX.cell 0 1 rfl rfl
        try simp only [List.getElem_toArray, List.getElem_cons_zero, List.getElem_cons_succ] at hc00 hc01
        exact bodyPost_ret (v := .tuple #[.agg #[.int .i64 0, .int .i64 0], .int .i64 3]) (by simp [results, Tryz.results82, go_sem, hc00, hc01]) rfl ⟨rfl, HX.below⟩
    · have HYP : Hid (yparts L = (O, true, B, true)) := Lib.hid HYP0.out
      clear HYP0
      go_enter Tryz.func82, Tryz.ntmps82
      go_upto_region 1 with fail
      have HX := BL.one w #[.int .i64 0, .int .i64 0] 24
      have hE := hE.ext HX.below
      generalize w.alloc (.cells #[.int .i64 0, .int .i64 0] 24) = W at *
      go_wp2_with fail
      refine (cutsuf_h _ H1 (by omega)).mono ?_
      rintro e w1 ⟨rfl, rfl⟩
      go_wp2_with fail
      refine (cut_h _ H3 hE (by omega)).mono ?_
      rintro e w3 ⟨rfl, hb⟩
      replace HX := HX.ext hb
      replace hE := hE.ext hb
      clear hb
      go_wp2_with fail
      refine (cutsuf_h _ H4 (by omega)).mono ?_
      rintro e w4 ⟨rfl, rfl⟩
      go_wp2_with fail
      refine (year_any _ hE (by omega)).mono ?_
      rintro e w5 ⟨u, rfl, HU, hb⟩
      replace HX := HX.ext hb
      replace hE := hE.ext hb
      clear hb
      go_wp2_with fail
      refine (year_any _ hE (by omega)).mono ?_
      rintro e w6 ⟨v, rfl, HV, hb⟩
      replace HX := HX.ext hb
      replace hE := hE.ext hb
      clear hb
      have hbad := Lib.hid (years_bad HYP.out HU.out HV.out)
      go_upto_region 9 with fail
      replace hE := hE.ext (below_alloc w6 (.cells #[.int .i64 u, .int .i64 v] 24))
      have hgl := HX.lt 0 rfl
      simp only [] at hgl
      replace HX := HX.new #[.int .i64 u, .int .i64 v] 24
      simp only [List.cons_append, List.nil_append] at HX
      generalize w6.alloc (.cells #[.int .i64 u, .int .i64 v] 24) = W9 at *
      generalize w6.heap.size = g9 at *
      have hc10 := HX.cell 1 0 rfl rfl
      have hc11 := HX.cell 1 1 rfl rfl
      try simp only [List.getElem_toArray, List.getElem_cons_zero, List.getElem_cons_succ] at hc10 hc11
      by_cases hyv : YV u v
      · have HYV := yes hyv
        go_wp2_with fail
        refine (yvalid_any (b := true) _ HYV).mono ?_
        rintro e w7 ⟨rfl, hb⟩
        clear hc10 hc11
        replace HX := HX.ext hb
        replace hE := hE.ext hb
        clear hb
        have hc10 := HX.cell 1 0 rfl rfl
        have hc11 := HX.cell 1 1 rfl rfl
        try simp only [List.getElem_toArray, List.getElem_cons_zero, List.getElem_cons_succ] at hc10 hc11
        obtain ⟨M, hM⟩ : ∃ M, yearText u v = M := ⟨_, rfl⟩
        have HM := Lib.hid hM
        go_wp2_with fail
        refine (ytext_any _ hyv HM hE.tab).mono ?_
        rintro e w8 ⟨rfl, hb⟩
        clear hc10 hc11
        replace HX := HX.ext hb
        clear hb
        have hc10 := HX.cell 1 0 rfl rfl
        have hc11 := HX.cell 1 1 rfl rfl
        try simp only [List.getElem_toArray, List.getElem_cons_zero, List.getElem_cons_succ] at hc10 hc11
        have hc00 := HX.cell 0 0 rfl rfl
        have hc01 := HX.cell 0 1 rfl rfl
        have hf00 := HX.free 0 0 rfl
        have hf01 := HX.free 0 1 rfl
        try simp only [List.getElem_toArray, List.getElem_cons_zero, List.getElem_cons_succ] at hc00 hc01
        by_cases hML : M = L
        · obtain ⟨rfl, rfl, rfl⟩ := hP.out.ok hyv (hM.trans hML)
          have hse : ((str M).toList == (str L).toList) = true := str_eq (beq_iff_eq.2 hML)
          clear hyv hM hML hbad
          go_wp2
          clear hc00 hc01 hf00 hf01 hc10 hc11
          replace HX := HX.put2 0 rfl (by omega) (by intro k q hk hne; match k, hk with | 0, hk => (simp at hk; subst hk; simp at hne ⊢; try omega) | 1, hk => (simp at hk; subst hk; simp at hne ⊢; try omega) | k + 2, hk => simp at hk) (.int .i64 f) (.int .i64 t)
          simp only [List.set_cons_zero] at HX
          have hc00 := HX.cell 0 0 rfl rfl
          have hc01 := HX.cell 0 1 rfl rfl
          try simp only [List.getElem_toArray, List.getElem_cons_zero, List.getElem_cons_succ] at hc00 hc01
          exact bodyPost_ret (v := .tuple #[.agg #[.int .i64 f, .int .i64 t], .int .i64 0]) (by simp [results, Tryz.results82, go_sem, hc00, hc01]) rfl ⟨rfl, HX.below⟩
        · obtain ⟨rfl, rfl, rfl⟩ := hP.out.bad (hbad.out fun h => hML (hM.symm.trans h.2))
          have hse : ((str M).toList == (str L).toList) = false := str_eq (beq_eq_false_iff_ne.2 hML)
          clear hyv hM hML hbad
          go_wp2
          clear hc00 hc01 hf00 hf01 hc10 hc11
          replace HX := HX.put2 0 rfl (by omega) (by intro k q hk hne; match k, hk with | 0, hk => (simp at hk; subst hk; simp at hne ⊢; try omega) | 1, hk => (simp at hk; subst hk; simp at hne ⊢; try omega) | k + 2, hk => simp at hk) (.int .i64 0) (.int .i64 0)
          simp only [List.set_cons_zero] at HX
          have hc00 := HX.cell 0 0 rfl rfl
          have hc01 := HX.cell 0 1 rfl rfl
          try simp only [List.getElem_toArray, List.getElem_cons_zero, List.getElem_cons_succ] at hc00 hc01
          exact bodyPost_ret (v := .tuple #[.agg #[.int .i64 0, .int .i64 0], .int .i64 3]) (by simp [results, Tryz.results82, go_sem, hc00, hc01]) rfl ⟨rfl, HX.below⟩
      · obtain ⟨rfl, rfl, rfl⟩ := hP.out.bad (hbad.out fun h => hyv h.1)
        have HYV := no hyv
        clear hyv hbad
        go_wp2_with fail
        refine (yvalid_any (b := false) _ HYV).mono ?_
        rintro e w7 ⟨rfl, hb⟩
        clear hc10 hc11
        replace HX := HX.ext hb
        clear hb
        have hc10 := HX.cell 1 0 rfl rfl
        have hc11 := HX.cell 1 1 rfl rfl
        try simp only [List.getElem_toArray, List.getElem_cons_zero, List.getElem_cons_succ] at hc10 hc11
        have hc00 := HX.cell 0 0 rfl rfl
        have hc01 := HX.cell 0 1 rfl rfl
        have hf00 := HX.free 0 0 rfl
        have hf01 := HX.free 0 1 rfl
        try simp only [List.getElem_toArray, List.getElem_cons_zero, List.getElem_cons_succ] at hc00 hc01
        go_wp2
        clear hc00 hc01 hf00 hf01 hc10 hc11
        replace HX := HX.put2 0 rfl (by omega) (by intro k q hk hne; match k, hk with | 0, hk => (simp at hk; subst hk; simp at hne ⊢; try omega) | 1, hk => (simp at hk; subst hk; simp at hne ⊢; try omega) | k + 2, hk => simp at hk) (.int .i64 0) (.int .i64 0)
        simp only [List.set_cons_zero] at HX
        have hc00 := HX.cell 0 0 rfl rfl
        have hc01 := HX.cell 0 1 rfl rfl
        try simp only [List.getElem_toArray, List.getElem_cons_zero, List.getElem_cons_succ] at hc00 hc01
        exact bodyPost_ret (v := .tuple #[.agg #[.int .i64 0, .int .i64 0], .int .i64 3]) (by simp [results, Tryz.results82, go_sem, hc00, hc01]) rfl ⟨rfl, HX.below⟩
end Go.Proofs.YteleohgalknkiaaGreatDoor

namespace Go.Proofs.YteleohgalknkiaaGreatDoor
open Go.RowKit Go.Proofs Go

/-- what Text of a hoard gives -/
def PHT (id : Int) (l : List (Int × Int)) (f t : Int) (T : List UInt8) : Prop := (HV id l f t ∧ hoardText id l f t = T) ∨ (¬ HV id l f t ∧ T = [])
theorem PHT.ex (id : Int) (l : List (Int × Int)) (f t : Int) : ∃ T, PHT id l f t T := by
  by_cases h : HV id l f t
  · exact ⟨_, .inl ⟨h, rfl⟩⟩
  · exact ⟨[], .inr ⟨h, rfl⟩⟩
theorem hoardText_len {id : Int} {l : List (Int × Int)} {f t : Int} (h : HV id l f t) : (hoardText id l f t).length ≤ 260 := by
  obtain ⟨⟨i1, i2⟩, ⟨_, l2⟩, hli, hy⟩ := h
  have h1 := coinsText_len (l := l) fun x hx => hli.mem hx
  have h2 := yearText_len hy
  have h3 : (dz id).length ≤ 2 := dz_len (by omega) (by omega) (by omega)
  simp [hoardText, headText]; omega
theorem PHT.len {id : Int} {l : List (Int × Int)} {f t : Int} {T : List UInt8} (h : PHT id l f t T) : T.length ≤ 260 := by
  rcases h with ⟨h, rfl⟩ | ⟨_, rfl⟩
  · exact hoardText_len h
  · simp
set_option maxRecDepth 100000 in
theorem httext_any {id f t : Int} {T : List UInt8} (A : Option Addr) (c : Nat) (l : List (Int × Int)) (w : World) (H : Es w A l) (hl : l.length ≤ 9223372036854775807) (hP : PHT id l f t T) (hT : Tab w) :
    Calls Tryz.prog 30 #[.agg #[.int .i64 id, .slice A l.length c, .int .i64 f, .int .i64 t]] w fun e w' => e = .returned (.string (str T)) ∧ Below w.heap.size w w' := by
  rcases hP with ⟨hv, hL⟩ | ⟨hv, rfl⟩
  · exact htext_any A c l w H hl hv (Lib.hid hL) hT
  · have HV := no hv
    clear hv
    go_enter Tryz.func30, Tryz.ntmps30
    go_wp2_with fail
    have HX := BL.one w #[.int .i64 id, .slice A l.length c, .int .i64 f, .int .i64 t] 26
    replace H := H.ext HX.below
    refine (hvalid_any (b := false) A c l _ H hl HV).mono ?_
    rintro e w1 ⟨rfl, hb⟩
    replace HX := HX.ext hb
    go_wp2
    go_ret
    exact ⟨by first | rfl | trivial, HX.below⟩
/-- two cells of an entry -/
structure EC (W : World) (a : Addr) (k v : Int) : Prop where
  c0 : W.cell? a = some (.int .i64 k)
  c1 : W.cell? ⟨a.block, a.off + 1, none⟩ = some (.int .i64 v)
theorem EC.ext {W W' : World} {a : Addr} {k v : Int} (h : EC W a k v) (hb : Below W.heap.size W W') : EC W' a k v :=
  ⟨by rw [hb.cell (cell_lt h.c0)]; exact h.c0, by rw [hb.cell (cell_lt h.c1)]; exact h.c1⟩
set_option maxHeartbeats 4000000 in
set_option maxRecDepth 100000 in
theorem rtext32_any {id f t : Int} {T : List UInt8} (A : Option Addr) (c : Nat) (l : List (Int × Int)) (w : World) (H : Es w A l) (hl : l.length ≤ 9223372036854775807) (hP : PHT id l f t T) :
    Calls Tryz.prog 86 #[.agg #[.int .i64 id, .slice A l.length c, .int .i64 f, .int .i64 t]] w fun e w' => e = .returned (.string (str T)) ∧ Below w.heap.size w w' := by
  rcases hP with ⟨hv, hL⟩ | ⟨hv, rfl⟩
  · have HV1 := yes hv
    obtain ⟨⟨i1, i2⟩, ⟨_, l2⟩, hli, hy⟩ := hv
    obtain ⟨D, hD⟩ : ∃ D, dz id = D := ⟨_, rfl⟩
    obtain ⟨Y, hY⟩ : ∃ Y, yearText f t = Y := ⟨_, rfl⟩
    have lD : D.length ≤ 2 := hD ▸ dz_len (by omega) (by omega) (by omega)
    have lY : Y.length ≤ 20 := hY ▸ yearText_len hy
    have sD : (str D).size = D.length := str_size D
    have sY : (str Y).size = Y.length := str_size Y
    rw [hoardText, headText, hD, hY] at hL
    have HL := Lib.hid hL
    have HD := Lib.hid hD
    have HLI := Lib.hid hli
    have HYP : Hid (PYT f t Y) := Lib.hid (.inl ⟨hy, hY⟩)
    have K1 : (⟨#[72]⟩ : ByteArray) ++ str D ++ (⟨#[58]⟩ : ByteArray) = str (72 :: (D ++ [58])) := by
      rw [show (⟨#[72]⟩ : ByteArray) = str [72] from rfl, show (⟨#[58]⟩ : ByteArray) = str [58] from rfl, str_append, str_append]; simp
    have HK1 := Lib.hid K1
    clear hL hD hY hli hy K1
    go_enter Tryz.func86, Tryz.ntmps86
    go_wp2_with fail
    have HX := BL.one w #[.int .i64 id, .slice A l.length c, .int .i64 f, .int .i64 t] 26
    replace H := H.ext HX.below
    refine (bhoard_any (b := true) A c l _ H hl HV1).mono ?_
    rintro e w1 ⟨rfl, hb⟩
    replace HX := HX.ext hb
    replace H := H.ext hb
    clear hb
    generalize w.alloc (.cells #[.int .i64 id, .slice A l.length c, .int .i64 f, .int .i64 t] 26) = W0 at *
    have hc00 := HX.cell 0 0 rfl rfl
    try simp only [List.getElem_toArray, List.getElem_cons_zero] at hc00
    go_wp2_with fail
    refine (rdec32_any _ HD (by omega) (by omega)).mono ?_
    rintro e w2 ⟨rfl, hb⟩
    clear hc00
    replace HX := HX.ext hb
    replace H := H.ext hb
    clear hb
    have hK := HK1.out
    go_wp2_with fail
    clear hK
    go_loopg [3, 4] l.length (fun kk X Y wr => ∃ j : Nat, j + kk = l.length ∧ X = .string (str (72 :: (D ++ [58]) ++ coinsText (l.take j))) ∧ Y = .int .i64 (j : Int) ∧ BL w wr [(w.heap.size, #[.int .i64 id, .slice A l.length c, .int .i64 f, .int .i64 t], 26)] ∧ Es wr A l)
    case atStart => exact ⟨0, by omega, by rw [show coinsText (l.take 0) = [] from rfl, List.append_nil], rfl, HX, H⟩
    case round =>
      clear HX H
      obtain ⟨j, hj, rfl, rfl, HX, H⟩ := hrel
      have hlc : (72 :: (D ++ [58]) ++ coinsText (l.take j)).length ≤ 300 := by
        have h1 := coinsText_len (l := l.take j) fun x hx => HLI.out.mem (List.mem_of_mem_take hx)
        have h2 : (l.take j).length ≤ 32 := Nat.le_trans (List.length_take_le' j l) l2
        simp; omega
      have hc01 := HX.cell 0 1 rfl rfl
      try simp only [List.getElem_toArray, List.getElem_cons_zero, List.getElem_cons_succ] at hc01
      by_cases hj0 : j < l.length
      · have hx := List.getElem?_eq_getElem hj0
        obtain ⟨ad, rfl, hbk, c0, c1⟩ := H.at_ hx
        have hcs := coinsText_succ hx
        obtain ⟨q1, q2, _⟩ := coinText_len (HLI.out.at_ hx)
        obtain ⟨⟨p1, p2⟩, p3, p4⟩ := HLI.out.at_ hx
        clear hx
        generalize l[j] = x at *
        obtain ⟨k, v⟩ := x
        simp only [] at p1 p2 p3 p4 c0 c1 q1 q2
        rw [coinText] at hcs
        simp only [] at hcs
        have HEC : EC wr (ad.add (j * 2)) k v := ⟨c0, c1⟩
        obtain ⟨P, hP⟩ : ∃ P, dz k = P := ⟨_, rfl⟩
        obtain ⟨Q, hQ⟩ : ∃ Q, dz v = Q := ⟨_, rfl⟩
        rw [hP] at hcs q1
        rw [hQ] at hcs q2
        have sP : (str P).size = P.length := str_size P
        have sQ : (str Q).size = Q.length := str_size Q
        have HP := Lib.hid hP
        have HQ := Lib.hid hQ
        have HCS := Lib.hid hcs
        clear hP hQ hcs
        obtain ⟨M, hMM⟩ : ∃ M, 72 :: (D ++ [58]) ++ coinsText (l.take j) = M := ⟨_, rfl⟩
        rw [hMM] at hlc
        rw [hMM]
        have sM : (str M).size = M.length := str_size M
        have HMM := Lib.hid hMM
        have hM2 : Hid (M ++ (32 :: (P ++ 120 :: Q)) = 72 :: (D ++ [58]) ++ coinsText (l.take (j + 1))) := Lib.hid (by rw [HCS.out, ← List.append_assoc, hMM])
        clear hMM
        have hs1 : (⟨#[32]⟩ : ByteArray).size = 1 := rfl
        have hs2 : (⟨#[120]⟩ : ByteArray).size = 1 := rfl
        have n1 : ¬ 9223372036854775807 < 1 + P.length := by omega
        have n2 : ¬ 9223372036854775807 < 1 + P.length + 1 := by omega
        have n3 : ¬ 9223372036854775807 < 1 + P.length + 1 + Q.length := by omega
        have n4 : ¬ 9223372036854775807 < M.length + (1 + P.length + 1 + Q.length) := by omega
        go_upto_region 7 with fail
        clear hc01 c0 c1
        replace HX := HX.ext (drew_ext _)
        replace HEC := HEC.ext (drew_ext _)
        replace H := H.ext (drew_ext _)
        have held : ∀ {W' : World}, BL w W' [(w.heap.size, #[.int .i64 id, .slice (some ad) l.length c, .int .i64 f, .int .i64 t], 26)] → EC W' (ad.add (j * 2)) k v → W'.cell? ⟨w.heap.size, 1, none⟩ = some (.slice (some ad) l.length c) ∧ W'.cell? (ad.add (j * 2)) = some (.int .i64 k) ∧ W'.cell? ⟨(ad.add (j * 2)).block, (ad.add (j * 2)).off + 1, none⟩ = some (.int .i64 v) := fun h h2 => ⟨h.cell 0 1 rfl rfl, h2.c0, h2.c1⟩
        go_region_held3 (fun W' => W'.cell? ⟨w.heap.size, 1, none⟩ = some (.slice (some ad) l.length c) ∧ W'.cell? (ad.add (j * 2)) = some (.int .i64 k) ∧ W'.cell? ⟨(ad.add (j * 2)).block, (ad.add (j * 2)).off + 1, none⟩ = some (.int .i64 v))
          (exact held HX HEC)
          (first
            | (go_at_call_of 139 (Value.int .i64 k); refine (rdec32_any _ HP (by omega) (by omega)).mono ?_; rintro e w5 ⟨rfl, hb⟩; replace HX := HX.ext hb; replace HEC := HEC.ext hb; replace H := H.ext hb; clear hb)
            | (go_at_call_of 139 (Value.int .i64 v); refine (rdec32_any _ HQ (by omega) (by omega)).mono ?_; rintro e w5 ⟨rfl, hb⟩; replace HX := HX.ext hb; replace HEC := HEC.ext hb; replace H := H.ext hb; clear hb))
        all_goals (
          clear n1 n2 n3 n4 HEC
          go_wp2
          go_roundg (l.length - (j + 1))
          case measure => omega
          case rel => exact ⟨j + 1, by omega, by rw [← hM2.out, show (⟨#[32]⟩ : ByteArray) = str [32] from rfl, show (⟨#[120]⟩ : ByteArray) = str [120] from rfl]; simp only [str_append]; simp, by go_num, HX, H⟩)
      · have hfin : l.take j = l := List.take_of_length_le (by omega)
        rw [hfin] at hlc ⊢
        obtain ⟨M, hMM⟩ : ∃ M, 72 :: (D ++ [58]) ++ coinsText l = M := ⟨_, rfl⟩
        rw [hMM] at hlc ⊢
        have HLM : Hid (M ++ 59 :: 32 :: Y = T) := Lib.hid (by rw [← hMM, ← HL.out])
        have sM : (str M).size = M.length := str_size M
        clear hMM hfin
        have hs3 : (⟨#[59, 32]⟩ : ByteArray).size = 2 := rfl
        have hc02 := HX.cell 0 2 rfl rfl
        have hc03 := HX.cell 0 3 rfl rfl
        try simp only [List.getElem_toArray, List.getElem_cons_zero, List.getElem_cons_succ] at hc02 hc03
        have n1 : ¬ 9223372036854775807 < M.length + 2 := by omega
        have n2 : ¬ 9223372036854775807 < M.length + 2 + Y.length := by omega
        go_wp2_with fail
        refine (rytext_any _ HYP.out).mono ?_
        rintro e w4 ⟨rfl, hb⟩
        clear hc01 hc02 hc03
        replace HX := HX.ext hb
        go_wp2
        go_ret
        exact ⟨by rw [← HLM.out, show (⟨#[59, 32]⟩ : ByteArray) = str [59, 32] from rfl]; simp only [str_append]; simp, HX.below⟩
  · have HV := no hv
    clear hv
    go_enter Tryz.func86, Tryz.ntmps86
    go_wp2_with fail
    have HX := BL.one w #[.int .i64 id, .slice A l.length c, .int .i64 f, .int .i64 t] 26
    replace H := H.ext HX.below
    refine (bhoard_any (b := false) A c l _ H hl HV).mono ?_
    rintro e w1 ⟨rfl, hb⟩
    replace HX := HX.ext hb
    go_wp2
    go_ret
    exact ⟨by first | rfl | trivial, HX.below⟩
end Go.Proofs.YteleohgalknkiaaGreatDoor

namespace Go.Proofs.YteleohgalknkiaaGreatDoor
open Go.RowKit Go.Proofs Go

theorem split_len (sep s : List UInt8) (_h : sep ≠ []) : ∀ p ∈ Lib.split s sep, p.length ≤ s.length := by
  have key : ∀ (k : Nat) (s : List UInt8), ∀ p ∈ Lib.splitK sep 0 k s, p.length ≤ s.length := by
    intro k
    induction k with
    | zero => intro s p hp; rw [Lib.splitK] at hp; obtain rfl := List.mem_singleton.1 hp; exact Nat.le_refl _
    | succ k ih =>
      intro s p hp
      rw [Lib.splitK] at hp
      split at hp
      · obtain rfl := List.mem_singleton.1 hp; exact Nat.le_refl _
      · rcases List.mem_cons.1 hp with rfl | hp
        · rw [List.length_take]; omega
        · have := ih _ p hp; rw [List.length_drop] at this; omega
  exact key _ s
theorem split_num (sep s : List UInt8) (h : sep ≠ []) : (Lib.split s sep).length ≤ s.length + 1 := by
  have h2 := Lib.splitB_data (str sep) 0 (Lib.countB (str s) (str sep)) (str s)
  have h3 : 1 ≤ (str sep).size := by rw [str_size]; cases sep with | nil => exact absurd rfl h | cons _ _ => simp
  have h4 := congrArg List.length h2
  rw [List.length_map, Lib.splitB_all _ h3 0 _ _ rfl] at h4
  have h5 := Lib.countB_le (str sep) h3 _ (str s) (Nat.le_refl _)
  have e1 : (str sep).data.toList = sep := by simp [str]
  have e2 : (str s).data.toList = s := by simp [str]
  have h6 : (Lib.split s sep).length = (Lib.splitK (str sep).data.toList 0 (Lib.countB (str s) (str sep)) (str s).data.toList).length := by
    rw [e1, e2]; show (Lib.splitK sep 0 (Lib.count s sep) s).length = _
    have : Lib.countB (str s) (str sep) = Lib.count s sep := by show Lib.count (str s).data.toList (str sep).data.toList = _; rw [e1, e2]
    rw [this]
  rw [h6, ← h4]
  rw [str_size] at h5
  omega
theorem cut_len (s : List UInt8) (c : UInt8) : (Lib.cut s [c]).1.length ≤ s.length ∧ (Lib.cut s [c]).2.1.length ≤ s.length := by
  rw [Lib.cut]; split <;> simp <;> omega
theorem trimp_h {L R : List UInt8} {s : ByteArray} (w : World) (h : Hid (Lib.trimPrefix L s.data.toList = R)) :
    Calls Tryz.prog 81 #[.string (str L), .string s] w fun e w' => e = .returned (.string (str R)) ∧ w' = w := by
  refine (Tryz.strings_TrimPrefix (str L) s w).mono ?_
  rintro e w' ⟨he, rfl⟩
  have hd : (str L).data.toList = L := by simp [str]
  rw [hd, h.out] at he
  exact ⟨he, rfl⟩
theorem trimp_len (s p : List UInt8) : (Lib.trimPrefix s p).length ≤ s.length := by rw [Lib.trimPrefix]; split <;> simp
set_option maxHeartbeats 2000000 in
set_option maxRecDepth 100000 in
theorem hparse_a {S front closing headS coins hd : List UInt8} {ws : List (List UInt8)} {b1 b2 : Bool} {id f t E fy ty Ey : Int} {l : List (Int × Int)} (w : World) (hE : Env w) (hl : S.length ≤ 100000) (hP : Hid (PH S id l f t E))
    (H1 : Hid (Lib.cut S [59, 32] = (front, closing, b1))) (H2 : Hid (Lib.cut front [58, 32] = (headS, coins, b2))) (H3 : Hid (Lib.trimPrefix headS (⟨#[72]⟩ : ByteArray).data.toList = hd)) (_HS : Hid (Lib.split coins (⟨#[32]⟩ : ByteArray).data.toList = ws))
    (l1 : front.length ≤ 100000) (l2 : closing.length ≤ 100000) (_l3 : headS.length ≤ 100000) (_l4 : coins.length ≤ 100000) (l5 : hd.length ≤ 100000) (HPY : Hid (PY closing fy ty Ey)) (HPA : Hid (HParts S headS closing ws)) (HNO : Hid (∀ n, Lib.atoiAll hd ≠ .ok n)) :
    Calls Tryz.prog 27 #[.string (str S)] w (RetM w id l f t E) := by
  obtain ⟨rfl, rfl, rfl, rfl, rfl⟩ := hP.out.bad (head_bad HPA.out (by have h := H3.out; have h2 := HNO.out; rw [← h] at h2; exact h2))
  clear HPA _HS hP
  go_enter Tryz.func27, Tryz.ntmps27
  go_upto_region 2 with fail
  have HX := BL.two w #[.int .i64 0, .slice none 0 0, .int .i64 0, .int .i64 0] #[.int .i64 0, .slice none 0 0, .int .i64 0, .int .i64 0] 26 26
  replace hE := hE.ext HX.below
  generalize (w.alloc (.cells #[.int .i64 0, .slice none 0 0, .int .i64 0, .int .i64 0] 26)).alloc (.cells #[.int .i64 0, .slice none 0 0, .int .i64 0, .int .i64 0] 26) = W1 at *
  go_wp2_with fail
  refine (cut2_h _ H1 hE (by omega)).mono ?_
  rintro e w2 ⟨rfl, hb⟩
  replace HX := HX.ext hb
  replace hE := hE.ext hb
  clear hb
  go_wp2_with fail
  refine (cut2_h _ H2 hE (by omega)).mono ?_
  rintro e w3 ⟨rfl, hb⟩
  replace HX := HX.ext hb
  replace hE := hE.ext hb
  clear hb
  go_wp2_with fail
  refine (trimp_h _ H3).mono ?_
  rintro e w4 ⟨rfl, rfl⟩
  go_wp2_with fail
  refine (atoi_bad _ HNO hE (by omega)).mono ?_
  rintro e w5 ⟨vv, NN, rfl, hb⟩
  replace HX := HX.ext hb
  replace hE := hE.ext hb
  clear hb
  go_wp2_with fail
  refine (yparse_any _ hE (by omega) HPY).mono ?_
  rintro e w6 ⟨rfl, hb⟩
  replace HX := HX.ext hb
  replace hE := hE.ext hb
  clear hb
  go_upto_region 6 with fail
  have hlt2 := HX.lt 1 rfl
  simp only [] at hlt2
  replace HX := HX.new #[.int .i64 fy, .int .i64 ty] 24
  simp only [List.cons_append, List.nil_append] at HX
  replace hE := hE.ext (below_alloc w6 (.cells #[.int .i64 fy, .int .i64 ty] 24))
  generalize w6.alloc (.cells #[.int .i64 fy, .int .i64 ty] 24) = W6 at *
  generalize w6.heap.size = g2 at *
  have hc00 := HX.cell 0 0 rfl rfl
  have hc01 := HX.cell 0 1 rfl rfl
  have hc02 := HX.cell 0 2 rfl rfl
  have hc03 := HX.cell 0 3 rfl rfl
  try simp only [List.getElem_toArray, List.getElem_cons_zero, List.getElem_cons_succ] at hc00 hc01 hc02 hc03
  have hf00 := HX.free 0 0 rfl
  have hf01 := HX.free 0 1 rfl
  have hf02 := HX.free 0 2 rfl
  have hf03 := HX.free 0 3 rfl
  try simp only [] at hf00 hf01 hf02 hf03
  go_wp2
  clear hc00 hf00 hc01 hf01 hc02 hf02 hc03 hf03
  replace HX := HX.put4 0 rfl (by omega) (by intro k q hk hne; match k, hk with | 0, hk => (simp at hk; subst hk; simp at hne ⊢; try omega) | 1, hk => (simp at hk; subst hk; simp at hne ⊢; try omega) | 2, hk => (simp at hk; subst hk; simp at hne ⊢; try omega) | k + 3, hk => simp at hk) (.int .i64 0) (.slice none 0 0) (.int .i64 0) (.int .i64 0)
  simp only [List.set_cons_zero] at HX
  have hc00 := HX.cell 0 0 rfl rfl
  have hc01 := HX.cell 0 1 rfl rfl
  have hc02 := HX.cell 0 2 rfl rfl
  have hc03 := HX.cell 0 3 rfl rfl
  try simp only [List.getElem_toArray, List.getElem_cons_zero, List.getElem_cons_succ] at hc00 hc01 hc02 hc03
  exact bodyPost_ret (v := .tuple #[.agg #[.int .i64 0, .slice none 0 0, .int .i64 0, .int .i64 0], .int .i64 3]) (by simp [results, Tryz.results27, go_sem, hc00, hc01, hc02, hc03]) rfl ⟨_, _, rfl, Es.nil _ _, HX.below⟩
set_option maxHeartbeats 2000000 in
set_option maxRecDepth 100000 in
theorem hparse_b {S front closing headS coins hd : List UInt8} {ws : List (List UInt8)} {b1 b2 : Bool} {id f t E fy ty Ey : Int} {l : List (Int × Int)} (w : World) (hE : Env w) (hl : S.length ≤ 100000) (hP : Hid (PH S id l f t E))
    (H1 : Hid (Lib.cut S [59, 32] = (front, closing, b1))) (H2 : Hid (Lib.cut front [58, 32] = (headS, coins, b2))) (H3 : Hid (Lib.trimPrefix headS (⟨#[72]⟩ : ByteArray).data.toList = hd)) (_HS : Hid (Lib.split coins (⟨#[32]⟩ : ByteArray).data.toList = ws))
    (l1 : front.length ≤ 100000) (l2 : closing.length ≤ 100000) (_l3 : headS.length ≤ 100000) (_l4 : coins.length ≤ 100000) (l5 : hd.length ≤ 100000) (HPY : Hid (PY closing fy ty Ey)) (HPA : Hid (HParts S headS closing ws)) {n : Int} (HAT : Hid (Lib.atoiAll hd = .ok n)) (hEy : Ey = 3) (hbad : ∀ f t, YV f t → yearText f t ≠ closing) :
    Calls Tryz.prog 27 #[.string (str S)] w (RetM w id l f t E) := by
  obtain ⟨rfl, rfl, rfl, rfl, rfl⟩ := hP.out.bad (closing_bad HPA.out hbad)
  subst hEy
  clear HPA _HS hP hbad
  go_enter Tryz.func27, Tryz.ntmps27
  go_upto_region 2 with fail
  have HX := BL.two w #[.int .i64 0, .slice none 0 0, .int .i64 0, .int .i64 0] #[.int .i64 0, .slice none 0 0, .int .i64 0, .int .i64 0] 26 26
  replace hE := hE.ext HX.below
  generalize (w.alloc (.cells #[.int .i64 0, .slice none 0 0, .int .i64 0, .int .i64 0] 26)).alloc (.cells #[.int .i64 0, .slice none 0 0, .int .i64 0, .int .i64 0] 26) = W1 at *
  go_wp2_with fail
  refine (cut2_h _ H1 hE (by omega)).mono ?_
  rintro e w2 ⟨rfl, hb⟩
  replace HX := HX.ext hb
  replace hE := hE.ext hb
  clear hb
  go_wp2_with fail
  refine (cut2_h _ H2 hE (by omega)).mono ?_
  rintro e w3 ⟨rfl, hb⟩
  replace HX := HX.ext hb
  replace hE := hE.ext hb
  clear hb
  go_wp2_with fail
  refine (trimp_h _ H3).mono ?_
  rintro e w4 ⟨rfl, rfl⟩
  go_wp2_with fail
  refine (atoi_ok _ HAT (by omega)).mono ?_
  rintro e w5 ⟨rfl, hb⟩
  replace HX := HX.ext hb
  replace hE := hE.ext hb
  clear hb
  go_wp2_with fail
  refine (yparse_any _ hE (by omega) HPY).mono ?_
  rintro e w6 ⟨rfl, hb⟩
  replace HX := HX.ext hb
  replace hE := hE.ext hb
  clear hb
  go_upto_region 6 with fail
  have hlt2 := HX.lt 1 rfl
  simp only [] at hlt2
  replace HX := HX.new #[.int .i64 fy, .int .i64 ty] 24
  simp only [List.cons_append, List.nil_append] at HX
  replace hE := hE.ext (below_alloc w6 (.cells #[.int .i64 fy, .int .i64 ty] 24))
  generalize w6.alloc (.cells #[.int .i64 fy, .int .i64 ty] 24) = W6 at *
  generalize w6.heap.size = g2 at *
  have hc00 := HX.cell 0 0 rfl rfl
  have hc01 := HX.cell 0 1 rfl rfl
  have hc02 := HX.cell 0 2 rfl rfl
  have hc03 := HX.cell 0 3 rfl rfl
  try simp only [List.getElem_toArray, List.getElem_cons_zero, List.getElem_cons_succ] at hc00 hc01 hc02 hc03
  have hf00 := HX.free 0 0 rfl
  have hf01 := HX.free 0 1 rfl
  have hf02 := HX.free 0 2 rfl
  have hf03 := HX.free 0 3 rfl
  try simp only [] at hf00 hf01 hf02 hf03
  go_wp2
  clear hc00 hf00 hc01 hf01 hc02 hf02 hc03 hf03
  replace HX := HX.put4 0 rfl (by omega) (by intro k q hk hne; match k, hk with | 0, hk => (simp at hk; subst hk; simp at hne ⊢; try omega) | 1, hk => (simp at hk; subst hk; simp at hne ⊢; try omega) | 2, hk => (simp at hk; subst hk; simp at hne ⊢; try omega) | k + 3, hk => simp at hk) (.int .i64 0) (.slice none 0 0) (.int .i64 0) (.int .i64 0)
  simp only [List.set_cons_zero] at HX
  have hc00 := HX.cell 0 0 rfl rfl
  have hc01 := HX.cell 0 1 rfl rfl
  have hc02 := HX.cell 0 2 rfl rfl
  have hc03 := HX.cell 0 3 rfl rfl
  try simp only [List.getElem_toArray, List.getElem_cons_zero, List.getElem_cons_succ] at hc00 hc01 hc02 hc03
  exact bodyPost_ret (v := .tuple #[.agg #[.int .i64 0, .slice none 0 0, .int .i64 0, .int .i64 0], .int .i64 3]) (by simp [results, Tryz.results27, go_sem, hc00, hc01, hc02, hc03]) rfl ⟨_, _, rfl, Es.nil _ _, HX.below⟩
set_option maxHeartbeats 4000000 in
set_option maxRecDepth 100000 in
theorem hparse_c {S front closing headS coins hd : List UInt8} {ws : List (List UInt8)} {b1 b2 : Bool} {id f t E fy ty Ey : Int} {l : List (Int × Int)} (w : World) (hE : Env w) (hl : S.length ≤ 100000) (hP : Hid (PH S id l f t E))
    (H1 : Hid (Lib.cut S [59, 32] = (front, closing, b1))) (H2 : Hid (Lib.cut front [58, 32] = (headS, coins, b2))) (H3 : Hid (Lib.trimPrefix headS (⟨#[72]⟩ : ByteArray).data.toList = hd)) (HS : Hid (Lib.split coins (⟨#[32]⟩ : ByteArray).data.toList = ws))
    (l1 : front.length ≤ 100000) (l2 : closing.length ≤ 100000) (_l3 : headS.length ≤ 100000) (l4 : coins.length ≤ 100000) (l5 : hd.length ≤ 100000) (HPY : Hid (PY closing fy ty Ey)) (HPA : Hid (HParts S headS closing ws)) {nid : Int} (HAT : Hid (Lib.atoiAll hd = .ok nid)) (hEy : Ey = 0) (HY : Hid (YV fy ty ∧ yearText fy ty = closing)) (HSN : Hid (S ≠ [])) :
    Calls Tryz.prog 27 #[.string (str S)] w (RetM w id l f t E) := by
  subst hEy
  have HAT2 : Hid (Lib.atoiAll (trimH headS) = .ok nid) := Lib.hid (by have h := H3.out; have h2 := HAT.out; rw [← h] at h2; exact h2)
  have HWL : Hid (∀ p ∈ ws, p.length ≤ 100000) := Lib.hid (fun p hp => Nat.le_trans (split_len (⟨#[32]⟩ : ByteArray).data.toList coins (by simp) p (by rw [HS.out]; exact hp)) l4)
  have hE0 := hE
  have hwn : ws.length ≤ 100001 := by have := split_num (⟨#[32]⟩ : ByteArray).data.toList coins (by simp); rw [HS.out] at this; omega
  go_enter Tryz.func27, Tryz.ntmps27
  go_upto_region 2 with fail
  have HX := BL.two w #[.int .i64 0, .slice none 0 0, .int .i64 0, .int .i64 0] #[.int .i64 0, .slice none 0 0, .int .i64 0, .int .i64 0] 26 26
  replace hE := hE.ext HX.below
  generalize (w.alloc (.cells #[.int .i64 0, .slice none 0 0, .int .i64 0, .int .i64 0] 26)).alloc (.cells #[.int .i64 0, .slice none 0 0, .int .i64 0, .int .i64 0] 26) = W1 at *
  go_wp2_with fail
  refine (cut2_h _ H1 hE (by omega)).mono ?_
  rintro e w2 ⟨rfl, hb⟩
  replace HX := HX.ext hb
  replace hE := hE.ext hb
  clear hb
  go_wp2_with fail
  refine (cut2_h _ H2 hE (by omega)).mono ?_
  rintro e w3 ⟨rfl, hb⟩
  replace HX := HX.ext hb
  replace hE := hE.ext hb
  clear hb
  go_wp2_with fail
  refine (trimp_h _ H3).mono ?_
  rintro e w4 ⟨rfl, rfl⟩
  go_wp2_with fail
  refine (atoi_ok _ HAT (by omega)).mono ?_
  rintro e w5 ⟨rfl, hb⟩
  replace HX := HX.ext hb
  replace hE := hE.ext hb
  clear hb
  go_wp2_with fail
  refine (yparse_any _ hE (by omega) HPY).mono ?_
  rintro e w6 ⟨rfl, hb⟩
  replace HX := HX.ext hb
  replace hE := hE.ext hb
  clear hb
  go_upto_region 6 with fail
  have hlt2 := HX.lt 1 rfl
  simp only [] at hlt2
  replace HX := HX.new #[.int .i64 fy, .int .i64 ty] 24
  simp only [List.cons_append, List.nil_append] at HX
  replace hE := hE.ext (below_alloc w6 (.cells #[.int .i64 fy, .int .i64 ty] 24))
  generalize w6.alloc (.cells #[.int .i64 fy, .int .i64 ty] 24) = W6 at *
  generalize w6.heap.size = g2 at *
  have hc10 := HX.cell 1 0 rfl rfl
  have hc11 := HX.cell 1 1 rfl rfl
  have hc12 := HX.cell 1 2 rfl rfl
  have hc13 := HX.cell 1 3 rfl rfl
  try simp only [List.getElem_toArray, List.getElem_cons_zero, List.getElem_cons_succ] at hc10 hc11 hc12 hc13
  have hf10 := HX.free 1 0 rfl
  have hf11 := HX.free 1 1 rfl
  have hf12 := HX.free 1 2 rfl
  have hf13 := HX.free 1 3 rfl
  try simp only [] at hf10 hf11 hf12 hf13
  have hc20 := HX.cell 2 0 rfl rfl
  have hc21 := HX.cell 2 1 rfl rfl
  try simp only [List.getElem_toArray, List.getElem_cons_zero, List.getElem_cons_succ] at hc20 hc21
  go_upto_region 8 with fail
  go_region
  all_goals (
    clear hc10 hf10 hc11 hf11 hc12 hf12 hc13 hf13
    clear hc20 hc21
    go_upto_region 9 with fail
    replace HX := HX.set1 1 rfl (by omega) (by intro k q hk hne; match k, hk with | 0, hk => (simp at hk; subst hk; simp at hne ⊢; try omega) | 1, hk => (simp at hk; subst hk; simp at hne ⊢; try omega) | 2, hk => (simp at hk; subst hk; simp at hne ⊢; try omega) | k + 3, hk => simp at hk) 0 (.int .i64 nid)
    simp only [List.set_cons_zero, List.set_cons_succ, List.setIfInBounds_toArray] at HX
    replace HX := HX.set1 1 rfl (by omega) (by intro k q hk hne; match k, hk with | 0, hk => (simp at hk; subst hk; simp at hne ⊢; try omega) | 1, hk => (simp at hk; subst hk; simp at hne ⊢; try omega) | 2, hk => (simp at hk; subst hk; simp at hne ⊢; try omega) | k + 3, hk => simp at hk) 2 (.int .i64 fy)
    simp only [List.set_cons_zero, List.set_cons_succ, List.setIfInBounds_toArray] at HX
    replace HX := HX.set1 1 rfl (by omega) (by intro k q hk hne; match k, hk with | 0, hk => (simp at hk; subst hk; simp at hne ⊢; try omega) | 1, hk => (simp at hk; subst hk; simp at hne ⊢; try omega) | 2, hk => (simp at hk; subst hk; simp at hne ⊢; try omega) | k + 3, hk => simp at hk) 3 (.int .i64 ty)
    simp only [List.set_cons_zero, List.set_cons_succ, List.setIfInBounds_toArray] at HX
    replace HX := HX.ext (drew_ext _)
    replace hE := hE0.ext HX.below
    generalize (((W6.setCell ⟨w.heap.size + 1, 0, none⟩ (.int .i64 nid)).setCell ⟨w.heap.size + 1, 2, none⟩ (.int .i64 fy)).setCell ⟨w.heap.size + 1, 3, none⟩ (.int .i64 ty)).drew = W7 at *
    go_wp2_with fail
    refine (split_h _ HS hE (by omega) (by decide)).mono ?_
    rintro e w8 ⟨rfl, rfl⟩
    have hlt3 := HX.lt 2 rfl
    simp only [] at hlt3
    replace HX := HX.new (ws.map fun x => Value.string (str x)).toArray 9
    simp only [List.cons_append, List.nil_append] at HX
    generalize W7.alloc (.cells (ws.map fun x => Value.string (str x)).toArray 9) = W9 at *
    generalize W7.heap.size = g3 at *
    have hltB := HX.lt 3 rfl
    simp only [] at hltB
    obtain ⟨B, hB⟩ : ∃ B, W9.heap.size = B := ⟨_, rfl⟩
    have hBw : w.heap.size ≤ B := by omega
    have hg3B : g3 < B := by omega
    have hBr : B ≤ W9.heap.size := by omega
    clear hB hltB
    have HOWN := EOwn.nil W9 B
    go_wp2
    go_loopg [61] ws.length (fun kk x wr => ∃ (j : Nat) (A8 : Option Addr) (c8 : Nat) (out : List (Int × Int)), j + kk = ws.length ∧ x = .int .i64 (j : Int) ∧ Hid (ReadAs ws out ∧ out.length = j) ∧ out.length ≤ 100001 ∧ EOwn wr B A8 c8 out ∧ BL w wr [(w.heap.size, #[.int .i64 0, .slice none 0 0, .int .i64 0, .int .i64 0], 26), (w.heap.size + 1, #[.int .i64 nid, .slice A8 out.length c8, .int .i64 fy, .int .i64 ty], 26), (g2, #[.int .i64 fy, .int .i64 ty], 24), (g3, (ws.map fun x => Value.string (str x)).toArray, 9)] ∧ B ≤ wr.heap.size)
    case atStart => exact ⟨0, none, 0, [], by omega, rfl, Lib.hid ⟨⟨by simp, fun i w x h1 h2 => by simp at h2⟩, rfl⟩, by simp, HOWN, HX, hBr⟩
    case round =>
      clear HX HOWN hBr hE
      obtain ⟨j, A8, c8, out, hj, rfl, HR, hol, HOWN, HX, hBr⟩ := hrel
      have hE := hE0.ext HX.below
      by_cases hj0 : j < ws.length
      · have hx := Lib.hid (List.getElem?_eq_getElem hj0)
        have hcell : wr.cell? ⟨g3, j, none⟩ = some (.string (str ws[j])) := HX.cell 3 j rfl (by rw [List.getElem?_toArray, List.getElem?_map, hx.out]; rfl)
        have hpl : ws[j].length ≤ 100000 := HWL.out _ (List.getElem_mem hj0)
        generalize ws[j] = p at *
        obtain ⟨P, R, bb, hcut⟩ : ∃ P R bb, Lib.cut p [120] = (P, R, bb) := ⟨_, _, _, rfl⟩
        have hcl := cut_len p 120
        rw [hcut] at hcl
        simp only [] at hcl
        have hPl : P.length ≤ 100000 := by omega
        have hRl : R.length ≤ 100000 := by omega
        have HCUT := Lib.hid hcut
        clear hcut hcl
        have hwj : Hid (ws[out.length]? = some p) := Lib.hid (by rw [HR.out.2]; exact hx.out)
        go_wp2_with fail
        refine (cut_h _ HCUT hE (by omega)).mono ?_
        rintro e w3 ⟨rfl, hb⟩
        replace HX := HX.ext hb
        replace hE := hE.ext hb
        replace HOWN := HOWN.ext hb
        replace hBr := Nat.le_trans hBr hb.size
        clear hb
        by_cases hp : ∃ a, Lib.atoiAll P = .ok a
        · obtain ⟨a, ha⟩ := hp
          have HA := Lib.hid ha
          clear ha
          go_wp2_with fail
          refine (atoi_ok _ HA (by omega)).mono ?_
          rintro e w4 ⟨rfl, hb⟩
          replace HX := HX.ext hb
          replace hE := hE.ext hb
          replace HOWN := HOWN.ext hb
          replace hBr := Nat.le_trans hBr hb.size
          clear hb
          by_cases hr : ∃ a, Lib.atoiAll R = .ok a
          · obtain ⟨b, hb0⟩ := hr
            have HB := Lib.hid hb0
            clear hb0
            have HR2 : Hid (ReadAs ws (out ++ [(a, b)]) ∧ (out ++ [(a, b)]).length = j + 1) := Lib.hid ⟨HR.out.1.snoc hwj.out ⟨P, R, bb, HCUT.out, HA.out, HB.out⟩, by rw [List.length_append, HR.out.2]; rfl⟩
            have hol2 : (out ++ [(a, b)]).length ≤ 100001 := by have := HR2.out.1.1; omega
            go_wp2_with fail
            refine (atoi_ok _ HB (by omega)).mono ?_
            rintro e w5 ⟨rfl, hb⟩
            replace HX := HX.ext hb
            replace hE := hE.ext hb
            replace HOWN := HOWN.ext hb
            replace hBr := Nat.le_trans hBr hb.size
            clear hb
            clear HA HB HCUT hx hwj hcell HR
            have hc10 := HX.cell 1 0 rfl rfl
            have hc11 := HX.cell 1 1 rfl rfl
            have hc12 := HX.cell 1 2 rfl rfl
            have hc13 := HX.cell 1 3 rfl rfl
            try simp only [List.getElem_toArray, List.getElem_cons_zero, List.getElem_cons_succ] at hc10 hc11 hc12 hc13
            go_wp2_with (at_builtin; refine wp_epush _ rfl _ _ rfl rfl rfl HOWN (by omega) hBr ?_)
            intro A9 c9 w7 HOWN2 hb7 hlt7
            replace HX := HX.low hBw (by intro i q hq; match i, hq with | 0, hq => (simp at hq; subst hq; simp; try omega) | 1, hq => (simp at hq; subst hq; simp; try omega) | 2, hq => (simp at hq; subst hq; simp; try omega) | 3, hq => (simp at hq; subst hq; simp; try omega) | i + 4, hq => simp at hq) hb7
            clear hc10 hc11 hc12 hc13
            clear HOWN hb7
            have hB7 : B ≤ w7.heap.size := by omega
            clear hlt7 hBr
            have hc11 := HX.cell 1 1 rfl rfl
            have hf11 := HX.free 1 1 rfl
            try simp only [List.getElem_toArray, List.getElem_cons_zero, List.getElem_cons_succ] at hc11 hf11
            go_upto_region 18 with fail
            clear hc11 hf11
            replace HX := HX.set1 1 rfl (by omega) (by intro k q hk hne; match k, hk with | 0, hk => (simp at hk; subst hk; simp at hne ⊢; try omega) | 1, hk => (simp at hk; subst hk; simp at hne ⊢; try omega) | 2, hk => (simp at hk; subst hk; simp at hne ⊢; try omega) | 3, hk => (simp at hk; subst hk; simp at hne ⊢; try omega) | k + 4, hk => simp at hk) 1 (.slice A9 (out.length + 1) c9)
            simp only [List.set_cons_zero, List.set_cons_succ, List.setIfInBounds_toArray] at HX
            replace HOWN2 := HOWN2.far (p := ⟨w.heap.size + 1, 1, none⟩) (by show w.heap.size + 1 < B; omega) (.slice A9 (out.length + 1) c9)
            have hB8 : B ≤ (w7.setCell ⟨w.heap.size + 1, 1, none⟩ (.slice A9 (out.length + 1) c9)).heap.size := by simpa [World.setCell] using hB7
            generalize w7.setCell ⟨w.heap.size + 1, 1, none⟩ (.slice A9 (out.length + 1) c9) = w8 at *
            go_wp2
            go_roundg (ws.length - (j + 1))
            case measure => omega
            case rel => exact ⟨j + 1, A9, c9, out ++ [(a, b)], by omega, by go_num, HR2, hol2, HOWN2, by rw [List.length_append]; exact HX, hB8⟩
          · have HNO : Hid (∀ n, Lib.atoiAll R ≠ .ok n) := Lib.hid fun n h => hr ⟨n, h⟩
            obtain ⟨rfl, rfl, rfl, rfl, rfl⟩ := hP.out.bad (word_bad HPA.out hwj.out HCUT.out (.inr HNO.out))
            clear hr hwj hx hcell HCUT HA HR HPA HY
            go_wp2_with fail
            refine (atoi_bad _ HNO hE (by omega)).mono ?_
            rintro e w5 ⟨vv, NN, rfl, hb⟩
            replace HX := HX.ext hb
            replace hE := hE.ext hb
            replace HOWN := HOWN.ext hb
            replace hBr := Nat.le_trans hBr hb.size
            clear hb
            have hc00 := HX.cell 0 0 rfl rfl
            have hc01 := HX.cell 0 1 rfl rfl
            have hc02 := HX.cell 0 2 rfl rfl
            have hc03 := HX.cell 0 3 rfl rfl
            try simp only [List.getElem_toArray, List.getElem_cons_zero, List.getElem_cons_succ] at hc00 hc01 hc02 hc03
            have hf00 := HX.free 0 0 rfl
            have hf01 := HX.free 0 1 rfl
            have hf02 := HX.free 0 2 rfl
            have hf03 := HX.free 0 3 rfl
            try simp only [] at hf00 hf01 hf02 hf03
            go_wp2
            clear hc00 hf00 hc01 hf01 hc02 hf02 hc03 hf03
            replace HX := HX.put4 0 rfl (by omega) (by intro k q hk hne; match k, hk with | 0, hk => (simp at hk; subst hk; simp at hne ⊢; try omega) | 1, hk => (simp at hk; subst hk; simp at hne ⊢; try omega) | 2, hk => (simp at hk; subst hk; simp at hne ⊢; try omega) | 3, hk => (simp at hk; subst hk; simp at hne ⊢; try omega) | k + 4, hk => simp at hk) (.int .i64 0) (.slice none 0 0) (.int .i64 0) (.int .i64 0)
            simp only [List.set_cons_zero] at HX
            have hc00 := HX.cell 0 0 rfl rfl
            have hc01 := HX.cell 0 1 rfl rfl
            have hc02 := HX.cell 0 2 rfl rfl
            have hc03 := HX.cell 0 3 rfl rfl
            try simp only [List.getElem_toArray, List.getElem_cons_zero, List.getElem_cons_succ] at hc00 hc01 hc02 hc03
            exact bodyPost_ret (v := .tuple #[.agg #[.int .i64 0, .slice none 0 0, .int .i64 0, .int .i64 0], .int .i64 3]) (by simp [results, Tryz.results27, go_sem, hc00, hc01, hc02, hc03]) rfl ⟨_, _, rfl, Es.nil _ _, HX.below⟩
        · have HNO : Hid (∀ n, Lib.atoiAll P ≠ .ok n) := Lib.hid fun n h => hp ⟨n, h⟩
          obtain ⟨rfl, rfl, rfl, rfl, rfl⟩ := hP.out.bad (word_bad HPA.out hwj.out HCUT.out (.inl HNO.out))
          clear hp hwj hx hcell HCUT HR HPA HY
          go_wp2_with fail
          refine (atoi_bad _ HNO hE (by omega)).mono ?_
          rintro e w4 ⟨vv, NN, rfl, hb⟩
          replace HX := HX.ext hb
          replace hE := hE.ext hb
          replace HOWN := HOWN.ext hb
          replace hBr := Nat.le_trans hBr hb.size
          clear hb
          by_cases hr : ∃ a, Lib.atoiAll R = .ok a
          · obtain ⟨b, hb0⟩ := hr
            have HB := Lib.hid hb0
            clear hb0
            go_wp2_with fail
            refine (atoi_ok _ HB (by omega)).mono ?_
            rintro e w5 ⟨rfl, hb⟩
            replace HX := HX.ext hb
            replace hE := hE.ext hb
            replace HOWN := HOWN.ext hb
            replace hBr := Nat.le_trans hBr hb.size
            clear hb
            have hc00 := HX.cell 0 0 rfl rfl
            have hc01 := HX.cell 0 1 rfl rfl
            have hc02 := HX.cell 0 2 rfl rfl
            have hc03 := HX.cell 0 3 rfl rfl
            try simp only [List.getElem_toArray, List.getElem_cons_zero, List.getElem_cons_succ] at hc00 hc01 hc02 hc03
            have hf00 := HX.free 0 0 rfl
            have hf01 := HX.free 0 1 rfl
            have hf02 := HX.free 0 2 rfl
            have hf03 := HX.free 0 3 rfl
            try simp only [] at hf00 hf01 hf02 hf03
            go_wp2
            clear hc00 hf00 hc01 hf01 hc02 hf02 hc03 hf03
            replace HX := HX.put4 0 rfl (by omega) (by intro k q hk hne; match k, hk with | 0, hk => (simp at hk; subst hk; simp at hne ⊢; try omega) | 1, hk => (simp at hk; subst hk; simp at hne ⊢; try omega) | 2, hk => (simp at hk; subst hk; simp at hne ⊢; try omega) | 3, hk => (simp at hk; subst hk; simp at hne ⊢; try omega) | k + 4, hk => simp at hk) (.int .i64 0) (.slice none 0 0) (.int .i64 0) (.int .i64 0)
            simp only [List.set_cons_zero] at HX
            have hc00 := HX.cell 0 0 rfl rfl
            have hc01 := HX.cell 0 1 rfl rfl
            have hc02 := HX.cell 0 2 rfl rfl
            have hc03 := HX.cell 0 3 rfl rfl
            try simp only [List.getElem_toArray, List.getElem_cons_zero, List.getElem_cons_succ] at hc00 hc01 hc02 hc03
            exact bodyPost_ret (v := .tuple #[.agg #[.int .i64 0, .slice none 0 0, .int .i64 0, .int .i64 0], .int .i64 3]) (by simp [results, Tryz.results27, go_sem, hc00, hc01, hc02, hc03]) rfl ⟨_, _, rfl, Es.nil _ _, HX.below⟩
          · have HNO2 : Hid (∀ n, Lib.atoiAll R ≠ .ok n) := Lib.hid fun n h => hr ⟨n, h⟩
            clear hr
            go_wp2_with fail
            refine (atoi_bad _ HNO2 hE (by omega)).mono ?_
            rintro e w5 ⟨vv2, NN2, rfl, hb⟩
            replace HX := HX.ext hb
            replace hE := hE.ext hb
            replace HOWN := HOWN.ext hb
            replace hBr := Nat.le_trans hBr hb.size
            clear hb
            have hc00 := HX.cell 0 0 rfl rfl
            have hc01 := HX.cell 0 1 rfl rfl
            have hc02 := HX.cell 0 2 rfl rfl
            have hc03 := HX.cell 0 3 rfl rfl
            try simp only [List.getElem_toArray, List.getElem_cons_zero, List.getElem_cons_succ] at hc00 hc01 hc02 hc03
            have hf00 := HX.free 0 0 rfl
            have hf01 := HX.free 0 1 rfl
            have hf02 := HX.free 0 2 rfl
            have hf03 := HX.free 0 3 rfl
            try simp only [] at hf00 hf01 hf02 hf03
            go_wp2
            clear hc00 hf00 hc01 hf01 hc02 hf02 hc03 hf03
            replace HX := HX.put4 0 rfl (by omega) (by intro k q hk hne; match k, hk with | 0, hk => (simp at hk; subst hk; simp at hne ⊢; try omega) | 1, hk => (simp at hk; subst hk; simp at hne ⊢; try omega) | 2, hk => (simp at hk; subst hk; simp at hne ⊢; try omega) | 3, hk => (simp at hk; subst hk; simp at hne ⊢; try omega) | k + 4, hk => simp at hk) (.int .i64 0) (.slice none 0 0) (.int .i64 0) (.int .i64 0)
            simp only [List.set_cons_zero] at HX
            have hc00 := HX.cell 0 0 rfl rfl
            have hc01 := HX.cell 0 1 rfl rfl
            have hc02 := HX.cell 0 2 rfl rfl
            have hc03 := HX.cell 0 3 rfl rfl
            try simp only [List.getElem_toArray, List.getElem_cons_zero, List.getElem_cons_succ] at hc00 hc01 hc02 hc03
            exact bodyPost_ret (v := .tuple #[.agg #[.int .i64 0, .slice none 0 0, .int .i64 0, .int .i64 0], .int .i64 3]) (by simp [results, Tryz.results27, go_sem, hc00, hc01, hc02, hc03]) rfl ⟨_, _, rfl, Es.nil _ _, HX.below⟩
      · have hje : out.length = ws.length := by have := HR.out.2; omega
        have HJE := Lib.hid hje
        clear hje
        obtain ⟨T, hT⟩ := PHT.ex nid out fy ty
        have hc10 := HX.cell 1 0 rfl rfl
        have hc11 := HX.cell 1 1 rfl rfl
        have hc12 := HX.cell 1 2 rfl rfl
        have hc13 := HX.cell 1 3 rfl rfl
        try simp only [List.getElem_toArray, List.getElem_cons_zero, List.getElem_cons_succ] at hc10 hc11 hc12 hc13
        go_wp2_with fail
        refine (httext_any A8 c8 out _ HOWN.es (by omega) hT hE.tab).mono ?_
        rintro e w5 ⟨rfl, hb⟩
        clear hc10 hc11 hc12 hc13
        replace HX := HX.ext hb
        replace HOWN := HOWN.ext hb
        clear hb hE
        have hc10 := HX.cell 1 0 rfl rfl
        have hc11 := HX.cell 1 1 rfl rfl
        have hc12 := HX.cell 1 2 rfl rfl
        have hc13 := HX.cell 1 3 rfl rfl
        try simp only [List.getElem_toArray, List.getElem_cons_zero, List.getElem_cons_succ] at hc10 hc11 hc12 hc13
        by_cases hTS : T = S
        · have hse : ((str T).toList == (str S).toList) = true := str_eq (beq_iff_eq.2 hTS)
          rcases hT with ⟨hv, hT⟩ | ⟨_, hT⟩
          · obtain ⟨rfl, rfl, rfl, rfl, rfl⟩ := hP.out.ok hv (hT.trans hTS)
            clear hv hT hTS hP HPA HY HR HJE
            have hc00 := HX.cell 0 0 rfl rfl
            have hc01 := HX.cell 0 1 rfl rfl
            have hc02 := HX.cell 0 2 rfl rfl
            have hc03 := HX.cell 0 3 rfl rfl
            try simp only [List.getElem_toArray, List.getElem_cons_zero, List.getElem_cons_succ] at hc00 hc01 hc02 hc03
            have hf00 := HX.free 0 0 rfl
            have hf01 := HX.free 0 1 rfl
            have hf02 := HX.free 0 2 rfl
            have hf03 := HX.free 0 3 rfl
            try simp only [] at hf00 hf01 hf02 hf03
            go_wp2
            clear hc00 hf00 hc01 hf01 hc02 hf02 hc03 hf03 hc10 hc11 hc12 hc13
            replace HOWN := HOWN.far (p := ⟨w.heap.size, 0, none⟩) (by show w.heap.size < B; omega) (.int .i64 id)
            replace HOWN := HOWN.far (p := ⟨w.heap.size, 1, none⟩) (by show w.heap.size < B; omega) (.slice A8 l.length c8)
            replace HOWN := HOWN.far (p := ⟨w.heap.size, 2, none⟩) (by show w.heap.size < B; omega) (.int .i64 f)
            replace HOWN := HOWN.far (p := ⟨w.heap.size, 3, none⟩) (by show w.heap.size < B; omega) (.int .i64 t)
            replace HX := HX.put4 0 rfl (by omega) (by intro k q hk hne; match k, hk with | 0, hk => (simp at hk; subst hk; simp at hne ⊢; try omega) | 1, hk => (simp at hk; subst hk; simp at hne ⊢; try omega) | 2, hk => (simp at hk; subst hk; simp at hne ⊢; try omega) | 3, hk => (simp at hk; subst hk; simp at hne ⊢; try omega) | k + 4, hk => simp at hk) (.int .i64 id) (.slice A8 l.length c8) (.int .i64 f) (.int .i64 t)
            simp only [List.set_cons_zero] at HX
            have hc00 := HX.cell 0 0 rfl rfl
            have hc01 := HX.cell 0 1 rfl rfl
            have hc02 := HX.cell 0 2 rfl rfl
            have hc03 := HX.cell 0 3 rfl rfl
            try simp only [List.getElem_toArray, List.getElem_cons_zero, List.getElem_cons_succ] at hc00 hc01 hc02 hc03
            exact bodyPost_ret (v := .tuple #[.agg #[.int .i64 id, .slice A8 l.length c8, .int .i64 f, .int .i64 t], .int .i64 0]) (by simp [results, Tryz.results27, go_sem, hc00, hc01, hc02, hc03]) rfl ⟨_, _, rfl, HOWN.es, HX.below⟩
          · exact absurd (hTS.symm.trans hT) HSN.out
        · have hse : ((str T).toList == (str S).toList) = false := str_eq (beq_eq_false_iff_ne.2 hTS)
          have hno : ¬ (HV nid out fy ty ∧ hoardText nid out fy ty = S) := fun h => by
            rcases hT with ⟨_, hT⟩ | ⟨hv, _⟩
            · exact hTS (hT.symm.trans h.2)
            · exact hv h.1
          obtain ⟨rfl, rfl, rfl, rfl, rfl⟩ := hP.out.bad (hoard_bad HPA.out HAT2.out HY.out HR.out.1 HJE.out hno)
          clear hT hTS hno hP HPA HY HR HJE
          have hc00 := HX.cell 0 0 rfl rfl
          have hc01 := HX.cell 0 1 rfl rfl
          have hc02 := HX.cell 0 2 rfl rfl
          have hc03 := HX.cell 0 3 rfl rfl
          try simp only [List.getElem_toArray, List.getElem_cons_zero, List.getElem_cons_succ] at hc00 hc01 hc02 hc03
          have hf00 := HX.free 0 0 rfl
          have hf01 := HX.free 0 1 rfl
          have hf02 := HX.free 0 2 rfl
          have hf03 := HX.free 0 3 rfl
          try simp only [] at hf00 hf01 hf02 hf03
          go_wp2
          clear hc00 hf00 hc01 hf01 hc02 hf02 hc03 hf03 hc10 hc11 hc12 hc13
          replace HX := HX.put4 0 rfl (by omega) (by intro k q hk hne; match k, hk with | 0, hk => (simp at hk; subst hk; simp at hne ⊢; try omega) | 1, hk => (simp at hk; subst hk; simp at hne ⊢; try omega) | 2, hk => (simp at hk; subst hk; simp at hne ⊢; try omega) | 3, hk => (simp at hk; subst hk; simp at hne ⊢; try omega) | k + 4, hk => simp at hk) (.int .i64 0) (.slice none 0 0) (.int .i64 0) (.int .i64 0)
          simp only [List.set_cons_zero] at HX
          have hc00 := HX.cell 0 0 rfl rfl
          have hc01 := HX.cell 0 1 rfl rfl
          have hc02 := HX.cell 0 2 rfl rfl
          have hc03 := HX.cell 0 3 rfl rfl
          try simp only [List.getElem_toArray, List.getElem_cons_zero, List.getElem_cons_succ] at hc00 hc01 hc02 hc03
          exact bodyPost_ret (v := .tuple #[.agg #[.int .i64 0, .slice none 0 0, .int .i64 0, .int .i64 0], .int .i64 3]) (by simp [results, Tryz.results27, go_sem, hc00, hc01, hc02, hc03]) rfl ⟨_, _, rfl, Es.nil _ _, HX.below⟩)
end Go.Proofs.YteleohgalknkiaaGreatDoor

namespace Go.Proofs.YteleohgalknkiaaGreatDoor
open Go.RowKit Go.Proofs Go

theorem hparse_any {S : List UInt8} {id f t E : Int} {l : List (Int × Int)} (w : World) (hE : Env w) (hl : S.length ≤ 100000) (hP : Hid (PH S id l f t E)) :
    Calls Tryz.prog 27 #[.string (str S)] w (RetM w id l f t E) := by
  obtain ⟨front, closing, b1, h1⟩ : ∃ a b c, Lib.cut S [59, 32] = (a, b, c) := ⟨_, _, _, rfl⟩
  obtain ⟨headS, coins, b2, h2⟩ : ∃ a b c, Lib.cut front [58, 32] = (a, b, c) := ⟨_, _, _, rfl⟩
  obtain ⟨hd, h3⟩ : ∃ a, Lib.trimPrefix headS (⟨#[72]⟩ : ByteArray).data.toList = a := ⟨_, rfl⟩
  obtain ⟨ws, h4⟩ : ∃ a, Lib.split coins (⟨#[32]⟩ : ByteArray).data.toList = a := ⟨_, rfl⟩
  have l1 : front.length ≤ 100000 := by have := cut_len1 S [59, 32]; rw [h1] at this; exact Nat.le_trans this hl
  have l2 : closing.length ≤ 100000 := by have := cut_len2 S [59, 32]; rw [h1] at this; exact Nat.le_trans this hl
  have l3 : headS.length ≤ 100000 := by have := cut_len1 front [58, 32]; rw [h2] at this; exact Nat.le_trans this l1
  have l4 : coins.length ≤ 100000 := by have := cut_len2 front [58, 32]; rw [h2] at this; exact Nat.le_trans this l1
  have l5 : hd.length ≤ 100000 := by rw [← h3]; exact Nat.le_trans (trimp_len _ _) l3
  have HPA : HParts S headS closing ws := ⟨front, b1, h1, coins, b2, h2, h4⟩
  obtain ⟨fy, ty, Ey, hy⟩ := PY.ex closing
  by_cases hat : ∃ n, Lib.atoiAll hd = .ok n
  · obtain ⟨n, hn⟩ := hat
    rcases hy with ⟨rfl, hv, ht⟩ | ⟨rfl, rfl, rfl, hbad⟩
    · have hS : S ≠ [] := fun hS => by
        subst hS
        rw [cut_none 59 [32] [] (by simp)] at h1
        injection h1 with e1 _
        subst e1
        rw [cut_none 58 [32] [] (by simp)] at h2
        injection h2 with e2 _
        subst e2
        have e3 : hd = [] := by rw [← h3]; rfl
        subst e3
        cases hn
      exact hparse_c w hE hl hP (Lib.hid h1) (Lib.hid h2) (Lib.hid h3) (Lib.hid h4) l1 l2 l3 l4 l5 (Lib.hid (.inl ⟨rfl, hv, ht⟩)) (Lib.hid HPA) (Lib.hid hn) rfl (Lib.hid ⟨hv, ht⟩) (Lib.hid hS)
    · exact hparse_b w hE hl hP (Lib.hid h1) (Lib.hid h2) (Lib.hid h3) (Lib.hid h4) l1 l2 l3 l4 l5 (Lib.hid (.inr ⟨rfl, rfl, rfl, hbad⟩)) (Lib.hid HPA) (Lib.hid hn) rfl hbad
  · exact hparse_a w hE hl hP (Lib.hid h1) (Lib.hid h2) (Lib.hid h3) (Lib.hid h4) l1 l2 l3 l4 l5 (Lib.hid hy) (Lib.hid HPA) (Lib.hid fun n h => hat ⟨n, h⟩)
end Go.Proofs.YteleohgalknkiaaGreatDoor
