/- The parser's part. -/
import Derived.Test.YtolkijelldlmeaaGreatDoorYPqM
namespace Go.Proofs.YtolkijelldlmeaaGreatDoor
open Go.RowKit Go.Proofs Go

theorem SLit.grown {w w' : World} {g r : Nat} {L : List Tok} (h : SLit w g L) (hg : w.grownBy w' (some r)) (hne : g ≠ r) : SLit w' g L := fun i x hx => by
  have h1 := h i x hx
  have hb := hg.block g (cell_lt h1) (fun e => hne (Option.some.inj e))
  have : w'.cell? ⟨g, i, none⟩ = w.cell? ⟨g, i, none⟩ := by simp only [World.cell?, hb]
  rw [this]; exact h1
theorem qsigns_cells2 (w : World) : Calls Tryz.prog 164 #[] w fun e w' => ∃ g : Nat, e = .returned (.slice (some ⟨g, 0, none⟩) 7 7) ∧ SLit w' g ([] :: Tm.signL) ∧ Below w.heap.size w w' ∧ w.heap.size ≤ g :=
  (qsigns_any w).mono fun _ _ h => ⟨w.heap.size, h.1, fun i x hx => by
    rw [h.2]
    refine al_at rfl _ ?_
    match i, hx with
    | 0, hx => simp [Tm.signL] at hx; subst hx; rfl
    | 1, hx => simp [Tm.signL] at hx; subst hx; rfl
    | 2, hx => simp [Tm.signL] at hx; subst hx; rfl
    | 3, hx => simp [Tm.signL] at hx; subst hx; rfl
    | 4, hx => simp [Tm.signL] at hx; subst hx; rfl
    | 5, hx => simp [Tm.signL] at hx; subst hx; rfl
    | 6, hx => simp [Tm.signL] at hx; subst hx; rfl
    | i + 7, hx => simp [Tm.signL] at hx, by rw [h.2]; exact below_alloc _ _, Nat.le_refl _⟩
set_option maxHeartbeats 16000000 in
set_option maxRecDepth 100000 in
theorem qpart_of {gp : Nat} {ws : List Tok} (hn : ws.length ≤ 2000)
    (hpart : ∀ (A : Option Addr) (c : Nat) (v : List Tok) (w : World), v.length < ws.length → PSt w gp A c v false → EnvG gp w → Calls Tryz.prog 259 #[.pointer (some ⟨gp, 0, none⟩)] w (RetQ w gp v.length (Tm.partT v)))
    (hquery : ∀ (A : Option Addr) (c : Nat) (v : List Tok) (w : World), v.length < ws.length → PSt w gp A c v false → EnvG gp w → Calls Tryz.prog 100 #[.pointer (some ⟨gp, 0, none⟩)] w (RetQ w gp v.length (Tm.listT true v)))
    (A : Option Addr) (c : Nat) (w : World) (HP : PSt w gp A c ws false) (HE : EnvG gp w) :
    Calls Tryz.prog 259 #[.pointer (some ⟨gp, 0, none⟩)] w (RetQ w gp ws.length (Tm.partT ws)) := by
  have hgp := HP.lt
  have hwl := Lib.hid HP.small
  have hRb0 : (w.alloc (.cells #[.int .i64 0, .int .i64 0, .int .i64 0, .int .i64 0, .slice none 0 0] 55)).heap[w.heap.size]? = some (.cells #[.int .i64 0, .int .i64 0, .int .i64 0, .int .i64 0, .slice none 0 0] 55) := heap_alloc_new w _
  replace HP := HP.ext (below_alloc w (.cells #[.int .i64 0, .int .i64 0, .int .i64 0, .int .i64 0, .slice none 0 0] 55))
  have hg0 : w.grownBy (w.alloc (.cells #[.int .i64 0, .int .i64 0, .int .i64 0, .int .i64 0, .slice none 0 0] 55)) (some gp) := grown_of_below (below_alloc w _) _
  obtain ⟨B, hB⟩ : ∃ B, Hid ((w.alloc (.cells #[.int .i64 0, .int .i64 0, .int .i64 0, .int .i64 0, .slice none 0 0] 55)).heap.size = B) := ⟨_, Lib.hid rfl⟩
  have hB2 : B = w.heap.size + 1 := by rw [← hB.out]; simp
  cases ws with
  | nil =>
    have htk := qtake_any _ HP (s := []) (ws' := []) (wr' := true) (Lib.hid rfl) (Lib.hid rfl) (Lib.hid rfl)
    go_enter Tryz.func259, Tryz.ntmps259
    go_upto_region 1 with fail
    generalize w.alloc (.cells #[.int .i64 0, .int .i64 0, .int .i64 0, .int .i64 0, .slice none 0 0] 55) = W0 at *
    have hW0 := hB.out
    go_wp2_with fail
    refine htk.mono ?_
    rintro e w2 ⟨A2, c2, rfl, HP2, hg02⟩
    have hRb2 := blk_grown hRb0 hg02 (by omega)
    have hg2 := grown_trans hg0 hg02
    obtain ⟨c0, c1, f0, f1⟩ := HP2.cells
    have HX := BL.bare1 _ hRb2
    have hc00 := HX.cell 0 0 rfl rfl
    have hc01 := HX.cell 0 1 rfl rfl
    have hc02 := HX.cell 0 2 rfl rfl
    have hc03 := HX.cell 0 3 rfl rfl
    have hc04 := HX.cell 0 4 rfl rfl
    try simp only [List.getElem_toArray, List.getElem_cons_zero, List.getElem_cons_succ] at hc00 hc01 hc02 hc03 hc04
    have hf00 := HX.free 0 0 rfl
    have hf01 := HX.free 0 1 rfl
    have hf02 := HX.free 0 2 rfl
    have hf03 := HX.free 0 3 rfl
    have hf04 := HX.free 0 4 rfl
    try simp only [] at hf00 hf01 hf02 hf03 hf04
    go_wp2
    clear hc00 hc01 hc02 hc03 hc04
    clear hf00 hf01 hf02 hf03 hf04
    have HG := grown_set5 (w2) w.heap.size (.int .i64 0) (.int .i64 0) (.int .i64 0) (.int .i64 0) (.slice none 0 0)
    replace HX := HX.put5 0 rfl (Nat.zero_le _) (by intro k q hk hne; match k, hk with | 0, hk => (simp at hk; subst hk; simp at hne ⊢; try omega) | k + 1, hk => simp at hk) (.int .i64 0) (.int .i64 0) (.int .i64 0) (.int .i64 0) (.slice none 0 0)
    simp only [List.set_cons_zero] at HX
    have hz2 := (TT.Mem.leaf (w := w2) (k := 0) (f := 0) (o := 0) (v := 0) (A := none) (c := 0)).grown HG ((TT.Bl.leaf (p := (B ≤ ·)) (k := 0) (f := 0) (o := 0) (v := 0) (A := none) (c := 0)).mono fun n hn => by show n ≠ w.heap.size; omega)
    have hzL : (TT.mk 0 0 0 0 none 0 []).Bl (w.heap.size ≤ ·) := (TT.Bl.leaf (p := (B ≤ ·)) (k := 0) (f := 0) (o := 0) (v := 0) (A := none) (c := 0)).mono fun n hn => by show w.heap.size ≤ n; omega
    have hPz := (HP2).grownTo HG (by omega)
    have hgz := grown_low (hg2) HG (Nat.le_refl _)
    generalize ((((w2.setCell ⟨w.heap.size, 0, none⟩ (.int .i64 0)).setCell ⟨w.heap.size, 1, none⟩ (.int .i64 0)).setCell ⟨w.heap.size, 2, none⟩ (.int .i64 0)).setCell ⟨w.heap.size, 3, none⟩ (.int .i64 0)).setCell ⟨w.heap.size, 4, none⟩ (.slice none 0 0) = Wz at *
    have hc00 := HX.cell 0 0 rfl rfl
    have hc01 := HX.cell 0 1 rfl rfl
    have hc02 := HX.cell 0 2 rfl rfl
    have hc03 := HX.cell 0 3 rfl rfl
    have hc04 := HX.cell 0 4 rfl rfl
    try simp only [List.getElem_toArray, List.getElem_cons_zero, List.getElem_cons_succ] at hc00 hc01 hc02 hc03 hc04
    have hsize := Lib.hid (show (TT.mk 0 0 0 0 none 0 []).tm.size + 2 * ([] : List Tok).length ≤ 2 * ([] : List Tok).length + 1 by
      rw [TT.tm_mk, List.map_nil, Tm.size, Tm.sizeL]; simp)
    have hrel2 := Lib.hid (show (true = true ∧ Tm.partT ([] : List Tok) = none) ∨ (true = false ∧ Tm.partT ([] : List Tok) = some ((TT.mk 0 0 0 0 none 0 []).tm, ([] : List Tok))) by
      exact .inl ⟨rfl, Tm.partT_nil⟩)
    exact bodyPost_ret (v := .agg #[.int .i64 0, .int .i64 0, .int .i64 0, .int .i64 0, .slice none 0 0]) (by simp [results, Tryz.results259, go_sem, hc00, hc01, hc02, hc03, hc04]) rfl (show RetQ _ _ _ _ _ _ from ⟨(TT.mk 0 0 0 0 none 0 []), A2, c2, ([] : List Tok), true, rfl, hz2, hzL, hPz, hgz, hsize, hrel2⟩)
  | cons a l =>
    have htk := qtake_any _ HP (s := a) (ws' := l) (wr' := false) (Lib.hid rfl) (Lib.hid rfl) (Lib.hid rfl)
    have hlw := Lib.hid (show ∀ x ∈ l, x.length ≤ 1000000000 from fun x hx => hwl.out x (List.mem_cons_of_mem _ hx))
    replace hpart := fun A c w => hpart A c l w (by rw [List.length_cons]; omega)
    replace hquery := fun A c w => hquery A c l w (by rw [List.length_cons]; omega)
    have hcl0 : ∀ {l2 : List Tok} (c : Tok), Hid (l2.headD [] = c) → Hid (l.tail = l2) → c.length ≤ 1000000000 := fun {l2} c h1 h2 => by
      rw [← h1.out]
      cases hl2 : l2 with
      | nil => simp
      | cons x r => exact hlw.out x (by
          have : x ∈ l.tail := by rw [h2.out, hl2]; simp
          exact List.mem_of_mem_tail this)
    go_enter Tryz.func259, Tryz.ntmps259
    go_upto_region 1 with fail
    generalize w.alloc (.cells #[.int .i64 0, .int .i64 0, .int .i64 0, .int .i64 0, .slice none 0 0] 55) = W0 at *
    have hW0 := hB.out
    go_wp2_with fail
    refine htk.mono ?_
    rintro e w2 ⟨A2, c2, rfl, HP2, hg02⟩
    have hRb2 := blk_grown hRb0 hg02 (by omega)
    have hgs2 := hg02.size
    have hg2 := grown_trans hg0 hg02
    clear hg0 hg02 hRb0 HP htk
    obtain ⟨c0, c1, f0, f1⟩ := HP2.cells
    by_cases hna : a = Tm.wNot
    · have hse1 : ((str a).toList == [110, 111, 116]) = true := by rw [str_toList, hna]; rfl
      subst hna
      go_wp2_with fail
      refine (hpart A2 c2 w2 HP2 (HE.grown hg2)).mono ?_
      rintro e w3 ⟨y, A3, c3, r, wr3, he, hym, hyb, HP3, hg3, hys, hyr⟩
      obtain ⟨ky, fy, oy, vy, Ay, cy, ys⟩ := y
      change e = .returned (.agg #[.int .i64 ky, .int .i64 fy, .int .i64 oy, .int .i64 vy, .slice Ay ys.length cy]) at he
      subst he
      clear c0 c1
      have hba := below_alloc w3 (.cells #[.int .i64 ky, .int .i64 fy, .int .i64 oy, .int .i64 vy, .slice Ay ys.length cy] 55)
      have hRb3 := blk_below (blk_grown hRb2 hg3 (by omega)) hba
      have HP4 := HP3.ext hba
      have hg4 := grown_below (grown_trans hg2 hg3) hba
      have hs3 : B ≤ w3.heap.size := by have h1 := hg2.size; have h2 := hg3.size; omega
      have hT := TT.TR.lit w3 (B := B) hs3 55 (TT.mk ky fy oy vy Ay cy ys) hym #[.int .i64 ky, .int .i64 fy, .int .i64 oy, .int .i64 vy, .slice Ay ys.length cy] rfl
      have htm : (TT.mk 4 0 0 0 (some ⟨w3.heap.size, 0, none⟩) 1 [(TT.mk ky fy oy vy Ay cy ys)]).Mem (w3.alloc (.cells #[.int .i64 ky, .int .i64 fy, .int .i64 oy, .int .i64 vy, .slice Ay ys.length cy] 55)) := TT.Mem_iff.2 ⟨hT.reads, by show ([(TT.mk ky fy oy vy Ay cy ys)] : List TT).length ≤ _; simp, hT.mem⟩
      have htb : (TT.mk 4 0 0 0 (some ⟨w3.heap.size, 0, none⟩) 1 [(TT.mk ky fy oy vy Ay cy ys)]).Bl (B ≤ ·) := TT.Bl_iff.2 ⟨fun _ ad e => by obtain rfl := Option.some.inj e; exact hs3, fun x hx => by
        rw [List.mem_singleton.1 hx]
        exact hyb.mono fun n hn => by have h1 := hg2.size; show B ≤ n; omega⟩
      have HX := BL.bare1 _ hRb3
      have hc00 := HX.cell 0 0 rfl rfl
      have hc01 := HX.cell 0 1 rfl rfl
      have hc02 := HX.cell 0 2 rfl rfl
      have hc03 := HX.cell 0 3 rfl rfl
      have hc04 := HX.cell 0 4 rfl rfl
      try simp only [List.getElem_toArray, List.getElem_cons_zero, List.getElem_cons_succ] at hc00 hc01 hc02 hc03 hc04
      have hf00 := HX.free 0 0 rfl
      have hf01 := HX.free 0 1 rfl
      have hf02 := HX.free 0 2 rfl
      have hf03 := HX.free 0 3 rfl
      have hf04 := HX.free 0 4 rfl
      try simp only [] at hf00 hf01 hf02 hf03 hf04
      go_wp2
      clear hc00 hc01 hc02 hc03 hc04
      clear hf00 hf01 hf02 hf03 hf04
      have HG := grown_set5 (w3.alloc (.cells #[.int .i64 ky, .int .i64 fy, .int .i64 oy, .int .i64 vy, .slice Ay ys.length cy] 55)) w.heap.size (.int .i64 4) (.int .i64 0) (.int .i64 0) (.int .i64 0) (.slice (some ⟨w3.heap.size, 0, none⟩) 1 1)
      replace HX := HX.put5 0 rfl (Nat.zero_le _) (by intro k q hk hne; match k, hk with | 0, hk => (simp at hk; subst hk; simp at hne ⊢; try omega) | k + 1, hk => simp at hk) (.int .i64 4) (.int .i64 0) (.int .i64 0) (.int .i64 0) (.slice (some ⟨w3.heap.size, 0, none⟩) 1 1)
      simp only [List.set_cons_zero] at HX
      have hz2 := (htm).grown HG ((htb).mono fun n hn => by show n ≠ w.heap.size; omega)
      have hzL : (TT.mk 4 0 0 0 (some ⟨w3.heap.size, 0, none⟩) 1 [(TT.mk ky fy oy vy Ay cy ys)]).Bl (w.heap.size ≤ ·) := (htb).mono fun n hn => by show w.heap.size ≤ n; omega
      have hPz := (HP4).grownTo HG (by omega)
      have hgz := grown_low (hg4) HG (Nat.le_refl _)
      generalize (((((w3.alloc (.cells #[.int .i64 ky, .int .i64 fy, .int .i64 oy, .int .i64 vy, .slice Ay ys.length cy] 55)).setCell ⟨w.heap.size, 0, none⟩ (.int .i64 4)).setCell ⟨w.heap.size, 1, none⟩ (.int .i64 0)).setCell ⟨w.heap.size, 2, none⟩ (.int .i64 0)).setCell ⟨w.heap.size, 3, none⟩ (.int .i64 0)).setCell ⟨w.heap.size, 4, none⟩ (.slice (some ⟨w3.heap.size, 0, none⟩) 1 1) = Wz at *
      have hc00 := HX.cell 0 0 rfl rfl
      have hc01 := HX.cell 0 1 rfl rfl
      have hc02 := HX.cell 0 2 rfl rfl
      have hc03 := HX.cell 0 3 rfl rfl
      have hc04 := HX.cell 0 4 rfl rfl
      try simp only [List.getElem_toArray, List.getElem_cons_zero, List.getElem_cons_succ] at hc00 hc01 hc02 hc03 hc04
      have hsize := Lib.hid (show (TT.mk 4 0 0 0 (some ⟨w3.heap.size, 0, none⟩) 1 [(TT.mk ky fy oy vy Ay cy ys)]).tm.size + 2 * r.length ≤ 2 * (Tm.wNot :: l).length + 1 by
        have h := hys.out; rw [TT.tm_mk, List.map_cons, List.map_nil, Tm.size, Tm.sizeL, Tm.sizeL]; simp only [List.length_cons]; omega)
      have hrel2 := Lib.hid (show (wr3 = true ∧ Tm.partT (Tm.wNot :: l) = none) ∨ (wr3 = false ∧ Tm.partT (Tm.wNot :: l) = some ((TT.mk 4 0 0 0 (some ⟨w3.heap.size, 0, none⟩) 1 [(TT.mk ky fy oy vy Ay cy ys)]).tm, r)) by
        rcases hyr.out with ⟨h1, h2⟩ | ⟨h1, h2⟩
        · exact .inl ⟨h1, by rw [Tm.partT_cons, if_pos rfl, h2]; rfl⟩
        · exact .inr ⟨h1, by rw [Tm.partT_cons, if_pos rfl, h2]; rfl⟩)
      exact bodyPost_ret (v := .agg #[.int .i64 4, .int .i64 0, .int .i64 0, .int .i64 0, .slice (some ⟨w3.heap.size, 0, none⟩) 1 1]) (by simp [results, Tryz.results259, go_sem, hc00, hc01, hc02, hc03, hc04]) rfl (show RetQ _ _ _ _ _ _ from ⟨(TT.mk 4 0 0 0 (some ⟨w3.heap.size, 0, none⟩) 1 [(TT.mk ky fy oy vy Ay cy ys)]), A3, c3, r, wr3, rfl, hz2, hzL, hPz, hgz, hsize, hrel2⟩)
    · have hse1 : ((str a).toList == [110, 111, 116]) = false := by rw [str_toList]; exact beq_eq_false_iff_ne.2 hna
      replace hna := Lib.hid hna
      by_cases hla : a = Tm.wL
      · subst hla
        have hse2 : ((str Tm.wL).toList == [40]) = true := by rw [str_toList]; rfl
        go_wp2_with fail
        refine (hquery A2 c2 w2 HP2 (HE.grown hg2)).mono ?_
        rintro e w3 ⟨y, A3, c3, r, wr3, he, hym, hyb, HP3, hg3, hys, hyr⟩
        obtain ⟨ky, fy, oy, vy, Ay, cy, ys⟩ := y
        change e = .returned (.agg #[.int .i64 ky, .int .i64 fy, .int .i64 oy, .int .i64 vy, .slice Ay ys.length cy]) at he
        subst he
        clear c0 c1
        go_upto_region 14 with fail
        have hba := below_alloc w3 (.cells #[.int .i64 ky, .int .i64 fy, .int .i64 oy, .int .i64 vy, .slice Ay ys.length cy] 55)
        have hT4 : (w3.alloc (.cells #[.int .i64 ky, .int .i64 fy, .int .i64 oy, .int .i64 vy, .slice Ay ys.length cy] 55)).heap[w3.heap.size]? = some (.cells #[.int .i64 ky, .int .i64 fy, .int .i64 oy, .int .i64 vy, .slice Ay ys.length cy] 55) := heap_alloc_new w3 _
        have hRb3 := blk_below (blk_grown hRb2 hg3 (by omega)) hba
        have HP4 := HP3.ext hba
        have hg4 := grown_below (grown_trans hg2 hg3) hba
        have hs3 : B ≤ w3.heap.size := by have h1 := hg2.size; have h2 := hg3.size; omega
        replace hym := hym.ext hba
        have hyB : (TT.mk ky fy oy vy Ay cy ys).Bl (B ≤ ·) := hyb.mono fun n hn => by have h1 := hg2.size; show B ≤ n; omega
        clear hba hyb
        generalize w3.alloc (.cells #[.int .i64 ky, .int .i64 fy, .int .i64 oy, .int .i64 vy, .slice Ay ys.length cy] 55) = W4 at *
        generalize hg4e : w3.heap.size = g4 at *
        clear hg4e
        obtain ⟨s6, hs6⟩ : ∃ s, Hid (r.headD [] = s) := ⟨_, Lib.hid rfl⟩
        obtain ⟨l6, hr6⟩ : ∃ s, Hid (r.tail = s) := ⟨_, Lib.hid rfl⟩
        obtain ⟨wr6, hw6⟩ : ∃ s, Hid ((wr3 || r.isEmpty) = s) := ⟨_, Lib.hid rfl⟩
        have hl6 := Lib.hid (show l6.length ≤ r.length by rw [← hr6.out, List.length_tail]; omega)
        go_wp2_with fail
        refine (qtake_any W4 HP4 hs6 hr6 hw6).mono ?_
        rintro e w6 ⟨A6, c6, rfl, HP6, hg46⟩
        have hRb6 := blk_grown hRb3 hg46 (by omega)
        have hT6 := blk_grown hT4 hg46 (by omega)
        have hg6 := grown_trans hg4 hg46
        have hym6 := hym.grown hg46 (hyB.mono fun n hn => by show n ≠ gp; omega)
        by_cases hsR : s6 = Tm.wR
        · have hse3 : ((str s6).toList == [41]) = true := by rw [str_toList, hsR]; rfl
          have hse4 : ((str s6).toList != [41]) = false := by rw [bne, hse3]; rfl
          replace hsR := Lib.hid hsR
          have HX := BL.bare1 _ hRb6
          have hc00 := HX.cell 0 0 rfl rfl
          have hc01 := HX.cell 0 1 rfl rfl
          have hc02 := HX.cell 0 2 rfl rfl
          have hc03 := HX.cell 0 3 rfl rfl
          have hc04 := HX.cell 0 4 rfl rfl
          try simp only [List.getElem_toArray, List.getElem_cons_zero, List.getElem_cons_succ] at hc00 hc01 hc02 hc03 hc04
          have hf00 := HX.free 0 0 rfl
          have hf01 := HX.free 0 1 rfl
          have hf02 := HX.free 0 2 rfl
          have hf03 := HX.free 0 3 rfl
          have hf04 := HX.free 0 4 rfl
          try simp only [] at hf00 hf01 hf02 hf03 hf04
          have hk4 := cell_of hT6 4
          have hk3 := cell_of hT6 3
          have hk2 := cell_of hT6 2
          have hk1 := cell_of hT6 1
          have hk0 := cell_of hT6 0
          simp only [List.getElem?_toArray, List.getElem?_cons_zero, List.getElem?_cons_succ] at hk0 hk1 hk2 hk3 hk4
          go_wp2
          clear hc00 hc01 hc02 hc03 hc04
          clear hf00 hf01 hf02 hf03 hf04
          have HG := grown_set5 (w6) w.heap.size (.int .i64 ky) (.int .i64 fy) (.int .i64 oy) (.int .i64 vy) (.slice Ay ys.length cy)
          replace HX := HX.put5 0 rfl (Nat.zero_le _) (by intro k q hk hne; match k, hk with | 0, hk => (simp at hk; subst hk; simp at hne ⊢; try omega) | k + 1, hk => simp at hk) (.int .i64 ky) (.int .i64 fy) (.int .i64 oy) (.int .i64 vy) (.slice Ay ys.length cy)
          simp only [List.set_cons_zero] at HX
          have hz2 := (hym6).grown HG ((hyB).mono fun n hn => by show n ≠ w.heap.size; omega)
          have hzL : (TT.mk ky fy oy vy Ay cy ys).Bl (w.heap.size ≤ ·) := (hyB).mono fun n hn => by show w.heap.size ≤ n; omega
          have hPz := (HP6).grownTo HG (by omega)
          have hgz := grown_low (hg6) HG (Nat.le_refl _)
          generalize ((((w6.setCell ⟨w.heap.size, 0, none⟩ (.int .i64 ky)).setCell ⟨w.heap.size, 1, none⟩ (.int .i64 fy)).setCell ⟨w.heap.size, 2, none⟩ (.int .i64 oy)).setCell ⟨w.heap.size, 3, none⟩ (.int .i64 vy)).setCell ⟨w.heap.size, 4, none⟩ (.slice Ay ys.length cy) = Wz at *
          have hc00 := HX.cell 0 0 rfl rfl
          have hc01 := HX.cell 0 1 rfl rfl
          have hc02 := HX.cell 0 2 rfl rfl
          have hc03 := HX.cell 0 3 rfl rfl
          have hc04 := HX.cell 0 4 rfl rfl
          try simp only [List.getElem_toArray, List.getElem_cons_zero, List.getElem_cons_succ] at hc00 hc01 hc02 hc03 hc04
          have hsize := Lib.hid (show (TT.mk ky fy oy vy Ay cy ys).tm.size + 2 * l6.length ≤ 2 * (Tm.wL :: l).length + 1 by
            have h := hys.out; have h2 := hl6.out; simp only [List.length_cons]; omega)
          have hrel2 := Lib.hid (show (wr6 = true ∧ Tm.partT (Tm.wL :: l) = none) ∨ (wr6 = false ∧ Tm.partT (Tm.wL :: l) = some ((TT.mk ky fy oy vy Ay cy ys).tm, l6)) by
            rw [Tm.partT_cons, if_neg (by decide), if_pos rfl]
            rcases hyr.out with ⟨h1, h2⟩ | ⟨h1, h2⟩
            · exact .inl ⟨by rw [← hw6.out, h1]; rfl, by rw [h2]; rfl⟩
            · cases r with
              | nil => exact absurd hs6.out (by rw [hsR.out]; decide)
              | cons b r' =>
                have hb : b = Tm.wR := hs6.out.trans hsR.out
                subst hb
                refine .inr ⟨by rw [← hw6.out, h1]; rfl, ?_⟩
                rw [h2, Tm.closeF, if_pos rfl]
                rw [show r' = l6 from hr6.out])
          exact bodyPost_ret (v := .agg #[.int .i64 ky, .int .i64 fy, .int .i64 oy, .int .i64 vy, .slice Ay ys.length cy]) (by simp [results, Tryz.results259, go_sem, hc00, hc01, hc02, hc03, hc04]) rfl (show RetQ _ _ _ _ _ _ from ⟨(TT.mk ky fy oy vy Ay cy ys), A6, c6, l6, wr6, rfl, hz2, hzL, hPz, hgz, hsize, hrel2⟩)
        · have hse3 : ((str s6).toList == [41]) = false := by rw [str_toList]; exact beq_eq_false_iff_ne.2 hsR
          have hse4 : ((str s6).toList != [41]) = true := by rw [bne, hse3]; rfl
          obtain ⟨cc0, cc1, ff0, ff1⟩ := HP6.cells
          have hgb := grown_set (grown_refl w6 (some gp)) 1 (.bool true)
          have hRb7 := blk_grown hRb6 hgb (by omega)
          have hT7 := blk_grown hT6 hgb (by omega)
          have hym7 := hym6.grown hgb (hyB.mono fun n hn => by show n ≠ gp; omega)
          have HX := BL.bare1 _ hRb7
          have hc00 := HX.cell 0 0 rfl rfl
          have hc01 := HX.cell 0 1 rfl rfl
          have hc02 := HX.cell 0 2 rfl rfl
          have hc03 := HX.cell 0 3 rfl rfl
          have hc04 := HX.cell 0 4 rfl rfl
          try simp only [List.getElem_toArray, List.getElem_cons_zero, List.getElem_cons_succ] at hc00 hc01 hc02 hc03 hc04
          have hf00 := HX.free 0 0 rfl
          have hf01 := HX.free 0 1 rfl
          have hf02 := HX.free 0 2 rfl
          have hf03 := HX.free 0 3 rfl
          have hf04 := HX.free 0 4 rfl
          try simp only [] at hf00 hf01 hf02 hf03 hf04
          have hk4 := cell_of hT7 4
          have hk3 := cell_of hT7 3
          have hk2 := cell_of hT7 2
          have hk1 := cell_of hT7 1
          have hk0 := cell_of hT7 0
          simp only [List.getElem?_toArray, List.getElem?_cons_zero, List.getElem?_cons_succ] at hk0 hk1 hk2 hk3 hk4
          go_wp2
          clear hc00 hc01 hc02 hc03 hc04
          clear hf00 hf01 hf02 hf03 hf04
          have HG := grown_set5 (w6.setCell ⟨gp, 1, none⟩ (.bool true)) w.heap.size (.int .i64 ky) (.int .i64 fy) (.int .i64 oy) (.int .i64 vy) (.slice Ay ys.length cy)
          replace HX := HX.put5 0 rfl (Nat.zero_le _) (by intro k q hk hne; match k, hk with | 0, hk => (simp at hk; subst hk; simp at hne ⊢; try omega) | k + 1, hk => simp at hk) (.int .i64 ky) (.int .i64 fy) (.int .i64 oy) (.int .i64 vy) (.slice Ay ys.length cy)
          simp only [List.set_cons_zero] at HX
          have hz2 := (hym7).grown HG ((hyB).mono fun n hn => by show n ≠ w.heap.size; omega)
          have hzL : (TT.mk ky fy oy vy Ay cy ys).Bl (w.heap.size ≤ ·) := (hyB).mono fun n hn => by show w.heap.size ≤ n; omega
          have hPz := (HP6.bad).grownTo HG (by omega)
          have hgz := grown_low (grown_set hg6 1 _) HG (Nat.le_refl _)
          generalize (((((w6.setCell ⟨gp, 1, none⟩ (.bool true)).setCell ⟨w.heap.size, 0, none⟩ (.int .i64 ky)).setCell ⟨w.heap.size, 1, none⟩ (.int .i64 fy)).setCell ⟨w.heap.size, 2, none⟩ (.int .i64 oy)).setCell ⟨w.heap.size, 3, none⟩ (.int .i64 vy)).setCell ⟨w.heap.size, 4, none⟩ (.slice Ay ys.length cy) = Wz at *
          have hc00 := HX.cell 0 0 rfl rfl
          have hc01 := HX.cell 0 1 rfl rfl
          have hc02 := HX.cell 0 2 rfl rfl
          have hc03 := HX.cell 0 3 rfl rfl
          have hc04 := HX.cell 0 4 rfl rfl
          try simp only [List.getElem_toArray, List.getElem_cons_zero, List.getElem_cons_succ] at hc00 hc01 hc02 hc03 hc04
          have hsize := Lib.hid (show (TT.mk ky fy oy vy Ay cy ys).tm.size + 2 * l6.length ≤ 2 * (Tm.wL :: l).length + 1 by
            have h := hys.out; have h2 := hl6.out; simp only [List.length_cons]; omega)
          have hrel2 := Lib.hid (show (true = true ∧ Tm.partT (Tm.wL :: l) = none) ∨ (true = false ∧ Tm.partT (Tm.wL :: l) = some ((TT.mk ky fy oy vy Ay cy ys).tm, l6)) by
            rw [Tm.partT_cons, if_neg (by decide), if_pos rfl]
            refine .inl ⟨rfl, ?_⟩
            rcases hyr.out with ⟨h1, h2⟩ | ⟨h1, h2⟩
            · rw [h2]; rfl
            · rw [h2]
              cases r with
              | nil => rfl
              | cons b r' => rw [Tm.closeF, if_neg (by rw [show b = s6 from hs6.out]; exact hsR)])
          exact bodyPost_ret (v := .agg #[.int .i64 ky, .int .i64 fy, .int .i64 oy, .int .i64 vy, .slice Ay ys.length cy]) (by simp [results, Tryz.results259, go_sem, hc00, hc01, hc02, hc03, hc04]) rfl (show RetQ _ _ _ _ _ _ from ⟨(TT.mk ky fy oy vy Ay cy ys), A6, c6, l6, true, rfl, hz2, hzL, hPz, hgz, hsize, hrel2⟩)
      · replace hla := Lib.hid hla
        have hse2 : ((str a).toList == [40]) = false := by rw [str_toList]; exact beq_eq_false_iff_ne.2 hla.out
        obtain ⟨n1, hn1⟩ : ∃ n, Hid (Tm.idxE Tm.fieldL a = n) := ⟨_, Lib.hid rfl⟩
        obtain ⟨b, hb⟩ : ∃ s, Hid (l.headD [] = s) := ⟨_, Lib.hid rfl⟩
        obtain ⟨n2, hn2⟩ : ∃ n, Hid (Tm.idxE Tm.signL b = n) := ⟨_, Lib.hid rfl⟩
        obtain ⟨l2, hl2⟩ : ∃ s, Hid (l.tail = s) := ⟨_, Lib.hid rfl⟩
        obtain ⟨q2, hq2⟩ : ∃ s, Hid ((false || l.isEmpty) = s) := ⟨_, Lib.hid rfl⟩
        obtain ⟨c, hc⟩ : ∃ s, Hid (l2.headD [] = s) := ⟨_, Lib.hid rfl⟩
        obtain ⟨l3, hl3⟩ : ∃ s, Hid (l2.tail = s) := ⟨_, Lib.hid rfl⟩
        obtain ⟨q3, hq3⟩ : ∃ s, Hid ((q2 || l2.isEmpty) = s) := ⟨_, Lib.hid rfl⟩
        have hl3l := Lib.hid (show l3.length ≤ l.length by rw [← hl3.out, ← hl2.out, List.length_tail, List.length_tail]; omega)
        go_wp2_with fail
        refine (qfields_cells w2).mono ?_
        rintro e w3 ⟨ga, rfl, HFa, hb3⟩
        clear c0 c1
        have HP3 := HP2.ext hb3
        have hRb3 := blk_below hRb2 hb3
        have hg3 := grown_below hg2 hb3
        go_wp2_with fail
        refine (index_any (L := Tm.fieldL) w3 HFa (by decide) hn1).mono ?_
        rintro e w4 ⟨rfl, hb4⟩
        have HP4 := HP3.ext hb4
        have hRb4 := blk_below hRb3 hb4
        have hg4 := grown_below hg3 hb4
        go_wp2_with fail
        refine (qsigns_cells2 w4).mono ?_
        rintro e w5 ⟨gb, rfl, HFb, hb5, hgb4⟩
        have HP5 := HP4.ext hb5
        have hRb5 := blk_below hRb4 hb5
        have hg5 := grown_below hg4 hb5
        have hs5 : B ≤ w4.heap.size := by have h1 := hg2.size; have h2 := hb3.size; have h3 := hb4.size; omega
        have hgbn : gp < w4.heap.size := by omega
        have hgbn2 : gb ≠ gp := by omega
        go_wp2_with fail
        refine (qtake_any w5 HP5 hb hl2 hq2).mono ?_
        rintro e w6 ⟨A6, c6, rfl, HP6, hg56⟩
        have hRb6 := blk_grown hRb5 hg56 (by omega)
        have hg6 := grown_trans hg5 hg56
        have HFb6 : SLit w6 gb ([] :: Tm.signL) := HFb.grown hg56 hgbn2
        go_wp2_with fail
        refine (index_any (L := Tm.signL) w6 HFb6 (by decide) hn2).mono ?_
        rintro e w7 ⟨rfl, hb7⟩
        have HP7 := HP6.ext hb7
        have hRb7 := blk_below hRb6 hb7
        have hg7 := grown_below hg6 hb7
        go_wp2_with fail
        refine (qtake_any w7 HP7 hc hl3 hq3).mono ?_
        rintro e w8 ⟨A7, c7, rfl, HP8, hg78⟩
        have hRb8 := blk_grown hRb7 hg78 (by omega)
        have hg8 := grown_trans hg7 hg78
        have hcl : c.length ≤ 1000000000 := hcl0 c hc hl2
        clear HFa HFb HFb6 HP3 HP4 HP5 HP6 HP7 hRb3 hRb4 hRb5 hRb6 hRb7 hg3 hg4 hg5 hg6 hg7 hg56 hg78 hb3 hb4 hb5 hb7
        by_cases hA : ∃ n, Lib.atoiAll c = .ok n
        · obtain ⟨n, hat⟩ := hA
          have hat := Lib.hid hat
          have hnot := Lib.hid (show ¬ (0 ≤ n ∧ n ≤ 999999) → Tm.numF c < 0 from fun h => by
            by_cases h6 : 0 ≤ Tm.numF c
            · obtain ⟨k1, k2, _⟩ := Tm.numF_ge h6
              rw [hat.out] at k1
              injection k1 with k1
              omega
            · omega)
          go_wp2_with fail
          refine (atoi_ok w8 hat hcl).mono ?_
          rintro e w9 ⟨rfl, hb9⟩
          have hRb9 := blk_below hRb8 hb9
          have HP9 := HP8.ext hb9
          have hg9 := grown_below hg8 hb9
          clear hRb8 HP8 hg8 hb9
          by_cases h1 : n1 < 1
          · have d1 : decide (n1 < 1) = true := decide_eq_true h1
            have hbad := Lib.hid (show Tm.place Tm.fieldL a = 0 ∨ Tm.place Tm.signL b = 0 ∨ Tm.numF c < 0 from .inl ((Tm.idxE_place (by decide)).1.1 (by rw [hn1.out]; exact h1)))
            have HX := BL.bare1 _ (blk_grown hRb9 (grown_set (grown_refl w9 (some gp)) 1 (.bool true)) (by omega))
            have hc00 := HX.cell 0 0 rfl rfl
            have hc01 := HX.cell 0 1 rfl rfl
            have hc02 := HX.cell 0 2 rfl rfl
            have hc03 := HX.cell 0 3 rfl rfl
            have hc04 := HX.cell 0 4 rfl rfl
            try simp only [List.getElem_toArray, List.getElem_cons_zero, List.getElem_cons_succ] at hc00 hc01 hc02 hc03 hc04
            have hf00 := HX.free 0 0 rfl
            have hf01 := HX.free 0 1 rfl
            have hf02 := HX.free 0 2 rfl
            have hf03 := HX.free 0 3 rfl
            have hf04 := HX.free 0 4 rfl
            try simp only [] at hf00 hf01 hf02 hf03 hf04
            obtain ⟨cc0, cc1, ff0, ff1⟩ := HP9.cells
            go_wp2
            clear hc00 hc01 hc02 hc03 hc04
            clear hf00 hf01 hf02 hf03 hf04
            have HG := grown_set5 (w9.setCell ⟨gp, 1, none⟩ (.bool true)) w.heap.size (.int .i64 1) (.int .i64 n1) (.int .i64 n2) (.int .i64 n) (.slice none 0 0)
            replace HX := HX.put5 0 rfl (Nat.zero_le _) (by intro k q hk hne; match k, hk with | 0, hk => (simp at hk; subst hk; simp at hne ⊢; try omega) | k + 1, hk => simp at hk) (.int .i64 1) (.int .i64 n1) (.int .i64 n2) (.int .i64 n) (.slice none 0 0)
            simp only [List.set_cons_zero] at HX
            have hz2 := (TT.Mem.leaf (w := w9.setCell ⟨gp, 1, none⟩ (.bool true)) (k := 1) (f := n1) (o := n2) (v := n) (A := none) (c := 0)).grown HG ((TT.Bl.leaf (p := (B ≤ ·)) (k := 1) (f := n1) (o := n2) (v := n) (A := none) (c := 0)).mono fun n hn => by show n ≠ w.heap.size; omega)
            have hzL : (TT.mk 1 n1 n2 n none 0 []).Bl (w.heap.size ≤ ·) := (TT.Bl.leaf (p := (B ≤ ·)) (k := 1) (f := n1) (o := n2) (v := n) (A := none) (c := 0)).mono fun n hn => by show w.heap.size ≤ n; omega
            have hPz := (HP9.bad).grownTo HG (by omega)
            have hgz := grown_low (grown_set hg9 1 (.bool true)) HG (Nat.le_refl _)
            generalize (((((w9.setCell ⟨gp, 1, none⟩ (.bool true)).setCell ⟨w.heap.size, 0, none⟩ (.int .i64 1)).setCell ⟨w.heap.size, 1, none⟩ (.int .i64 n1)).setCell ⟨w.heap.size, 2, none⟩ (.int .i64 n2)).setCell ⟨w.heap.size, 3, none⟩ (.int .i64 n)).setCell ⟨w.heap.size, 4, none⟩ (.slice none 0 0) = Wz at *
            have hc00 := HX.cell 0 0 rfl rfl
            have hc01 := HX.cell 0 1 rfl rfl
            have hc02 := HX.cell 0 2 rfl rfl
            have hc03 := HX.cell 0 3 rfl rfl
            have hc04 := HX.cell 0 4 rfl rfl
            try simp only [List.getElem_toArray, List.getElem_cons_zero, List.getElem_cons_succ] at hc00 hc01 hc02 hc03 hc04
            have hsize := Lib.hid (show (TT.mk 1 n1 n2 n none 0 []).tm.size + 2 * l3.length ≤ 2 * (a :: l).length + 1 by
              rw [TT.tm_mk, List.map_nil, Tm.size, Tm.sizeL]; have := hl3l.out; simp only [List.length_cons]; omega)
            have hrel2 := Lib.hid (show (true = true ∧ Tm.partT (a :: l) = none) ∨ (true = false ∧ Tm.partT (a :: l) = some ((TT.mk 1 n1 n2 n none 0 []).tm, l3)) by
              refine .inl ⟨rfl, ?_⟩
              rw [Tm.partT_cons, if_neg hna.out, if_neg hla.out, Tm.cmpF_heads, hb.out, hl2.out, hc.out, if_pos hbad.out])
            exact bodyPost_ret (v := .agg #[.int .i64 1, .int .i64 n1, .int .i64 n2, .int .i64 n, .slice none 0 0]) (by simp [results, Tryz.results259, go_sem, hc00, hc01, hc02, hc03, hc04]) rfl (show RetQ _ _ _ _ _ _ from ⟨(TT.mk 1 n1 n2 n none 0 []), A7, c7, l3, true, rfl, hz2, hzL, hPz, hgz, hsize, hrel2⟩)
          · have d1 : decide (n1 < 1) = false := decide_eq_false h1
            by_cases h2 : n2 < 1
            · have d2 : decide (n2 < 1) = true := decide_eq_true h2
              have hbad := Lib.hid (show Tm.place Tm.fieldL a = 0 ∨ Tm.place Tm.signL b = 0 ∨ Tm.numF c < 0 from .inr (.inl ((Tm.idxE_place (by decide)).1.1 (by rw [hn2.out]; exact h2))))
              have HX := BL.bare1 _ (blk_grown hRb9 (grown_set (grown_refl w9 (some gp)) 1 (.bool true)) (by omega))
              have hc00 := HX.cell 0 0 rfl rfl
              have hc01 := HX.cell 0 1 rfl rfl
              have hc02 := HX.cell 0 2 rfl rfl
              have hc03 := HX.cell 0 3 rfl rfl
              have hc04 := HX.cell 0 4 rfl rfl
              try simp only [List.getElem_toArray, List.getElem_cons_zero, List.getElem_cons_succ] at hc00 hc01 hc02 hc03 hc04
              have hf00 := HX.free 0 0 rfl
              have hf01 := HX.free 0 1 rfl
              have hf02 := HX.free 0 2 rfl
              have hf03 := HX.free 0 3 rfl
              have hf04 := HX.free 0 4 rfl
              try simp only [] at hf00 hf01 hf02 hf03 hf04
              obtain ⟨cc0, cc1, ff0, ff1⟩ := HP9.cells
              go_wp2
              clear hc00 hc01 hc02 hc03 hc04
              clear hf00 hf01 hf02 hf03 hf04
              have HG := grown_set5 (w9.setCell ⟨gp, 1, none⟩ (.bool true)) w.heap.size (.int .i64 1) (.int .i64 n1) (.int .i64 n2) (.int .i64 n) (.slice none 0 0)
              replace HX := HX.put5 0 rfl (Nat.zero_le _) (by intro k q hk hne; match k, hk with | 0, hk => (simp at hk; subst hk; simp at hne ⊢; try omega) | k + 1, hk => simp at hk) (.int .i64 1) (.int .i64 n1) (.int .i64 n2) (.int .i64 n) (.slice none 0 0)
              simp only [List.set_cons_zero] at HX
              have hz2 := (TT.Mem.leaf (w := w9.setCell ⟨gp, 1, none⟩ (.bool true)) (k := 1) (f := n1) (o := n2) (v := n) (A := none) (c := 0)).grown HG ((TT.Bl.leaf (p := (B ≤ ·)) (k := 1) (f := n1) (o := n2) (v := n) (A := none) (c := 0)).mono fun n hn => by show n ≠ w.heap.size; omega)
              have hzL : (TT.mk 1 n1 n2 n none 0 []).Bl (w.heap.size ≤ ·) := (TT.Bl.leaf (p := (B ≤ ·)) (k := 1) (f := n1) (o := n2) (v := n) (A := none) (c := 0)).mono fun n hn => by show w.heap.size ≤ n; omega
              have hPz := (HP9.bad).grownTo HG (by omega)
              have hgz := grown_low (grown_set hg9 1 (.bool true)) HG (Nat.le_refl _)
              generalize (((((w9.setCell ⟨gp, 1, none⟩ (.bool true)).setCell ⟨w.heap.size, 0, none⟩ (.int .i64 1)).setCell ⟨w.heap.size, 1, none⟩ (.int .i64 n1)).setCell ⟨w.heap.size, 2, none⟩ (.int .i64 n2)).setCell ⟨w.heap.size, 3, none⟩ (.int .i64 n)).setCell ⟨w.heap.size, 4, none⟩ (.slice none 0 0) = Wz at *
              have hc00 := HX.cell 0 0 rfl rfl
              have hc01 := HX.cell 0 1 rfl rfl
              have hc02 := HX.cell 0 2 rfl rfl
              have hc03 := HX.cell 0 3 rfl rfl
              have hc04 := HX.cell 0 4 rfl rfl
              try simp only [List.getElem_toArray, List.getElem_cons_zero, List.getElem_cons_succ] at hc00 hc01 hc02 hc03 hc04
              have hsize := Lib.hid (show (TT.mk 1 n1 n2 n none 0 []).tm.size + 2 * l3.length ≤ 2 * (a :: l).length + 1 by
                rw [TT.tm_mk, List.map_nil, Tm.size, Tm.sizeL]; have := hl3l.out; simp only [List.length_cons]; omega)
              have hrel2 := Lib.hid (show (true = true ∧ Tm.partT (a :: l) = none) ∨ (true = false ∧ Tm.partT (a :: l) = some ((TT.mk 1 n1 n2 n none 0 []).tm, l3)) by
                refine .inl ⟨rfl, ?_⟩
                rw [Tm.partT_cons, if_neg hna.out, if_neg hla.out, Tm.cmpF_heads, hb.out, hl2.out, hc.out, if_pos hbad.out])
              exact bodyPost_ret (v := .agg #[.int .i64 1, .int .i64 n1, .int .i64 n2, .int .i64 n, .slice none 0 0]) (by simp [results, Tryz.results259, go_sem, hc00, hc01, hc02, hc03, hc04]) rfl (show RetQ _ _ _ _ _ _ from ⟨(TT.mk 1 n1 n2 n none 0 []), A7, c7, l3, true, rfl, hz2, hzL, hPz, hgz, hsize, hrel2⟩)
            · have d2 : decide (n2 < 1) = false := decide_eq_false h2
              by_cases h3 : n < 0
              · have d3 : decide (n < 0) = true := decide_eq_true h3
                have hbad := Lib.hid (show Tm.place Tm.fieldL a = 0 ∨ Tm.place Tm.signL b = 0 ∨ Tm.numF c < 0 from .inr (.inr (hnot.out (by omega))))
                have HX := BL.bare1 _ (blk_grown hRb9 (grown_set (grown_refl w9 (some gp)) 1 (.bool true)) (by omega))
                have hc00 := HX.cell 0 0 rfl rfl
                have hc01 := HX.cell 0 1 rfl rfl
                have hc02 := HX.cell 0 2 rfl rfl
                have hc03 := HX.cell 0 3 rfl rfl
                have hc04 := HX.cell 0 4 rfl rfl
                try simp only [List.getElem_toArray, List.getElem_cons_zero, List.getElem_cons_succ] at hc00 hc01 hc02 hc03 hc04
                have hf00 := HX.free 0 0 rfl
                have hf01 := HX.free 0 1 rfl
                have hf02 := HX.free 0 2 rfl
                have hf03 := HX.free 0 3 rfl
                have hf04 := HX.free 0 4 rfl
                try simp only [] at hf00 hf01 hf02 hf03 hf04
                obtain ⟨cc0, cc1, ff0, ff1⟩ := HP9.cells
                go_wp2
                clear hc00 hc01 hc02 hc03 hc04
                clear hf00 hf01 hf02 hf03 hf04
                have HG := grown_set5 (w9.setCell ⟨gp, 1, none⟩ (.bool true)) w.heap.size (.int .i64 1) (.int .i64 n1) (.int .i64 n2) (.int .i64 n) (.slice none 0 0)
                replace HX := HX.put5 0 rfl (Nat.zero_le _) (by intro k q hk hne; match k, hk with | 0, hk => (simp at hk; subst hk; simp at hne ⊢; try omega) | k + 1, hk => simp at hk) (.int .i64 1) (.int .i64 n1) (.int .i64 n2) (.int .i64 n) (.slice none 0 0)
                simp only [List.set_cons_zero] at HX
                have hz2 := (TT.Mem.leaf (w := w9.setCell ⟨gp, 1, none⟩ (.bool true)) (k := 1) (f := n1) (o := n2) (v := n) (A := none) (c := 0)).grown HG ((TT.Bl.leaf (p := (B ≤ ·)) (k := 1) (f := n1) (o := n2) (v := n) (A := none) (c := 0)).mono fun n hn => by show n ≠ w.heap.size; omega)
                have hzL : (TT.mk 1 n1 n2 n none 0 []).Bl (w.heap.size ≤ ·) := (TT.Bl.leaf (p := (B ≤ ·)) (k := 1) (f := n1) (o := n2) (v := n) (A := none) (c := 0)).mono fun n hn => by show w.heap.size ≤ n; omega
                have hPz := (HP9.bad).grownTo HG (by omega)
                have hgz := grown_low (grown_set hg9 1 (.bool true)) HG (Nat.le_refl _)
                generalize (((((w9.setCell ⟨gp, 1, none⟩ (.bool true)).setCell ⟨w.heap.size, 0, none⟩ (.int .i64 1)).setCell ⟨w.heap.size, 1, none⟩ (.int .i64 n1)).setCell ⟨w.heap.size, 2, none⟩ (.int .i64 n2)).setCell ⟨w.heap.size, 3, none⟩ (.int .i64 n)).setCell ⟨w.heap.size, 4, none⟩ (.slice none 0 0) = Wz at *
                have hc00 := HX.cell 0 0 rfl rfl
                have hc01 := HX.cell 0 1 rfl rfl
                have hc02 := HX.cell 0 2 rfl rfl
                have hc03 := HX.cell 0 3 rfl rfl
                have hc04 := HX.cell 0 4 rfl rfl
                try simp only [List.getElem_toArray, List.getElem_cons_zero, List.getElem_cons_succ] at hc00 hc01 hc02 hc03 hc04
                have hsize := Lib.hid (show (TT.mk 1 n1 n2 n none 0 []).tm.size + 2 * l3.length ≤ 2 * (a :: l).length + 1 by
                  rw [TT.tm_mk, List.map_nil, Tm.size, Tm.sizeL]; have := hl3l.out; simp only [List.length_cons]; omega)
                have hrel2 := Lib.hid (show (true = true ∧ Tm.partT (a :: l) = none) ∨ (true = false ∧ Tm.partT (a :: l) = some ((TT.mk 1 n1 n2 n none 0 []).tm, l3)) by
                  refine .inl ⟨rfl, ?_⟩
                  rw [Tm.partT_cons, if_neg hna.out, if_neg hla.out, Tm.cmpF_heads, hb.out, hl2.out, hc.out, if_pos hbad.out])
                exact bodyPost_ret (v := .agg #[.int .i64 1, .int .i64 n1, .int .i64 n2, .int .i64 n, .slice none 0 0]) (by simp [results, Tryz.results259, go_sem, hc00, hc01, hc02, hc03, hc04]) rfl (show RetQ _ _ _ _ _ _ from ⟨(TT.mk 1 n1 n2 n none 0 []), A7, c7, l3, true, rfl, hz2, hzL, hPz, hgz, hsize, hrel2⟩)
              · have d3 : decide (n < 0) = false := decide_eq_false h3
                by_cases h4 : 999999 < n
                · have d4 : decide (999999 < n) = true := decide_eq_true h4
                  have hbad := Lib.hid (show Tm.place Tm.fieldL a = 0 ∨ Tm.place Tm.signL b = 0 ∨ Tm.numF c < 0 from .inr (.inr (hnot.out (by omega))))
                  have HX := BL.bare1 _ (blk_grown hRb9 (grown_set (grown_refl w9 (some gp)) 1 (.bool true)) (by omega))
                  have hc00 := HX.cell 0 0 rfl rfl
                  have hc01 := HX.cell 0 1 rfl rfl
                  have hc02 := HX.cell 0 2 rfl rfl
                  have hc03 := HX.cell 0 3 rfl rfl
                  have hc04 := HX.cell 0 4 rfl rfl
                  try simp only [List.getElem_toArray, List.getElem_cons_zero, List.getElem_cons_succ] at hc00 hc01 hc02 hc03 hc04
                  have hf00 := HX.free 0 0 rfl
                  have hf01 := HX.free 0 1 rfl
                  have hf02 := HX.free 0 2 rfl
                  have hf03 := HX.free 0 3 rfl
                  have hf04 := HX.free 0 4 rfl
                  try simp only [] at hf00 hf01 hf02 hf03 hf04
                  obtain ⟨cc0, cc1, ff0, ff1⟩ := HP9.cells
                  go_wp2
                  clear hc00 hc01 hc02 hc03 hc04
                  clear hf00 hf01 hf02 hf03 hf04
                  have HG := grown_set5 (w9.setCell ⟨gp, 1, none⟩ (.bool true)) w.heap.size (.int .i64 1) (.int .i64 n1) (.int .i64 n2) (.int .i64 n) (.slice none 0 0)
                  replace HX := HX.put5 0 rfl (Nat.zero_le _) (by intro k q hk hne; match k, hk with | 0, hk => (simp at hk; subst hk; simp at hne ⊢; try omega) | k + 1, hk => simp at hk) (.int .i64 1) (.int .i64 n1) (.int .i64 n2) (.int .i64 n) (.slice none 0 0)
                  simp only [List.set_cons_zero] at HX
                  have hz2 := (TT.Mem.leaf (w := w9.setCell ⟨gp, 1, none⟩ (.bool true)) (k := 1) (f := n1) (o := n2) (v := n) (A := none) (c := 0)).grown HG ((TT.Bl.leaf (p := (B ≤ ·)) (k := 1) (f := n1) (o := n2) (v := n) (A := none) (c := 0)).mono fun n hn => by show n ≠ w.heap.size; omega)
                  have hzL : (TT.mk 1 n1 n2 n none 0 []).Bl (w.heap.size ≤ ·) := (TT.Bl.leaf (p := (B ≤ ·)) (k := 1) (f := n1) (o := n2) (v := n) (A := none) (c := 0)).mono fun n hn => by show w.heap.size ≤ n; omega
                  have hPz := (HP9.bad).grownTo HG (by omega)
                  have hgz := grown_low (grown_set hg9 1 (.bool true)) HG (Nat.le_refl _)
                  generalize (((((w9.setCell ⟨gp, 1, none⟩ (.bool true)).setCell ⟨w.heap.size, 0, none⟩ (.int .i64 1)).setCell ⟨w.heap.size, 1, none⟩ (.int .i64 n1)).setCell ⟨w.heap.size, 2, none⟩ (.int .i64 n2)).setCell ⟨w.heap.size, 3, none⟩ (.int .i64 n)).setCell ⟨w.heap.size, 4, none⟩ (.slice none 0 0) = Wz at *
                  have hc00 := HX.cell 0 0 rfl rfl
                  have hc01 := HX.cell 0 1 rfl rfl
                  have hc02 := HX.cell 0 2 rfl rfl
                  have hc03 := HX.cell 0 3 rfl rfl
                  have hc04 := HX.cell 0 4 rfl rfl
                  try simp only [List.getElem_toArray, List.getElem_cons_zero, List.getElem_cons_succ] at hc00 hc01 hc02 hc03 hc04
                  have hsize := Lib.hid (show (TT.mk 1 n1 n2 n none 0 []).tm.size + 2 * l3.length ≤ 2 * (a :: l).length + 1 by
                    rw [TT.tm_mk, List.map_nil, Tm.size, Tm.sizeL]; have := hl3l.out; simp only [List.length_cons]; omega)
                  have hrel2 := Lib.hid (show (true = true ∧ Tm.partT (a :: l) = none) ∨ (true = false ∧ Tm.partT (a :: l) = some ((TT.mk 1 n1 n2 n none 0 []).tm, l3)) by
                    refine .inl ⟨rfl, ?_⟩
                    rw [Tm.partT_cons, if_neg hna.out, if_neg hla.out, Tm.cmpF_heads, hb.out, hl2.out, hc.out, if_pos hbad.out])
                  exact bodyPost_ret (v := .agg #[.int .i64 1, .int .i64 n1, .int .i64 n2, .int .i64 n, .slice none 0 0]) (by simp [results, Tryz.results259, go_sem, hc00, hc01, hc02, hc03, hc04]) rfl (show RetQ _ _ _ _ _ _ from ⟨(TT.mk 1 n1 n2 n none 0 []), A7, c7, l3, true, rfl, hz2, hzL, hPz, hgz, hsize, hrel2⟩)
                · have d4 : decide (999999 < n) = false := decide_eq_false h4
                  obtain ⟨P9, hP9⟩ : ∃ P, Hid (dz n = P) := ⟨_, Lib.hid rfl⟩
                  by_cases h5 : P9 = c
                  · have hse3 : ((str P9).toList == (str c).toList) = true := by rw [str_toList, str_toList, h5]; simp
                    have hse4 : ((str P9).toList != (str c).toList) = false := by rw [bne, hse3]; rfl
                    have hnf : Tm.numF c = n := Tm.numF_of (by omega) (by omega) (by rw [hP9.out]; exact h5)
                    have hp1 : Tm.place Tm.fieldL a ≠ 0 := fun h => by have := (Tm.idxE_place (w := a) (show ([] : Tok) ∉ Tm.fieldL by decide)).1.2 h; rw [hn1.out] at this; exact h1 this
                    have hp2 : Tm.place Tm.signL b ≠ 0 := fun h => by have := (Tm.idxE_place (w := b) (show ([] : Tok) ∉ Tm.signL by decide)).1.2 h; rw [hn2.out] at this; exact h2 this
                    have hgood := Lib.hid (show ¬ (Tm.place Tm.fieldL a = 0 ∨ Tm.place Tm.signL b = 0 ∨ Tm.numF c < 0) ∧ n1 = (Tm.place Tm.fieldL a : Int) ∧ n2 = (Tm.place Tm.signL b : Int) ∧ n = Tm.numF c from
                      ⟨fun h => by rcases h with h | h | h; exact hp1 h; exact hp2 h; omega, by rw [← hn1.out]; exact (Tm.idxE_place (by decide)).2 hp1, by rw [← hn2.out]; exact (Tm.idxE_place (by decide)).2 hp2, hnf.symm⟩)
                    have hq3f := Lib.hid (show q3 = false by
                      rw [← hq3.out, ← hq2.out]
                      have e1 : l ≠ [] := fun e => hp2 (by rw [← hb.out, e]; decide)
                      have e2 : l2 ≠ [] := fun e => by
                        have : Tm.numF c < 0 := by rw [← hc.out, e]; exact Tm.numF_neg.2 fun h => numeral_ne h.1 rfl
                        omega
                      cases l with
                      | nil => exact absurd rfl e1
                      | cons _ _ => cases l2 with
                        | nil => exact absurd rfl e2
                        | cons _ _ => rfl)
                    have h0n : 0 ≤ n := by omega
                    have h9n : n ≤ 9223372036854775807 := by omega
                    clear hnf hp1 hp2 h5
                    go_wp2_with fail
                    refine (itoa_h w9 hP9 h0n h9n (HE.grown hg9).env.tab).mono ?_
                    rintro e w10 ⟨rfl, hb10⟩
                    have hRb10 := blk_below hRb9 hb10
                    have HP10 := HP9.ext hb10
                    have hg10 := grown_below hg9 hb10
                    have HX := BL.bare1 _ hRb10
                    have hc00 := HX.cell 0 0 rfl rfl
                    have hc01 := HX.cell 0 1 rfl rfl
                    have hc02 := HX.cell 0 2 rfl rfl
                    have hc03 := HX.cell 0 3 rfl rfl
                    have hc04 := HX.cell 0 4 rfl rfl
                    try simp only [List.getElem_toArray, List.getElem_cons_zero, List.getElem_cons_succ] at hc00 hc01 hc02 hc03 hc04
                    have hf00 := HX.free 0 0 rfl
                    have hf01 := HX.free 0 1 rfl
                    have hf02 := HX.free 0 2 rfl
                    have hf03 := HX.free 0 3 rfl
                    have hf04 := HX.free 0 4 rfl
                    try simp only [] at hf00 hf01 hf02 hf03 hf04
                    go_wp2
                    clear hc00 hc01 hc02 hc03 hc04
                    clear hf00 hf01 hf02 hf03 hf04
                    have HG := grown_set5 (w10) w.heap.size (.int .i64 1) (.int .i64 n1) (.int .i64 n2) (.int .i64 n) (.slice none 0 0)
                    replace HX := HX.put5 0 rfl (Nat.zero_le _) (by intro k q hk hne; match k, hk with | 0, hk => (simp at hk; subst hk; simp at hne ⊢; try omega) | k + 1, hk => simp at hk) (.int .i64 1) (.int .i64 n1) (.int .i64 n2) (.int .i64 n) (.slice none 0 0)
                    simp only [List.set_cons_zero] at HX
                    have hz2 := (TT.Mem.leaf (w := w10) (k := 1) (f := n1) (o := n2) (v := n) (A := none) (c := 0)).grown HG ((TT.Bl.leaf (p := (B ≤ ·)) (k := 1) (f := n1) (o := n2) (v := n) (A := none) (c := 0)).mono fun n hn => by show n ≠ w.heap.size; omega)
                    have hzL : (TT.mk 1 n1 n2 n none 0 []).Bl (w.heap.size ≤ ·) := (TT.Bl.leaf (p := (B ≤ ·)) (k := 1) (f := n1) (o := n2) (v := n) (A := none) (c := 0)).mono fun n hn => by show w.heap.size ≤ n; omega
                    have hPz := (HP10).grownTo HG (by omega)
                    have hgz := grown_low (hg10) HG (Nat.le_refl _)
                    generalize ((((w10.setCell ⟨w.heap.size, 0, none⟩ (.int .i64 1)).setCell ⟨w.heap.size, 1, none⟩ (.int .i64 n1)).setCell ⟨w.heap.size, 2, none⟩ (.int .i64 n2)).setCell ⟨w.heap.size, 3, none⟩ (.int .i64 n)).setCell ⟨w.heap.size, 4, none⟩ (.slice none 0 0) = Wz at *
                    have hc00 := HX.cell 0 0 rfl rfl
                    have hc01 := HX.cell 0 1 rfl rfl
                    have hc02 := HX.cell 0 2 rfl rfl
                    have hc03 := HX.cell 0 3 rfl rfl
                    have hc04 := HX.cell 0 4 rfl rfl
                    try simp only [List.getElem_toArray, List.getElem_cons_zero, List.getElem_cons_succ] at hc00 hc01 hc02 hc03 hc04
                    have hsize := Lib.hid (show (TT.mk 1 n1 n2 n none 0 []).tm.size + 2 * l3.length ≤ 2 * (a :: l).length + 1 by
                      rw [TT.tm_mk, List.map_nil, Tm.size, Tm.sizeL]; have := hl3l.out; simp only [List.length_cons]; omega)
                    have hrel2 := Lib.hid (show (q3 = true ∧ Tm.partT (a :: l) = none) ∨ (q3 = false ∧ Tm.partT (a :: l) = some ((TT.mk 1 n1 n2 n none 0 []).tm, l3)) by
                      refine .inr ⟨hq3f.out, ?_⟩
                      rw [Tm.partT_cons, if_neg hna.out, if_neg hla.out, Tm.cmpF_heads, hb.out, hl2.out, hc.out, if_neg hgood.out.1, TT.tm_mk, hgood.out.2.1, hgood.out.2.2.1, hgood.out.2.2.2, hl3.out]; rfl)
                    exact bodyPost_ret (v := .agg #[.int .i64 1, .int .i64 n1, .int .i64 n2, .int .i64 n, .slice none 0 0]) (by simp [results, Tryz.results259, go_sem, hc00, hc01, hc02, hc03, hc04]) rfl (show RetQ _ _ _ _ _ _ from ⟨(TT.mk 1 n1 n2 n none 0 []), A7, c7, l3, q3, rfl, hz2, hzL, hPz, hgz, hsize, hrel2⟩)
                  · have hse3 : ((str P9).toList == (str c).toList) = false := by rw [str_toList, str_toList]; exact beq_eq_false_iff_ne.2 h5
                    have hse4 : ((str P9).toList != (str c).toList) = true := by rw [bne, hse3]; rfl
                    have hbad := Lib.hid (show Tm.place Tm.fieldL a = 0 ∨ Tm.place Tm.signL b = 0 ∨ Tm.numF c < 0 from .inr (.inr (by
                      by_cases h6 : 0 ≤ Tm.numF c
                      · exfalso
                        obtain ⟨k1, _, k3⟩ := Tm.numF_ge h6
                        rw [hat.out] at k1
                        injection k1 with k1
                        rw [← k1, hP9.out] at k3
                        exact h5 k3
                      · omega)))
                    have h0n : 0 ≤ n := by omega
                    have h9n : n ≤ 9223372036854775807 := by omega
                    clear h5
                    go_wp2_with fail
                    refine (itoa_h w9 hP9 h0n h9n (HE.grown hg9).env.tab).mono ?_
                    rintro e w10 ⟨rfl, hb10⟩
                    have hRb10 := blk_below hRb9 hb10
                    have HP10 := HP9.ext hb10
                    have hg10 := grown_below hg9 hb10
                    have HX := BL.bare1 _ (blk_grown hRb10 (grown_set (grown_refl w10 (some gp)) 1 (.bool true)) (by omega))
                    have hc00 := HX.cell 0 0 rfl rfl
                    have hc01 := HX.cell 0 1 rfl rfl
                    have hc02 := HX.cell 0 2 rfl rfl
                    have hc03 := HX.cell 0 3 rfl rfl
                    have hc04 := HX.cell 0 4 rfl rfl
                    try simp only [List.getElem_toArray, List.getElem_cons_zero, List.getElem_cons_succ] at hc00 hc01 hc02 hc03 hc04
                    have hf00 := HX.free 0 0 rfl
                    have hf01 := HX.free 0 1 rfl
                    have hf02 := HX.free 0 2 rfl
                    have hf03 := HX.free 0 3 rfl
                    have hf04 := HX.free 0 4 rfl
                    try simp only [] at hf00 hf01 hf02 hf03 hf04
                    obtain ⟨cc0, cc1, ff0, ff1⟩ := HP10.cells
                    go_wp2
                    clear hc00 hc01 hc02 hc03 hc04
                    clear hf00 hf01 hf02 hf03 hf04
                    have HG := grown_set5 (w10.setCell ⟨gp, 1, none⟩ (.bool true)) w.heap.size (.int .i64 1) (.int .i64 n1) (.int .i64 n2) (.int .i64 n) (.slice none 0 0)
                    replace HX := HX.put5 0 rfl (Nat.zero_le _) (by intro k q hk hne; match k, hk with | 0, hk => (simp at hk; subst hk; simp at hne ⊢; try omega) | k + 1, hk => simp at hk) (.int .i64 1) (.int .i64 n1) (.int .i64 n2) (.int .i64 n) (.slice none 0 0)
                    simp only [List.set_cons_zero] at HX
                    have hz2 := (TT.Mem.leaf (w := w10.setCell ⟨gp, 1, none⟩ (.bool true)) (k := 1) (f := n1) (o := n2) (v := n) (A := none) (c := 0)).grown HG ((TT.Bl.leaf (p := (B ≤ ·)) (k := 1) (f := n1) (o := n2) (v := n) (A := none) (c := 0)).mono fun n hn => by show n ≠ w.heap.size; omega)
                    have hzL : (TT.mk 1 n1 n2 n none 0 []).Bl (w.heap.size ≤ ·) := (TT.Bl.leaf (p := (B ≤ ·)) (k := 1) (f := n1) (o := n2) (v := n) (A := none) (c := 0)).mono fun n hn => by show w.heap.size ≤ n; omega
                    have hPz := (HP10.bad).grownTo HG (by omega)
                    have hgz := grown_low (grown_set hg10 1 (.bool true)) HG (Nat.le_refl _)
                    generalize (((((w10.setCell ⟨gp, 1, none⟩ (.bool true)).setCell ⟨w.heap.size, 0, none⟩ (.int .i64 1)).setCell ⟨w.heap.size, 1, none⟩ (.int .i64 n1)).setCell ⟨w.heap.size, 2, none⟩ (.int .i64 n2)).setCell ⟨w.heap.size, 3, none⟩ (.int .i64 n)).setCell ⟨w.heap.size, 4, none⟩ (.slice none 0 0) = Wz at *
                    have hc00 := HX.cell 0 0 rfl rfl
                    have hc01 := HX.cell 0 1 rfl rfl
                    have hc02 := HX.cell 0 2 rfl rfl
                    have hc03 := HX.cell 0 3 rfl rfl
                    have hc04 := HX.cell 0 4 rfl rfl
                    try simp only [List.getElem_toArray, List.getElem_cons_zero, List.getElem_cons_succ] at hc00 hc01 hc02 hc03 hc04
                    have hsize := Lib.hid (show (TT.mk 1 n1 n2 n none 0 []).tm.size + 2 * l3.length ≤ 2 * (a :: l).length + 1 by
                      rw [TT.tm_mk, List.map_nil, Tm.size, Tm.sizeL]; have := hl3l.out; simp only [List.length_cons]; omega)
                    have hrel2 := Lib.hid (show (true = true ∧ Tm.partT (a :: l) = none) ∨ (true = false ∧ Tm.partT (a :: l) = some ((TT.mk 1 n1 n2 n none 0 []).tm, l3)) by
                      refine .inl ⟨rfl, ?_⟩
                      rw [Tm.partT_cons, if_neg hna.out, if_neg hla.out, Tm.cmpF_heads, hb.out, hl2.out, hc.out, if_pos hbad.out])
                    exact bodyPost_ret (v := .agg #[.int .i64 1, .int .i64 n1, .int .i64 n2, .int .i64 n, .slice none 0 0]) (by simp [results, Tryz.results259, go_sem, hc00, hc01, hc02, hc03, hc04]) rfl (show RetQ _ _ _ _ _ _ from ⟨(TT.mk 1 n1 n2 n none 0 []), A7, c7, l3, true, rfl, hz2, hzL, hPz, hgz, hsize, hrel2⟩)
        · have hbadA := Lib.hid (show ∀ n, Lib.atoiAll c ≠ .ok n from fun n h => hA ⟨n, h⟩)
          clear hA
          go_wp2_with fail
          refine (atoi_bad w8 hbadA (HE.grown hg8).env hcl).mono ?_
          rintro e w9 ⟨v, N, rfl, hb9⟩
          have hRb9 := blk_below hRb8 hb9
          have HP9 := HP8.ext hb9
          have hg9 := grown_below hg8 hb9
          clear hRb8 HP8 hg8 hb9
          by_cases h1 : n1 < 1
          · have d1 : decide (n1 < 1) = true := decide_eq_true h1
            have hbad := Lib.hid (show Tm.place Tm.fieldL a = 0 ∨ Tm.place Tm.signL b = 0 ∨ Tm.numF c < 0 from .inl ((Tm.idxE_place (by decide)).1.1 (by rw [hn1.out]; exact h1)))
            have HX := BL.bare1 _ (blk_grown hRb9 (grown_set (grown_refl w9 (some gp)) 1 (.bool true)) (by omega))
            have hc00 := HX.cell 0 0 rfl rfl
            have hc01 := HX.cell 0 1 rfl rfl
            have hc02 := HX.cell 0 2 rfl rfl
            have hc03 := HX.cell 0 3 rfl rfl
            have hc04 := HX.cell 0 4 rfl rfl
            try simp only [List.getElem_toArray, List.getElem_cons_zero, List.getElem_cons_succ] at hc00 hc01 hc02 hc03 hc04
            have hf00 := HX.free 0 0 rfl
            have hf01 := HX.free 0 1 rfl
            have hf02 := HX.free 0 2 rfl
            have hf03 := HX.free 0 3 rfl
            have hf04 := HX.free 0 4 rfl
            try simp only [] at hf00 hf01 hf02 hf03 hf04
            obtain ⟨cc0, cc1, ff0, ff1⟩ := HP9.cells
            go_wp2
            clear hc00 hc01 hc02 hc03 hc04
            clear hf00 hf01 hf02 hf03 hf04
            have HG := grown_set5 (w9.setCell ⟨gp, 1, none⟩ (.bool true)) w.heap.size (.int .i64 1) (.int .i64 n1) (.int .i64 n2) (.int .i64 v) (.slice none 0 0)
            replace HX := HX.put5 0 rfl (Nat.zero_le _) (by intro k q hk hne; match k, hk with | 0, hk => (simp at hk; subst hk; simp at hne ⊢; try omega) | k + 1, hk => simp at hk) (.int .i64 1) (.int .i64 n1) (.int .i64 n2) (.int .i64 v) (.slice none 0 0)
            simp only [List.set_cons_zero] at HX
            have hz2 := (TT.Mem.leaf (w := w9.setCell ⟨gp, 1, none⟩ (.bool true)) (k := 1) (f := n1) (o := n2) (v := v) (A := none) (c := 0)).grown HG ((TT.Bl.leaf (p := (B ≤ ·)) (k := 1) (f := n1) (o := n2) (v := v) (A := none) (c := 0)).mono fun n hn => by show n ≠ w.heap.size; omega)
            have hzL : (TT.mk 1 n1 n2 v none 0 []).Bl (w.heap.size ≤ ·) := (TT.Bl.leaf (p := (B ≤ ·)) (k := 1) (f := n1) (o := n2) (v := v) (A := none) (c := 0)).mono fun n hn => by show w.heap.size ≤ n; omega
            have hPz := (HP9.bad).grownTo HG (by omega)
            have hgz := grown_low (grown_set hg9 1 (.bool true)) HG (Nat.le_refl _)
            generalize (((((w9.setCell ⟨gp, 1, none⟩ (.bool true)).setCell ⟨w.heap.size, 0, none⟩ (.int .i64 1)).setCell ⟨w.heap.size, 1, none⟩ (.int .i64 n1)).setCell ⟨w.heap.size, 2, none⟩ (.int .i64 n2)).setCell ⟨w.heap.size, 3, none⟩ (.int .i64 v)).setCell ⟨w.heap.size, 4, none⟩ (.slice none 0 0) = Wz at *
            have hc00 := HX.cell 0 0 rfl rfl
            have hc01 := HX.cell 0 1 rfl rfl
            have hc02 := HX.cell 0 2 rfl rfl
            have hc03 := HX.cell 0 3 rfl rfl
            have hc04 := HX.cell 0 4 rfl rfl
            try simp only [List.getElem_toArray, List.getElem_cons_zero, List.getElem_cons_succ] at hc00 hc01 hc02 hc03 hc04
            have hsize := Lib.hid (show (TT.mk 1 n1 n2 v none 0 []).tm.size + 2 * l3.length ≤ 2 * (a :: l).length + 1 by
              rw [TT.tm_mk, List.map_nil, Tm.size, Tm.sizeL]; have := hl3l.out; simp only [List.length_cons]; omega)
            have hrel2 := Lib.hid (show (true = true ∧ Tm.partT (a :: l) = none) ∨ (true = false ∧ Tm.partT (a :: l) = some ((TT.mk 1 n1 n2 v none 0 []).tm, l3)) by
              refine .inl ⟨rfl, ?_⟩
              rw [Tm.partT_cons, if_neg hna.out, if_neg hla.out, Tm.cmpF_heads, hb.out, hl2.out, hc.out, if_pos hbad.out])
            exact bodyPost_ret (v := .agg #[.int .i64 1, .int .i64 n1, .int .i64 n2, .int .i64 v, .slice none 0 0]) (by simp [results, Tryz.results259, go_sem, hc00, hc01, hc02, hc03, hc04]) rfl (show RetQ _ _ _ _ _ _ from ⟨(TT.mk 1 n1 n2 v none 0 []), A7, c7, l3, true, rfl, hz2, hzL, hPz, hgz, hsize, hrel2⟩)
          · have d1 : decide (n1 < 1) = false := decide_eq_false h1
            by_cases h2 : n2 < 1
            · have d2 : decide (n2 < 1) = true := decide_eq_true h2
              have hbad := Lib.hid (show Tm.place Tm.fieldL a = 0 ∨ Tm.place Tm.signL b = 0 ∨ Tm.numF c < 0 from .inr (.inl ((Tm.idxE_place (by decide)).1.1 (by rw [hn2.out]; exact h2))))
              have HX := BL.bare1 _ (blk_grown hRb9 (grown_set (grown_refl w9 (some gp)) 1 (.bool true)) (by omega))
              have hc00 := HX.cell 0 0 rfl rfl
              have hc01 := HX.cell 0 1 rfl rfl
              have hc02 := HX.cell 0 2 rfl rfl
              have hc03 := HX.cell 0 3 rfl rfl
              have hc04 := HX.cell 0 4 rfl rfl
              try simp only [List.getElem_toArray, List.getElem_cons_zero, List.getElem_cons_succ] at hc00 hc01 hc02 hc03 hc04
              have hf00 := HX.free 0 0 rfl
              have hf01 := HX.free 0 1 rfl
              have hf02 := HX.free 0 2 rfl
              have hf03 := HX.free 0 3 rfl
              have hf04 := HX.free 0 4 rfl
              try simp only [] at hf00 hf01 hf02 hf03 hf04
              obtain ⟨cc0, cc1, ff0, ff1⟩ := HP9.cells
              go_wp2
              clear hc00 hc01 hc02 hc03 hc04
              clear hf00 hf01 hf02 hf03 hf04
              have HG := grown_set5 (w9.setCell ⟨gp, 1, none⟩ (.bool true)) w.heap.size (.int .i64 1) (.int .i64 n1) (.int .i64 n2) (.int .i64 v) (.slice none 0 0)
              replace HX := HX.put5 0 rfl (Nat.zero_le _) (by intro k q hk hne; match k, hk with | 0, hk => (simp at hk; subst hk; simp at hne ⊢; try omega) | k + 1, hk => simp at hk) (.int .i64 1) (.int .i64 n1) (.int .i64 n2) (.int .i64 v) (.slice none 0 0)
              simp only [List.set_cons_zero] at HX
              have hz2 := (TT.Mem.leaf (w := w9.setCell ⟨gp, 1, none⟩ (.bool true)) (k := 1) (f := n1) (o := n2) (v := v) (A := none) (c := 0)).grown HG ((TT.Bl.leaf (p := (B ≤ ·)) (k := 1) (f := n1) (o := n2) (v := v) (A := none) (c := 0)).mono fun n hn => by show n ≠ w.heap.size; omega)
              have hzL : (TT.mk 1 n1 n2 v none 0 []).Bl (w.heap.size ≤ ·) := (TT.Bl.leaf (p := (B ≤ ·)) (k := 1) (f := n1) (o := n2) (v := v) (A := none) (c := 0)).mono fun n hn => by show w.heap.size ≤ n; omega
              have hPz := (HP9.bad).grownTo HG (by omega)
              have hgz := grown_low (grown_set hg9 1 (.bool true)) HG (Nat.le_refl _)
              generalize (((((w9.setCell ⟨gp, 1, none⟩ (.bool true)).setCell ⟨w.heap.size, 0, none⟩ (.int .i64 1)).setCell ⟨w.heap.size, 1, none⟩ (.int .i64 n1)).setCell ⟨w.heap.size, 2, none⟩ (.int .i64 n2)).setCell ⟨w.heap.size, 3, none⟩ (.int .i64 v)).setCell ⟨w.heap.size, 4, none⟩ (.slice none 0 0) = Wz at *
              have hc00 := HX.cell 0 0 rfl rfl
              have hc01 := HX.cell 0 1 rfl rfl
              have hc02 := HX.cell 0 2 rfl rfl
              have hc03 := HX.cell 0 3 rfl rfl
              have hc04 := HX.cell 0 4 rfl rfl
              try simp only [List.getElem_toArray, List.getElem_cons_zero, List.getElem_cons_succ] at hc00 hc01 hc02 hc03 hc04
              have hsize := Lib.hid (show (TT.mk 1 n1 n2 v none 0 []).tm.size + 2 * l3.length ≤ 2 * (a :: l).length + 1 by
                rw [TT.tm_mk, List.map_nil, Tm.size, Tm.sizeL]; have := hl3l.out; simp only [List.length_cons]; omega)
              have hrel2 := Lib.hid (show (true = true ∧ Tm.partT (a :: l) = none) ∨ (true = false ∧ Tm.partT (a :: l) = some ((TT.mk 1 n1 n2 v none 0 []).tm, l3)) by
                refine .inl ⟨rfl, ?_⟩
                rw [Tm.partT_cons, if_neg hna.out, if_neg hla.out, Tm.cmpF_heads, hb.out, hl2.out, hc.out, if_pos hbad.out])
              exact bodyPost_ret (v := .agg #[.int .i64 1, .int .i64 n1, .int .i64 n2, .int .i64 v, .slice none 0 0]) (by simp [results, Tryz.results259, go_sem, hc00, hc01, hc02, hc03, hc04]) rfl (show RetQ _ _ _ _ _ _ from ⟨(TT.mk 1 n1 n2 v none 0 []), A7, c7, l3, true, rfl, hz2, hzL, hPz, hgz, hsize, hrel2⟩)
            · have d2 : decide (n2 < 1) = false := decide_eq_false h2
              have hbad := Lib.hid (show Tm.place Tm.fieldL a = 0 ∨ Tm.place Tm.signL b = 0 ∨ Tm.numF c < 0 from .inr (.inr (by
                by_cases h6 : 0 ≤ Tm.numF c
                · exact absurd (Tm.numF_ge h6).1 (hbadA.out _)
                · omega)))
              have HX := BL.bare1 _ (blk_grown hRb9 (grown_set (grown_refl w9 (some gp)) 1 (.bool true)) (by omega))
              have hc00 := HX.cell 0 0 rfl rfl
              have hc01 := HX.cell 0 1 rfl rfl
              have hc02 := HX.cell 0 2 rfl rfl
              have hc03 := HX.cell 0 3 rfl rfl
              have hc04 := HX.cell 0 4 rfl rfl
              try simp only [List.getElem_toArray, List.getElem_cons_zero, List.getElem_cons_succ] at hc00 hc01 hc02 hc03 hc04
              have hf00 := HX.free 0 0 rfl
              have hf01 := HX.free 0 1 rfl
              have hf02 := HX.free 0 2 rfl
              have hf03 := HX.free 0 3 rfl
              have hf04 := HX.free 0 4 rfl
              try simp only [] at hf00 hf01 hf02 hf03 hf04
              obtain ⟨cc0, cc1, ff0, ff1⟩ := HP9.cells
              go_wp2
              clear hc00 hc01 hc02 hc03 hc04
              clear hf00 hf01 hf02 hf03 hf04
              have HG := grown_set5 (w9.setCell ⟨gp, 1, none⟩ (.bool true)) w.heap.size (.int .i64 1) (.int .i64 n1) (.int .i64 n2) (.int .i64 v) (.slice none 0 0)
              replace HX := HX.put5 0 rfl (Nat.zero_le _) (by intro k q hk hne; match k, hk with | 0, hk => (simp at hk; subst hk; simp at hne ⊢; try omega) | k + 1, hk => simp at hk) (.int .i64 1) (.int .i64 n1) (.int .i64 n2) (.int .i64 v) (.slice none 0 0)
              simp only [List.set_cons_zero] at HX
              have hz2 := (TT.Mem.leaf (w := w9.setCell ⟨gp, 1, none⟩ (.bool true)) (k := 1) (f := n1) (o := n2) (v := v) (A := none) (c := 0)).grown HG ((TT.Bl.leaf (p := (B ≤ ·)) (k := 1) (f := n1) (o := n2) (v := v) (A := none) (c := 0)).mono fun n hn => by show n ≠ w.heap.size; omega)
              have hzL : (TT.mk 1 n1 n2 v none 0 []).Bl (w.heap.size ≤ ·) := (TT.Bl.leaf (p := (B ≤ ·)) (k := 1) (f := n1) (o := n2) (v := v) (A := none) (c := 0)).mono fun n hn => by show w.heap.size ≤ n; omega
              have hPz := (HP9.bad).grownTo HG (by omega)
              have hgz := grown_low (grown_set hg9 1 (.bool true)) HG (Nat.le_refl _)
              generalize (((((w9.setCell ⟨gp, 1, none⟩ (.bool true)).setCell ⟨w.heap.size, 0, none⟩ (.int .i64 1)).setCell ⟨w.heap.size, 1, none⟩ (.int .i64 n1)).setCell ⟨w.heap.size, 2, none⟩ (.int .i64 n2)).setCell ⟨w.heap.size, 3, none⟩ (.int .i64 v)).setCell ⟨w.heap.size, 4, none⟩ (.slice none 0 0) = Wz at *
              have hc00 := HX.cell 0 0 rfl rfl
              have hc01 := HX.cell 0 1 rfl rfl
              have hc02 := HX.cell 0 2 rfl rfl
              have hc03 := HX.cell 0 3 rfl rfl
              have hc04 := HX.cell 0 4 rfl rfl
              try simp only [List.getElem_toArray, List.getElem_cons_zero, List.getElem_cons_succ] at hc00 hc01 hc02 hc03 hc04
              have hsize := Lib.hid (show (TT.mk 1 n1 n2 v none 0 []).tm.size + 2 * l3.length ≤ 2 * (a :: l).length + 1 by
                rw [TT.tm_mk, List.map_nil, Tm.size, Tm.sizeL]; have := hl3l.out; simp only [List.length_cons]; omega)
              have hrel2 := Lib.hid (show (true = true ∧ Tm.partT (a :: l) = none) ∨ (true = false ∧ Tm.partT (a :: l) = some ((TT.mk 1 n1 n2 v none 0 []).tm, l3)) by
                refine .inl ⟨rfl, ?_⟩
                rw [Tm.partT_cons, if_neg hna.out, if_neg hla.out, Tm.cmpF_heads, hb.out, hl2.out, hc.out, if_pos hbad.out])
              exact bodyPost_ret (v := .agg #[.int .i64 1, .int .i64 n1, .int .i64 n2, .int .i64 v, .slice none 0 0]) (by simp [results, Tryz.results259, go_sem, hc00, hc01, hc02, hc03, hc04]) rfl (show RetQ _ _ _ _ _ _ from ⟨(TT.mk 1 n1 n2 v none 0 []), A7, c7, l3, true, rfl, hz2, hzL, hPz, hgz, hsize, hrel2⟩)
/-- the parser's three, by the number of words -/
theorem qparser_all {gp : Nat} : ∀ (n : Nat) (ws : List Tok), ws.length ≤ n → ws.length ≤ 2000 →
    (∀ (A : Option Addr) (c : Nat) (w : World), PSt w gp A c ws false → EnvG gp w → Calls Tryz.prog 259 #[.pointer (some ⟨gp, 0, none⟩)] w (RetQ w gp ws.length (Tm.partT ws))) ∧
    (∀ (A : Option Addr) (c : Nat) (w : World), PSt w gp A c ws false → EnvG gp w → Calls Tryz.prog 184 #[.pointer (some ⟨gp, 0, none⟩)] w (RetQ w gp ws.length (Tm.listT false ws))) ∧
    (∀ (A : Option Addr) (c : Nat) (w : World), PSt w gp A c ws false → EnvG gp w → Calls Tryz.prog 100 #[.pointer (some ⟨gp, 0, none⟩)] w (RetQ w gp ws.length (Tm.listT true ws))) := by
  intro n
  induction n using Nat.strongRecOn with
  | _ n ih =>
    have hp : ∀ ws : List Tok, ws.length ≤ n → ws.length ≤ 2000 → ∀ (A : Option Addr) (c : Nat) (w : World), PSt w gp A c ws false → EnvG gp w → Calls Tryz.prog 259 #[.pointer (some ⟨gp, 0, none⟩)] w (RetQ w gp ws.length (Tm.partT ws)) := fun ws hn h2 =>
      qpart_of h2 (fun A c v w hv h3 h4 => (ih v.length (by omega) v (Nat.le_refl _) (by omega)).1 A c w h3 h4) (fun A c v w hv h3 h4 => (ih v.length (by omega) v (Nat.le_refl _) (by omega)).2.2 A c w h3 h4)
    have hs : ∀ ws : List Tok, ws.length ≤ n → ws.length ≤ 2000 → ∀ (A : Option Addr) (c : Nat) (w : World), PSt w gp A c ws false → EnvG gp w → Calls Tryz.prog 184 #[.pointer (some ⟨gp, 0, none⟩)] w (RetQ w gp ws.length (Tm.listT false ws)) := fun ws hn h2 =>
      qsum_of h2 (fun A c v w hv h3 h4 => hp v (by omega) (by omega) A c w h3 h4)
    exact fun ws hn h2 => ⟨hp ws hn h2, hs ws hn h2, qquery_of h2 fun A c v w hv h3 h4 => hs v (by omega) (by omega) A c w h3 h4⟩
theorem qquery_any {gp : Nat} {ws : List Tok} (A : Option Addr) (c : Nat) (w : World) (h : ws.length ≤ 2000) (HP : PSt w gp A c ws false) (HE : EnvG gp w) : Calls Tryz.prog 100 #[.pointer (some ⟨gp, 0, none⟩)] w (RetQ w gp ws.length (Tm.listT true ws)) :=
  (qparser_all ws.length ws (Nat.le_refl _) h).2.2 A c w HP HE
end Go.Proofs.YtolkijelldlmeaaGreatDoor
