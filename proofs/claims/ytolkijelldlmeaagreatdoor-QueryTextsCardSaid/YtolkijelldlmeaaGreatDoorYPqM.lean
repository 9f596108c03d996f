/- The parser's sum and query, over its part. -/
import Derived.Test.YtolkijelldlmeaaGreatDoorYJnM
import Derived.Test.YtolkijelldlmeaaGreatDoorYFuM
import Derived.Test.YtolkijelldlmeaaGreatDoorYWrM
import Derived.Test.YtolkijelldlmeaaGreatDoorYPmM
import Derived.Test.YtolkijelldlmeaaGreatDoorYScM
namespace Go.Proofs.YtolkijelldlmeaaGreatDoor
open Go.RowKit Go.Proofs Go

/-- a term's blocks are those of another one, or new -/
def FrT (w : World) (t r : TT) : Prop := ∀ p : Nat → Prop, t.Bl p → r.Bl (fun n => p n ∨ w.heap.size ≤ n)
set_option maxHeartbeats 8000000 in
set_option maxRecDepth 100000 in
theorem qnormal_any : ∀ (t : TT) (turned : Bool) (w : World), t.tm.wf → t.tm.size ≤ 1000 → t.Mem w →
    Calls Tryz.prog 92 #[t.val, .bool turned] w (RetT w (t.tm.norm turned) (FrT w t)) := by
  refine fun t => TT.ind (P := fun t => ∀ (turned : Bool) (w : World), t.tm.wf → t.tm.size ≤ 1000 → t.Mem w → Calls Tryz.prog 92 #[t.val, .bool turned] w (RetT w (t.tm.norm turned) (FrT w t))) (fun t ih0 turned w hw hs HM0 => ?_) t
  obtain ⟨k, f, o, v, A, c, ks⟩ := t
  obtain ⟨HK, hl, HM⟩ := HM0.kids
  clear HM0
  have ih : ∀ x ∈ ks, ∀ (turned : Bool) (w : World), x.tm.wf → x.tm.size ≤ 1000 → x.Mem w → Calls Tryz.prog 92 #[x.val, .bool turned] w (RetT w (x.tm.norm turned) (FrT w x)) := ih0
  clear ih0
  show Calls _ _ #[.agg #[.int .i64 k, .int .i64 f, .int .i64 o, .int .i64 v, .slice A ks.length c], .bool turned] w _
  have hw2 := hw
  rw [TT.tm_mk, Tm.wf, Tm.wfL_iff] at hw2
  have hwk := Lib.hid (show ∀ x ∈ ks, x.tm.wf from fun x hx => hw2.2 _ (List.mem_map_of_mem hx))
  have hsk := Lib.hid (show ∀ x ∈ ks, x.tm.size ≤ 1000 from fun x hx => by have := TT.size_kid (t := TT.mk k f o v A c ks) hx; omega)
  have hskk := Lib.hid (show Tm.sizeL (ks.map TT.tm) ≤ 1000 by rw [TT.tm_mk, Tm.size] at hs; omega)
  have hkl : ks.length ≤ 1000 := by have h1 := Tm.sizeL_len (ks.map TT.tm); rw [List.length_map] at h1; have := hskk.out; omega
  have hsh := hw2.1
  clear hw2 hw hs
  have HX := BL.two w #[.int .i64 k, .int .i64 f, .int .i64 o, .int .i64 v, .slice A ks.length c] #[.int .i64 0, .int .i64 0, .int .i64 0, .int .i64 0, .slice none 0 0] 55 55
  obtain ⟨B, hB⟩ : ∃ B, Hid (((w.alloc (.cells #[.int .i64 k, .int .i64 f, .int .i64 o, .int .i64 v, .slice A ks.length c] 55)).alloc (.cells #[.int .i64 0, .int .i64 0, .int .i64 0, .int .i64 0, .slice none 0 0] 55)).heap.size = B) := ⟨_, Lib.hid rfl⟩
  have hB2 : B = w.heap.size + 2 := by rw [← hB.out]; simp
  rcases hsh with ⟨rfl, _, _, ho1, ho2, _, _, hks⟩ | ⟨hk, rfl, rfl, rfl, h2, _⟩ | ⟨rfl, rfl, rfl, rfl, h1⟩
  · rw [List.map_eq_nil_iff] at hks
    subst hks
    clear ih hwk hsk hskk
    go_enter Tryz.func92, Tryz.ntmps92
    go_upto_region 1 with fail
    generalize (w.alloc (.cells #[.int .i64 1, .int .i64 f, .int .i64 o, .int .i64 v, .slice A ([] : List TT).length c] 55)).alloc (.cells #[.int .i64 0, .int .i64 0, .int .i64 0, .int .i64 0, .slice none 0 0] 55) = V at *
    simp only [List.length_nil] at HX
    cases turned with
    | false =>
      have hres := Lib.hid (show (TT.mk 1 f o v A c []).tm = Tm.norm (TT.mk 1 f o v A c []).tm false by rw [TT.tm_mk, Tm.norm_cmp]; rfl)
      have hc00 := HX.cell 0 0 rfl rfl
      have hc01 := HX.cell 0 1 rfl rfl
      have hc02 := HX.cell 0 2 rfl rfl
      have hc03 := HX.cell 0 3 rfl rfl
      have hc04 := HX.cell 0 4 rfl rfl
      try simp only [List.getElem_toArray, List.getElem_cons_zero, List.getElem_cons_succ] at hc00 hc01 hc02 hc03 hc04
      have hc10 := HX.cell 1 0 rfl rfl
      have hc11 := HX.cell 1 1 rfl rfl
      have hc12 := HX.cell 1 2 rfl rfl
      have hc13 := HX.cell 1 3 rfl rfl
      have hc14 := HX.cell 1 4 rfl rfl
      try simp only [List.getElem_toArray, List.getElem_cons_zero, List.getElem_cons_succ] at hc10 hc11 hc12 hc13 hc14
      have hf10 := HX.free 1 0 rfl
      have hf11 := HX.free 1 1 rfl
      have hf12 := HX.free 1 2 rfl
      have hf13 := HX.free 1 3 rfl
      have hf14 := HX.free 1 4 rfl
      try simp only [] at hf10 hf11 hf12 hf13 hf14
      go_wp2
      clear hc10 hc11 hc12 hc13 hc14
      clear hf10 hf11 hf12 hf13 hf14
      have HG := grown_set5 V (w.heap.size + 1) (.int .i64 1) (.int .i64 f) (.int .i64 o) (.int .i64 v) (.slice A 0 c)
      replace HX := HX.put5 1 rfl (by omega) (by intro k q hk hne; match k, hk with | 0, hk => (simp at hk; subst hk; simp at hne ⊢; try omega) | 1, hk => (simp at hk; subst hk; simp at hne ⊢; try omega) | k + 2, hk => simp at hk) (.int .i64 1) (.int .i64 f) (.int .i64 o) (.int .i64 v) (.slice A 0 c)
      simp only [List.set_cons_zero, List.set_cons_succ] at HX
      generalize ((((V.setCell ⟨w.heap.size + 1, 0, none⟩ (.int .i64 1)).setCell ⟨w.heap.size + 1, 1, none⟩ (.int .i64 f)).setCell ⟨w.heap.size + 1, 2, none⟩ (.int .i64 o)).setCell ⟨w.heap.size + 1, 3, none⟩ (.int .i64 v)).setCell ⟨w.heap.size + 1, 4, none⟩ (.slice A 0 c) = Wz at *
      have hc10 := HX.cell 1 0 rfl rfl
      have hc11 := HX.cell 1 1 rfl rfl
      have hc12 := HX.cell 1 2 rfl rfl
      have hc13 := HX.cell 1 3 rfl rfl
      have hc14 := HX.cell 1 4 rfl rfl
      try simp only [List.getElem_toArray, List.getElem_cons_zero, List.getElem_cons_succ] at hc10 hc11 hc12 hc13 hc14
      exact bodyPost_ret (v := .agg #[.int .i64 1, .int .i64 f, .int .i64 o, .int .i64 v, .slice A 0 c]) (by simp [results, Tryz.results92, go_sem, hc10, hc11, hc12, hc13, hc14]) rfl (show RetT _ _ _ _ _ from ⟨TT.mk 1 f o v A c [], rfl, TT.Mem.leaf, hres.out, fun p hp => TT.Bl.leaf, HX.below⟩)
    | true =>
      rcases (show o = 1 ∨ o = 2 ∨ o = 3 ∨ o = 4 ∨ o = 5 ∨ o = 6 by omega) with ho1 | ho2 | ho3 | ho4 | ho5 | ho6
      · subst ho1
        have hres := Lib.hid (show (TT.mk 1 f 2 v A c []).tm = Tm.norm (TT.mk 1 f 1 v A c []).tm true by rw [TT.tm_mk, TT.tm_mk, Tm.norm_cmp]; rfl)
        have hc00 := HX.cell 0 0 rfl rfl
        have hc01 := HX.cell 0 1 rfl rfl
        have hc02 := HX.cell 0 2 rfl rfl
        have hc03 := HX.cell 0 3 rfl rfl
        have hc04 := HX.cell 0 4 rfl rfl
        try simp only [List.getElem_toArray, List.getElem_cons_zero, List.getElem_cons_succ] at hc00 hc01 hc02 hc03 hc04
        have xI : ∀ w : World, (Instr.index 234 (.agg #[.int .i64 0, .int .i64 2, .int .i64 1, .int .i64 6, .int .i64 5, .int .i64 4, .int .i64 3]) (.int .i64 1)).run Tryz.prog w = .ok (.int .i64 2) w := fun _ => by kernel_rfl
        have hf02 := HX.free 0 2 rfl
        simp only [] at hf02
        go_upto_region 7 with fail
        have HX7 := HX.putc 0 (g := w.heap.size) (cs := #[.int .i64 1, .int .i64 f, .int .i64 1, .int .i64 v, .slice A 0 c]) rfl (by omega) 2 (by simp) (by intro k q hk hne; match k, hk with | 0, hk => (simp at hk; subst hk; simp at hne ⊢; try omega) | 1, hk => (simp at hk; subst hk; simp at hne ⊢; try omega) | k + 2, hk => simp at hk) (.int .i64 2)
        simp only [List.set_cons_zero] at HX7
        replace HX : BL w (V.setCell ⟨w.heap.size, 2, none⟩ (.int .i64 2)) [(w.heap.size, #[.int .i64 1, .int .i64 f, .int .i64 2, .int .i64 v, .slice A 0 c], 55), (w.heap.size + 1, #[.int .i64 0, .int .i64 0, .int .i64 0, .int .i64 0, .slice none 0 0], 55)] := HX7
        clear HX7 hf02 xI hc00 hc01 hc02 hc03 hc04
        generalize V.setCell ⟨w.heap.size, 2, none⟩ (.int .i64 2) = V9 at *
        have hc00 := HX.cell 0 0 rfl rfl
        have hc01 := HX.cell 0 1 rfl rfl
        have hc02 := HX.cell 0 2 rfl rfl
        have hc03 := HX.cell 0 3 rfl rfl
        have hc04 := HX.cell 0 4 rfl rfl
        try simp only [List.getElem_toArray, List.getElem_cons_zero, List.getElem_cons_succ] at hc00 hc01 hc02 hc03 hc04
        have hc10 := HX.cell 1 0 rfl rfl
        have hc11 := HX.cell 1 1 rfl rfl
        have hc12 := HX.cell 1 2 rfl rfl
        have hc13 := HX.cell 1 3 rfl rfl
        have hc14 := HX.cell 1 4 rfl rfl
        try simp only [List.getElem_toArray, List.getElem_cons_zero, List.getElem_cons_succ] at hc10 hc11 hc12 hc13 hc14
        have hf10 := HX.free 1 0 rfl
        have hf11 := HX.free 1 1 rfl
        have hf12 := HX.free 1 2 rfl
        have hf13 := HX.free 1 3 rfl
        have hf14 := HX.free 1 4 rfl
        try simp only [] at hf10 hf11 hf12 hf13 hf14
        go_wp2
        clear hc10 hc11 hc12 hc13 hc14
        clear hf10 hf11 hf12 hf13 hf14
        have HG := grown_set5 V9 (w.heap.size + 1) (.int .i64 1) (.int .i64 f) (.int .i64 2) (.int .i64 v) (.slice A 0 c)
        replace HX := HX.put5 1 rfl (by omega) (by intro k q hk hne; match k, hk with | 0, hk => (simp at hk; subst hk; simp at hne ⊢; try omega) | 1, hk => (simp at hk; subst hk; simp at hne ⊢; try omega) | k + 2, hk => simp at hk) (.int .i64 1) (.int .i64 f) (.int .i64 2) (.int .i64 v) (.slice A 0 c)
        simp only [List.set_cons_zero, List.set_cons_succ] at HX
        generalize ((((V9.setCell ⟨w.heap.size + 1, 0, none⟩ (.int .i64 1)).setCell ⟨w.heap.size + 1, 1, none⟩ (.int .i64 f)).setCell ⟨w.heap.size + 1, 2, none⟩ (.int .i64 2)).setCell ⟨w.heap.size + 1, 3, none⟩ (.int .i64 v)).setCell ⟨w.heap.size + 1, 4, none⟩ (.slice A 0 c) = Wz at *
        have hc10 := HX.cell 1 0 rfl rfl
        have hc11 := HX.cell 1 1 rfl rfl
        have hc12 := HX.cell 1 2 rfl rfl
        have hc13 := HX.cell 1 3 rfl rfl
        have hc14 := HX.cell 1 4 rfl rfl
        try simp only [List.getElem_toArray, List.getElem_cons_zero, List.getElem_cons_succ] at hc10 hc11 hc12 hc13 hc14
        exact bodyPost_ret (v := .agg #[.int .i64 1, .int .i64 f, .int .i64 2, .int .i64 v, .slice A 0 c]) (by simp [results, Tryz.results92, go_sem, hc10, hc11, hc12, hc13, hc14]) rfl (show RetT _ _ _ _ _ from ⟨TT.mk 1 f 2 v A c [], rfl, TT.Mem.leaf, hres.out, fun p hp => TT.Bl.leaf, HX.below⟩)
      · subst ho2
        have hres := Lib.hid (show (TT.mk 1 f 1 v A c []).tm = Tm.norm (TT.mk 1 f 2 v A c []).tm true by rw [TT.tm_mk, TT.tm_mk, Tm.norm_cmp]; rfl)
        have hc00 := HX.cell 0 0 rfl rfl
        have hc01 := HX.cell 0 1 rfl rfl
        have hc02 := HX.cell 0 2 rfl rfl
        have hc03 := HX.cell 0 3 rfl rfl
        have hc04 := HX.cell 0 4 rfl rfl
        try simp only [List.getElem_toArray, List.getElem_cons_zero, List.getElem_cons_succ] at hc00 hc01 hc02 hc03 hc04
        have xI : ∀ w : World, (Instr.index 234 (.agg #[.int .i64 0, .int .i64 2, .int .i64 1, .int .i64 6, .int .i64 5, .int .i64 4, .int .i64 3]) (.int .i64 2)).run Tryz.prog w = .ok (.int .i64 1) w := fun _ => by kernel_rfl
        have hf02 := HX.free 0 2 rfl
        simp only [] at hf02
        go_upto_region 7 with fail
        have HX7 := HX.putc 0 (g := w.heap.size) (cs := #[.int .i64 1, .int .i64 f, .int .i64 2, .int .i64 v, .slice A 0 c]) rfl (by omega) 2 (by simp) (by intro k q hk hne; match k, hk with | 0, hk => (simp at hk; subst hk; simp at hne ⊢; try omega) | 1, hk => (simp at hk; subst hk; simp at hne ⊢; try omega) | k + 2, hk => simp at hk) (.int .i64 1)
        simp only [List.set_cons_zero] at HX7
        replace HX : BL w (V.setCell ⟨w.heap.size, 2, none⟩ (.int .i64 1)) [(w.heap.size, #[.int .i64 1, .int .i64 f, .int .i64 1, .int .i64 v, .slice A 0 c], 55), (w.heap.size + 1, #[.int .i64 0, .int .i64 0, .int .i64 0, .int .i64 0, .slice none 0 0], 55)] := HX7
        clear HX7 hf02 xI hc00 hc01 hc02 hc03 hc04
        generalize V.setCell ⟨w.heap.size, 2, none⟩ (.int .i64 1) = V9 at *
        have hc00 := HX.cell 0 0 rfl rfl
        have hc01 := HX.cell 0 1 rfl rfl
        have hc02 := HX.cell 0 2 rfl rfl
        have hc03 := HX.cell 0 3 rfl rfl
        have hc04 := HX.cell 0 4 rfl rfl
        try simp only [List.getElem_toArray, List.getElem_cons_zero, List.getElem_cons_succ] at hc00 hc01 hc02 hc03 hc04
        have hc10 := HX.cell 1 0 rfl rfl
        have hc11 := HX.cell 1 1 rfl rfl
        have hc12 := HX.cell 1 2 rfl rfl
        have hc13 := HX.cell 1 3 rfl rfl
        have hc14 := HX.cell 1 4 rfl rfl
        try simp only [List.getElem_toArray, List.getElem_cons_zero, List.getElem_cons_succ] at hc10 hc11 hc12 hc13 hc14
        have hf10 := HX.free 1 0 rfl
        have hf11 := HX.free 1 1 rfl
        have hf12 := HX.free 1 2 rfl
        have hf13 := HX.free 1 3 rfl
        have hf14 := HX.free 1 4 rfl
        try simp only [] at hf10 hf11 hf12 hf13 hf14
        go_wp2
        clear hc10 hc11 hc12 hc13 hc14
        clear hf10 hf11 hf12 hf13 hf14
        have HG := grown_set5 V9 (w.heap.size + 1) (.int .i64 1) (.int .i64 f) (.int .i64 1) (.int .i64 v) (.slice A 0 c)
        replace HX := HX.put5 1 rfl (by omega) (by intro k q hk hne; match k, hk with | 0, hk => (simp at hk; subst hk; simp at hne ⊢; try omega) | 1, hk => (simp at hk; subst hk; simp at hne ⊢; try omega) | k + 2, hk => simp at hk) (.int .i64 1) (.int .i64 f) (.int .i64 1) (.int .i64 v) (.slice A 0 c)
        simp only [List.set_cons_zero, List.set_cons_succ] at HX
        generalize ((((V9.setCell ⟨w.heap.size + 1, 0, none⟩ (.int .i64 1)).setCell ⟨w.heap.size + 1, 1, none⟩ (.int .i64 f)).setCell ⟨w.heap.size + 1, 2, none⟩ (.int .i64 1)).setCell ⟨w.heap.size + 1, 3, none⟩ (.int .i64 v)).setCell ⟨w.heap.size + 1, 4, none⟩ (.slice A 0 c) = Wz at *
        have hc10 := HX.cell 1 0 rfl rfl
        have hc11 := HX.cell 1 1 rfl rfl
        have hc12 := HX.cell 1 2 rfl rfl
        have hc13 := HX.cell 1 3 rfl rfl
        have hc14 := HX.cell 1 4 rfl rfl
        try simp only [List.getElem_toArray, List.getElem_cons_zero, List.getElem_cons_succ] at hc10 hc11 hc12 hc13 hc14
        exact bodyPost_ret (v := .agg #[.int .i64 1, .int .i64 f, .int .i64 1, .int .i64 v, .slice A 0 c]) (by simp [results, Tryz.results92, go_sem, hc10, hc11, hc12, hc13, hc14]) rfl (show RetT _ _ _ _ _ from ⟨TT.mk 1 f 1 v A c [], rfl, TT.Mem.leaf, hres.out, fun p hp => TT.Bl.leaf, HX.below⟩)
      · subst ho3
        have hres := Lib.hid (show (TT.mk 1 f 6 v A c []).tm = Tm.norm (TT.mk 1 f 3 v A c []).tm true by rw [TT.tm_mk, TT.tm_mk, Tm.norm_cmp]; rfl)
        have hc00 := HX.cell 0 0 rfl rfl
        have hc01 := HX.cell 0 1 rfl rfl
        have hc02 := HX.cell 0 2 rfl rfl
        have hc03 := HX.cell 0 3 rfl rfl
        have hc04 := HX.cell 0 4 rfl rfl
        try simp only [List.getElem_toArray, List.getElem_cons_zero, List.getElem_cons_succ] at hc00 hc01 hc02 hc03 hc04
        have xI : ∀ w : World, (Instr.index 234 (.agg #[.int .i64 0, .int .i64 2, .int .i64 1, .int .i64 6, .int .i64 5, .int .i64 4, .int .i64 3]) (.int .i64 3)).run Tryz.prog w = .ok (.int .i64 6) w := fun _ => by kernel_rfl
        have hf02 := HX.free 0 2 rfl
        simp only [] at hf02
        go_upto_region 7 with fail
        have HX7 := HX.putc 0 (g := w.heap.size) (cs := #[.int .i64 1, .int .i64 f, .int .i64 3, .int .i64 v, .slice A 0 c]) rfl (by omega) 2 (by simp) (by intro k q hk hne; match k, hk with | 0, hk => (simp at hk; subst hk; simp at hne ⊢; try omega) | 1, hk => (simp at hk; subst hk; simp at hne ⊢; try omega) | k + 2, hk => simp at hk) (.int .i64 6)
        simp only [List.set_cons_zero] at HX7
        replace HX : BL w (V.setCell ⟨w.heap.size, 2, none⟩ (.int .i64 6)) [(w.heap.size, #[.int .i64 1, .int .i64 f, .int .i64 6, .int .i64 v, .slice A 0 c], 55), (w.heap.size + 1, #[.int .i64 0, .int .i64 0, .int .i64 0, .int .i64 0, .slice none 0 0], 55)] := HX7
        clear HX7 hf02 xI hc00 hc01 hc02 hc03 hc04
        generalize V.setCell ⟨w.heap.size, 2, none⟩ (.int .i64 6) = V9 at *
        have hc00 := HX.cell 0 0 rfl rfl
        have hc01 := HX.cell 0 1 rfl rfl
        have hc02 := HX.cell 0 2 rfl rfl
        have hc03 := HX.cell 0 3 rfl rfl
        have hc04 := HX.cell 0 4 rfl rfl
        try simp only [List.getElem_toArray, List.getElem_cons_zero, List.getElem_cons_succ] at hc00 hc01 hc02 hc03 hc04
        have hc10 := HX.cell 1 0 rfl rfl
        have hc11 := HX.cell 1 1 rfl rfl
        have hc12 := HX.cell 1 2 rfl rfl
        have hc13 := HX.cell 1 3 rfl rfl
        have hc14 := HX.cell 1 4 rfl rfl
        try simp only [List.getElem_toArray, List.getElem_cons_zero, List.getElem_cons_succ] at hc10 hc11 hc12 hc13 hc14
        have hf10 := HX.free 1 0 rfl
        have hf11 := HX.free 1 1 rfl
        have hf12 := HX.free 1 2 rfl
        have hf13 := HX.free 1 3 rfl
        have hf14 := HX.free 1 4 rfl
        try simp only [] at hf10 hf11 hf12 hf13 hf14
        go_wp2
        clear hc10 hc11 hc12 hc13 hc14
        clear hf10 hf11 hf12 hf13 hf14
        have HG := grown_set5 V9 (w.heap.size + 1) (.int .i64 1) (.int .i64 f) (.int .i64 6) (.int .i64 v) (.slice A 0 c)
        replace HX := HX.put5 1 rfl (by omega) (by intro k q hk hne; match k, hk with | 0, hk => (simp at hk; subst hk; simp at hne ⊢; try omega) | 1, hk => (simp at hk; subst hk; simp at hne ⊢; try omega) | k + 2, hk => simp at hk) (.int .i64 1) (.int .i64 f) (.int .i64 6) (.int .i64 v) (.slice A 0 c)
        simp only [List.set_cons_zero, List.set_cons_succ] at HX
        generalize ((((V9.setCell ⟨w.heap.size + 1, 0, none⟩ (.int .i64 1)).setCell ⟨w.heap.size + 1, 1, none⟩ (.int .i64 f)).setCell ⟨w.heap.size + 1, 2, none⟩ (.int .i64 6)).setCell ⟨w.heap.size + 1, 3, none⟩ (.int .i64 v)).setCell ⟨w.heap.size + 1, 4, none⟩ (.slice A 0 c) = Wz at *
        have hc10 := HX.cell 1 0 rfl rfl
        have hc11 := HX.cell 1 1 rfl rfl
        have hc12 := HX.cell 1 2 rfl rfl
        have hc13 := HX.cell 1 3 rfl rfl
        have hc14 := HX.cell 1 4 rfl rfl
        try simp only [List.getElem_toArray, List.getElem_cons_zero, List.getElem_cons_succ] at hc10 hc11 hc12 hc13 hc14
        exact bodyPost_ret (v := .agg #[.int .i64 1, .int .i64 f, .int .i64 6, .int .i64 v, .slice A 0 c]) (by simp [results, Tryz.results92, go_sem, hc10, hc11, hc12, hc13, hc14]) rfl (show RetT _ _ _ _ _ from ⟨TT.mk 1 f 6 v A c [], rfl, TT.Mem.leaf, hres.out, fun p hp => TT.Bl.leaf, HX.below⟩)
      · subst ho4
        have hres := Lib.hid (show (TT.mk 1 f 5 v A c []).tm = Tm.norm (TT.mk 1 f 4 v A c []).tm true by rw [TT.tm_mk, TT.tm_mk, Tm.norm_cmp]; rfl)
        have hc00 := HX.cell 0 0 rfl rfl
        have hc01 := HX.cell 0 1 rfl rfl
        have hc02 := HX.cell 0 2 rfl rfl
        have hc03 := HX.cell 0 3 rfl rfl
        have hc04 := HX.cell 0 4 rfl rfl
        try simp only [List.getElem_toArray, List.getElem_cons_zero, List.getElem_cons_succ] at hc00 hc01 hc02 hc03 hc04
        have xI : ∀ w : World, (Instr.index 234 (.agg #[.int .i64 0, .int .i64 2, .int .i64 1, .int .i64 6, .int .i64 5, .int .i64 4, .int .i64 3]) (.int .i64 4)).run Tryz.prog w = .ok (.int .i64 5) w := fun _ => by kernel_rfl
        have hf02 := HX.free 0 2 rfl
        simp only [] at hf02
        go_upto_region 7 with fail
        have HX7 := HX.putc 0 (g := w.heap.size) (cs := #[.int .i64 1, .int .i64 f, .int .i64 4, .int .i64 v, .slice A 0 c]) rfl (by omega) 2 (by simp) (by intro k q hk hne; match k, hk with | 0, hk => (simp at hk; subst hk; simp at hne ⊢; try omega) | 1, hk => (simp at hk; subst hk; simp at hne ⊢; try omega) | k + 2, hk => simp at hk) (.int .i64 5)
        simp only [List.set_cons_zero] at HX7
        replace HX : BL w (V.setCell ⟨w.heap.size, 2, none⟩ (.int .i64 5)) [(w.heap.size, #[.int .i64 1, .int .i64 f, .int .i64 5, .int .i64 v, .slice A 0 c], 55), (w.heap.size + 1, #[.int .i64 0, .int .i64 0, .int .i64 0, .int .i64 0, .slice none 0 0], 55)] := HX7
        clear HX7 hf02 xI hc00 hc01 hc02 hc03 hc04
        generalize V.setCell ⟨w.heap.size, 2, none⟩ (.int .i64 5) = V9 at *
        have hc00 := HX.cell 0 0 rfl rfl
        have hc01 := HX.cell 0 1 rfl rfl
        have hc02 := HX.cell 0 2 rfl rfl
        have hc03 := HX.cell 0 3 rfl rfl
        have hc04 := HX.cell 0 4 rfl rfl
        try simp only [List.getElem_toArray, List.getElem_cons_zero, List.getElem_cons_succ] at hc00 hc01 hc02 hc03 hc04
        have hc10 := HX.cell 1 0 rfl rfl
        have hc11 := HX.cell 1 1 rfl rfl
        have hc12 := HX.cell 1 2 rfl rfl
        have hc13 := HX.cell 1 3 rfl rfl
        have hc14 := HX.cell 1 4 rfl rfl
        try simp only [List.getElem_toArray, List.getElem_cons_zero, List.getElem_cons_succ] at hc10 hc11 hc12 hc13 hc14
        have hf10 := HX.free 1 0 rfl
        have hf11 := HX.free 1 1 rfl
        have hf12 := HX.free 1 2 rfl
        have hf13 := HX.free 1 3 rfl
        have hf14 := HX.free 1 4 rfl
        try simp only [] at hf10 hf11 hf12 hf13 hf14
        go_wp2
        clear hc10 hc11 hc12 hc13 hc14
        clear hf10 hf11 hf12 hf13 hf14
        have HG := grown_set5 V9 (w.heap.size + 1) (.int .i64 1) (.int .i64 f) (.int .i64 5) (.int .i64 v) (.slice A 0 c)
        replace HX := HX.put5 1 rfl (by omega) (by intro k q hk hne; match k, hk with | 0, hk => (simp at hk; subst hk; simp at hne ⊢; try omega) | 1, hk => (simp at hk; subst hk; simp at hne ⊢; try omega) | k + 2, hk => simp at hk) (.int .i64 1) (.int .i64 f) (.int .i64 5) (.int .i64 v) (.slice A 0 c)
        simp only [List.set_cons_zero, List.set_cons_succ] at HX
        generalize ((((V9.setCell ⟨w.heap.size + 1, 0, none⟩ (.int .i64 1)).setCell ⟨w.heap.size + 1, 1, none⟩ (.int .i64 f)).setCell ⟨w.heap.size + 1, 2, none⟩ (.int .i64 5)).setCell ⟨w.heap.size + 1, 3, none⟩ (.int .i64 v)).setCell ⟨w.heap.size + 1, 4, none⟩ (.slice A 0 c) = Wz at *
        have hc10 := HX.cell 1 0 rfl rfl
        have hc11 := HX.cell 1 1 rfl rfl
        have hc12 := HX.cell 1 2 rfl rfl
        have hc13 := HX.cell 1 3 rfl rfl
        have hc14 := HX.cell 1 4 rfl rfl
        try simp only [List.getElem_toArray, List.getElem_cons_zero, List.getElem_cons_succ] at hc10 hc11 hc12 hc13 hc14
        exact bodyPost_ret (v := .agg #[.int .i64 1, .int .i64 f, .int .i64 5, .int .i64 v, .slice A 0 c]) (by simp [results, Tryz.results92, go_sem, hc10, hc11, hc12, hc13, hc14]) rfl (show RetT _ _ _ _ _ from ⟨TT.mk 1 f 5 v A c [], rfl, TT.Mem.leaf, hres.out, fun p hp => TT.Bl.leaf, HX.below⟩)
      · subst ho5
        have hres := Lib.hid (show (TT.mk 1 f 4 v A c []).tm = Tm.norm (TT.mk 1 f 5 v A c []).tm true by rw [TT.tm_mk, TT.tm_mk, Tm.norm_cmp]; rfl)
        have hc00 := HX.cell 0 0 rfl rfl
        have hc01 := HX.cell 0 1 rfl rfl
        have hc02 := HX.cell 0 2 rfl rfl
        have hc03 := HX.cell 0 3 rfl rfl
        have hc04 := HX.cell 0 4 rfl rfl
        try simp only [List.getElem_toArray, List.getElem_cons_zero, List.getElem_cons_succ] at hc00 hc01 hc02 hc03 hc04
        have xI : ∀ w : World, (Instr.index 234 (.agg #[.int .i64 0, .int .i64 2, .int .i64 1, .int .i64 6, .int .i64 5, .int .i64 4, .int .i64 3]) (.int .i64 5)).run Tryz.prog w = .ok (.int .i64 4) w := fun _ => by kernel_rfl
        have hf02 := HX.free 0 2 rfl
        simp only [] at hf02
        go_upto_region 7 with fail
        have HX7 := HX.putc 0 (g := w.heap.size) (cs := #[.int .i64 1, .int .i64 f, .int .i64 5, .int .i64 v, .slice A 0 c]) rfl (by omega) 2 (by simp) (by intro k q hk hne; match k, hk with | 0, hk => (simp at hk; subst hk; simp at hne ⊢; try omega) | 1, hk => (simp at hk; subst hk; simp at hne ⊢; try omega) | k + 2, hk => simp at hk) (.int .i64 4)
        simp only [List.set_cons_zero] at HX7
        replace HX : BL w (V.setCell ⟨w.heap.size, 2, none⟩ (.int .i64 4)) [(w.heap.size, #[.int .i64 1, .int .i64 f, .int .i64 4, .int .i64 v, .slice A 0 c], 55), (w.heap.size + 1, #[.int .i64 0, .int .i64 0, .int .i64 0, .int .i64 0, .slice none 0 0], 55)] := HX7
        clear HX7 hf02 xI hc00 hc01 hc02 hc03 hc04
        generalize V.setCell ⟨w.heap.size, 2, none⟩ (.int .i64 4) = V9 at *
        have hc00 := HX.cell 0 0 rfl rfl
        have hc01 := HX.cell 0 1 rfl rfl
        have hc02 := HX.cell 0 2 rfl rfl
        have hc03 := HX.cell 0 3 rfl rfl
        have hc04 := HX.cell 0 4 rfl rfl
        try simp only [List.getElem_toArray, List.getElem_cons_zero, List.getElem_cons_succ] at hc00 hc01 hc02 hc03 hc04
        have hc10 := HX.cell 1 0 rfl rfl
        have hc11 := HX.cell 1 1 rfl rfl
        have hc12 := HX.cell 1 2 rfl rfl
        have hc13 := HX.cell 1 3 rfl rfl
        have hc14 := HX.cell 1 4 rfl rfl
        try simp only [List.getElem_toArray, List.getElem_cons_zero, List.getElem_cons_succ] at hc10 hc11 hc12 hc13 hc14
        have hf10 := HX.free 1 0 rfl
        have hf11 := HX.free 1 1 rfl
        have hf12 := HX.free 1 2 rfl
        have hf13 := HX.free 1 3 rfl
        have hf14 := HX.free 1 4 rfl
        try simp only [] at hf10 hf11 hf12 hf13 hf14
        go_wp2
        clear hc10 hc11 hc12 hc13 hc14
        clear hf10 hf11 hf12 hf13 hf14
        have HG := grown_set5 V9 (w.heap.size + 1) (.int .i64 1) (.int .i64 f) (.int .i64 4) (.int .i64 v) (.slice A 0 c)
        replace HX := HX.put5 1 rfl (by omega) (by intro k q hk hne; match k, hk with | 0, hk => (simp at hk; subst hk; simp at hne ⊢; try omega) | 1, hk => (simp at hk; subst hk; simp at hne ⊢; try omega) | k + 2, hk => simp at hk) (.int .i64 1) (.int .i64 f) (.int .i64 4) (.int .i64 v) (.slice A 0 c)
        simp only [List.set_cons_zero, List.set_cons_succ] at HX
        generalize ((((V9.setCell ⟨w.heap.size + 1, 0, none⟩ (.int .i64 1)).setCell ⟨w.heap.size + 1, 1, none⟩ (.int .i64 f)).setCell ⟨w.heap.size + 1, 2, none⟩ (.int .i64 4)).setCell ⟨w.heap.size + 1, 3, none⟩ (.int .i64 v)).setCell ⟨w.heap.size + 1, 4, none⟩ (.slice A 0 c) = Wz at *
        have hc10 := HX.cell 1 0 rfl rfl
        have hc11 := HX.cell 1 1 rfl rfl
        have hc12 := HX.cell 1 2 rfl rfl
        have hc13 := HX.cell 1 3 rfl rfl
        have hc14 := HX.cell 1 4 rfl rfl
        try simp only [List.getElem_toArray, List.getElem_cons_zero, List.getElem_cons_succ] at hc10 hc11 hc12 hc13 hc14
        exact bodyPost_ret (v := .agg #[.int .i64 1, .int .i64 f, .int .i64 4, .int .i64 v, .slice A 0 c]) (by simp [results, Tryz.results92, go_sem, hc10, hc11, hc12, hc13, hc14]) rfl (show RetT _ _ _ _ _ from ⟨TT.mk 1 f 4 v A c [], rfl, TT.Mem.leaf, hres.out, fun p hp => TT.Bl.leaf, HX.below⟩)
      · subst ho6
        have hres := Lib.hid (show (TT.mk 1 f 3 v A c []).tm = Tm.norm (TT.mk 1 f 6 v A c []).tm true by rw [TT.tm_mk, TT.tm_mk, Tm.norm_cmp]; rfl)
        have hc00 := HX.cell 0 0 rfl rfl
        have hc01 := HX.cell 0 1 rfl rfl
        have hc02 := HX.cell 0 2 rfl rfl
        have hc03 := HX.cell 0 3 rfl rfl
        have hc04 := HX.cell 0 4 rfl rfl
        try simp only [List.getElem_toArray, List.getElem_cons_zero, List.getElem_cons_succ] at hc00 hc01 hc02 hc03 hc04
        have xI : ∀ w : World, (Instr.index 234 (.agg #[.int .i64 0, .int .i64 2, .int .i64 1, .int .i64 6, .int .i64 5, .int .i64 4, .int .i64 3]) (.int .i64 6)).run Tryz.prog w = .ok (.int .i64 3) w := fun _ => by kernel_rfl
        have hf02 := HX.free 0 2 rfl
        simp only [] at hf02
        go_upto_region 7 with fail
        have HX7 := HX.putc 0 (g := w.heap.size) (cs := #[.int .i64 1, .int .i64 f, .int .i64 6, .int .i64 v, .slice A 0 c]) rfl (by omega) 2 (by simp) (by intro k q hk hne; match k, hk with | 0, hk => (simp at hk; subst hk; simp at hne ⊢; try omega) | 1, hk => (simp at hk; subst hk; simp at hne ⊢; try omega) | k + 2, hk => simp at hk) (.int .i64 3)
        simp only [List.set_cons_zero] at HX7
        replace HX : BL w (V.setCell ⟨w.heap.size, 2, none⟩ (.int .i64 3)) [(w.heap.size, #[.int .i64 1, .int .i64 f, .int .i64 3, .int .i64 v, .slice A 0 c], 55), (w.heap.size + 1, #[.int .i64 0, .int .i64 0, .int .i64 0, .int .i64 0, .slice none 0 0], 55)] := HX7
        clear HX7 hf02 xI hc00 hc01 hc02 hc03 hc04
        generalize V.setCell ⟨w.heap.size, 2, none⟩ (.int .i64 3) = V9 at *
        have hc00 := HX.cell 0 0 rfl rfl
        have hc01 := HX.cell 0 1 rfl rfl
        have hc02 := HX.cell 0 2 rfl rfl
        have hc03 := HX.cell 0 3 rfl rfl
        have hc04 := HX.cell 0 4 rfl rfl
        try simp only [List.getElem_toArray, List.getElem_cons_zero, List.getElem_cons_succ] at hc00 hc01 hc02 hc03 hc04
        have hc10 := HX.cell 1 0 rfl rfl
        have hc11 := HX.cell 1 1 rfl rfl
        have hc12 := HX.cell 1 2 rfl rfl
        have hc13 := HX.cell 1 3 rfl rfl
        have hc14 := HX.cell 1 4 rfl rfl
        try simp only [List.getElem_toArray, List.getElem_cons_zero, List.getElem_cons_succ] at hc10 hc11 hc12 hc13 hc14
        have hf10 := HX.free 1 0 rfl
        have hf11 := HX.free 1 1 rfl
        have hf12 := HX.free 1 2 rfl
        have hf13 := HX.free 1 3 rfl
        have hf14 := HX.free 1 4 rfl
        try simp only [] at hf10 hf11 hf12 hf13 hf14
        go_wp2
        clear hc10 hc11 hc12 hc13 hc14
        clear hf10 hf11 hf12 hf13 hf14
        have HG := grown_set5 V9 (w.heap.size + 1) (.int .i64 1) (.int .i64 f) (.int .i64 3) (.int .i64 v) (.slice A 0 c)
        replace HX := HX.put5 1 rfl (by omega) (by intro k q hk hne; match k, hk with | 0, hk => (simp at hk; subst hk; simp at hne ⊢; try omega) | 1, hk => (simp at hk; subst hk; simp at hne ⊢; try omega) | k + 2, hk => simp at hk) (.int .i64 1) (.int .i64 f) (.int .i64 3) (.int .i64 v) (.slice A 0 c)
        simp only [List.set_cons_zero, List.set_cons_succ] at HX
        generalize ((((V9.setCell ⟨w.heap.size + 1, 0, none⟩ (.int .i64 1)).setCell ⟨w.heap.size + 1, 1, none⟩ (.int .i64 f)).setCell ⟨w.heap.size + 1, 2, none⟩ (.int .i64 3)).setCell ⟨w.heap.size + 1, 3, none⟩ (.int .i64 v)).setCell ⟨w.heap.size + 1, 4, none⟩ (.slice A 0 c) = Wz at *
        have hc10 := HX.cell 1 0 rfl rfl
        have hc11 := HX.cell 1 1 rfl rfl
        have hc12 := HX.cell 1 2 rfl rfl
        have hc13 := HX.cell 1 3 rfl rfl
        have hc14 := HX.cell 1 4 rfl rfl
        try simp only [List.getElem_toArray, List.getElem_cons_zero, List.getElem_cons_succ] at hc10 hc11 hc12 hc13 hc14
        exact bodyPost_ret (v := .agg #[.int .i64 1, .int .i64 f, .int .i64 3, .int .i64 v, .slice A 0 c]) (by simp [results, Tryz.results92, go_sem, hc10, hc11, hc12, hc13, hc14]) rfl (show RetT _ _ _ _ _ from ⟨TT.mk 1 f 3 v A c [], rfl, TT.Mem.leaf, hres.out, fun p hp => TT.Bl.leaf, HX.below⟩)
  · rw [List.length_map] at h2
    go_enter Tryz.func92, Tryz.ntmps92
    go_upto_region 1 with fail
    generalize (w.alloc (.cells #[.int .i64 k, .int .i64 0, .int .i64 0, .int .i64 0, .slice A ks.length c] 55)).alloc (.cells #[.int .i64 0, .int .i64 0, .int .i64 0, .int .i64 0, .slice none 0 0] 55) = V at *
    rcases hk with rfl | rfl
    · cases turned with
      | false =>
        have hc00 := HX.cell 0 0 rfl rfl
        have hc01 := HX.cell 0 1 rfl rfl
        have hc02 := HX.cell 0 2 rfl rfl
        have hc03 := HX.cell 0 3 rfl rfl
        have hc04 := HX.cell 0 4 rfl rfl
        try simp only [List.getElem_toArray, List.getElem_cons_zero, List.getElem_cons_succ] at hc00 hc01 hc02 hc03 hc04
        have hBy := hB.out
        go_wp2
        go_loopg [6, 37] ks.length (fun g s6 i wr => ∃ (j : Nat) (A8 : Option Addr) (c8 : Nat) (us : List TT), j + g = ks.length ∧ i = .int .i64 (j : Int) ∧ s6 = .slice A8 us.length c8 ∧ TT.TR 55 wr B A8 c8 us ∧ Hid (us.map TT.tm = Tm.normL (TT.pre ks j) false) ∧ Hid (∀ p : Nat → Prop, (∀ x ∈ ks, x.Bl p) → ∀ x ∈ us, x.Bl (fun n => p n ∨ B ≤ n)) ∧ Below B V wr)
        case atStart => exact ⟨0, none, 0, [], by omega, rfl, rfl, TT.TR.nil _ _ _, Lib.hid rfl, Lib.hid (fun p _ x hx => by simp at hx), Below.refl _ _⟩
        case round =>
          obtain ⟨j, A8, c8, us, hj, rfl, rfl, HT, hfl, hbp, hbV⟩ := hrel
          have hBr : B ≤ wr.heap.size := by have := hbV.size; omega
          have HX := HX.low (by omega) (by intro i p hp; match i, hp with | 0, hp => (simp at hp; subst hp; simp; omega) | 1, hp => (simp at hp; subst hp; simp; omega) | i + 2, hp => simp at hp) hbV
          by_cases hjl : j < ks.length
          · obtain ⟨x, hx⟩ : ∃ x, Hid (ks[j]? = some x) := ⟨_, Lib.hid (List.getElem?_eq_getElem hjl)⟩
            have hxm : x ∈ ks := List.mem_of_getElem? hx.out
            have hxM := (HM x hxm).ext HX.below
            have hxL : x.Bl (· < w.heap.size) := (HM x hxm).bl
            obtain ⟨ad, rfl, hadb, e0, e1, e2, e3, e4⟩ := (HK.ext HX.below).at_ hx.out
            have hlu := Lib.hid (show us.length = j by
              have h1 := congrArg List.length hfl.out
              rw [List.length_map, Tm.normL_len, TT.pre, List.length_map, List.length_take] at h1
              omega)
            go_upto_region 15 with fail
            have hb := below_alloc wr (.cells #[.int .i64 x.k, .int .i64 x.f, .int .i64 x.o, .int .i64 x.v, .slice x.A x.ks.length x.c] 55)
            have HXk := BL.one wr #[.int .i64 x.k, .int .i64 x.f, .int .i64 x.o, .int .i64 x.v, .slice x.A x.ks.length x.c] 55
            replace HT := HT.ext hb
            replace hxM := hxM.ext hb
            replace hbV := hbV.trans (hb.mono hBr)
            replace hBr := Nat.le_trans hBr hb.size
            have hsz := hb.size
            clear hb e0 e1 e2 e3 e4 hadb HX
            generalize wr.alloc (.cells #[.int .i64 x.k, .int .i64 x.f, .int .i64 x.o, .int .i64 x.v, .slice x.A x.ks.length x.c] 55) = W1 at *
            generalize wr.heap.size = g1 at *
            have hk0 := HXk.cell 0 0 rfl rfl
            have hk1 := HXk.cell 0 1 rfl rfl
            have hk2 := HXk.cell 0 2 rfl rfl
            have hk3 := HXk.cell 0 3 rfl rfl
            have hk4 := HXk.cell 0 4 rfl rfl
            simp only [List.getElem_toArray, List.getElem_cons_zero, List.getElem_cons_succ] at hk0 hk1 hk2 hk3 hk4
            clear HXk hsz
            have hblk := HT.own.blk
            go_wp2_with fail
            refine (ih x hxm false W1 (hwk.out x hxm) (hsk.out x hxm) hxM).mono ?_
            rintro e w5 ⟨y, he, hym, hyt, hyb, hb5⟩; obtain ⟨ky, fy, oy, vy, Ay, cy, ys⟩ := y; change e = .returned (.agg #[.int .i64 ky, .int .i64 fy, .int .i64 oy, .int .i64 vy, .slice Ay ys.length cy]) at he; subst he
            clear hk0 hk1 hk2 hk3 hk4
            replace HT := HT.ext hb5
            replace hbV := hbV.trans (hb5.mono hBr)
            have hBr5 := Nat.le_trans hBr hb5.size
            have hyF : ∀ ad, A8 = some ad → (TT.mk ky fy oy vy Ay cy ys).Bl (· ≠ ad.block) := fun ad e => (hyb (· < w.heap.size) hxL).mono fun n hn => by have := hblk ad e; show n ≠ ad.block; omega
            have hbp2 := Lib.hid (show ∀ p : Nat → Prop, (∀ x ∈ ks, x.Bl p) → ∀ x ∈ us ++ [(TT.mk ky fy oy vy Ay cy ys)], x.Bl (fun n => p n ∨ B ≤ n) from fun p hp z hz => by
              rcases List.mem_append.1 hz with h | h
              · exact hbp.out p hp z h
              · rw [List.mem_singleton.1 h]
                exact (hyb p (hp x hxm)).mono fun n hn => hn.elim .inl fun h => .inr (by omega))
            have hfl2 := Lib.hid (show (us ++ [(TT.mk ky fy oy vy Ay cy ys)]).map TT.tm = Tm.normL (TT.pre ks (j + 1)) false by
              rw [TT.pre_succ hx.out, Tm.normL_map, List.map_append, List.map_append, ← Tm.normL_map, hfl.out]
              exact congrArg _ (congrArg (fun z => [z]) hyt))
            clear hblk hyb hyt hfl hbp hx
            go_wp2_with (at_builtin; refine TT.wp_tpush Tryz.underlying53 infoT _ rfl _ _ rfl (TT.mk ky fy oy vy Ay cy ys) rfl rfl rfl HT hym hyF rfl (by have := hlu.out; omega) hBr5 ?_; intro A9 c9 w9 HT9 hb9 hs9)
            go_roundg (ks.length - (j + 1))
            case measure => omega
            case rel => exact ⟨j + 1, A9, c9, us ++ [(TT.mk ky fy oy vy Ay cy ys)], by omega, by go_num, by rw [List.length_append]; rfl, HT9, hfl2, hbp2, hbV.trans hb9⟩
          · obtain rfl : j = ks.length := by omega
            rw [TT.pre_all] at hfl
            have hres := Lib.hid (show Tm.joined 2 (us.map TT.tm) = Tm.norm (TT.mk 2 0 0 0 A c ks).tm false by
              rw [hfl.out, TT.tm_mk, Tm.norm, if_neg (by decide), if_neg (by decide)]; rfl)
            have hszl : Tm.sizeL (us.map TT.tm) ≤ 1000000 := by
              rw [hfl.out]
              have h1 := Tm.sizeL_norm false (ks := ks.map TT.tm) (fun t ht => by
                obtain ⟨x, hx, rfl⟩ := List.mem_map.1 ht
                exact (Tm.norm_size _ (hwk.out x hx) _).1)
              have := hskk.out
              omega
            go_wp2_with fail
            refine (qjoined_any 2 A8 c8 us wr HT.reads HT.mem hszl).mono ?_
            rintro e w6 ⟨r, he, hrm, hrt, hrb, hb6⟩; obtain ⟨kr, fr, or, vr, Ar, cr, rs⟩ := r; change e = .returned (.agg #[.int .i64 kr, .int .i64 fr, .int .i64 or, .int .i64 vr, .slice Ar rs.length cr]) at he; subst he
            replace HX := HX.ext hb6
            have hnew : FrT w (TT.mk 2 0 0 0 A c ks) (TT.mk kr fr or vr Ar cr rs) := fun p hp => (hrb _ (hbp.out p (TT.Bl_iff.1 hp).2)).mono fun n hn => by
              rcases hn with (h | h) | h
              · exact .inl h
              · exact .inr (by omega)
              · exact .inr (by omega)
            have hc10 := HX.cell 1 0 rfl rfl
            have hc11 := HX.cell 1 1 rfl rfl
            have hc12 := HX.cell 1 2 rfl rfl
            have hc13 := HX.cell 1 3 rfl rfl
            have hc14 := HX.cell 1 4 rfl rfl
            try simp only [List.getElem_toArray, List.getElem_cons_zero, List.getElem_cons_succ] at hc10 hc11 hc12 hc13 hc14
            have hf10 := HX.free 1 0 rfl
            have hf11 := HX.free 1 1 rfl
            have hf12 := HX.free 1 2 rfl
            have hf13 := HX.free 1 3 rfl
            have hf14 := HX.free 1 4 rfl
            try simp only [] at hf10 hf11 hf12 hf13 hf14
            go_wp2
            clear hc10 hc11 hc12 hc13 hc14
            clear hf10 hf11 hf12 hf13 hf14
            have HG := grown_set5 w6 (w.heap.size + 1) (.int .i64 kr) (.int .i64 fr) (.int .i64 or) (.int .i64 vr) (.slice Ar rs.length cr)
            replace HX := HX.put5 1 rfl (by omega) (by intro k q hk hne; match k, hk with | 0, hk => (simp at hk; subst hk; simp at hne ⊢; try omega) | 1, hk => (simp at hk; subst hk; simp at hne ⊢; try omega) | k + 2, hk => simp at hk) (.int .i64 kr) (.int .i64 fr) (.int .i64 or) (.int .i64 vr) (.slice Ar rs.length cr)
            simp only [List.set_cons_zero, List.set_cons_succ] at HX
            have hr2 := hrm.grown HG ((hrb _ (hbp.out (· < w.heap.size) (fun x hx => (HM x hx).bl))).mono fun n hn => by show n ≠ w.heap.size + 1; omega)
            generalize ((((w6.setCell ⟨w.heap.size + 1, 0, none⟩ (.int .i64 kr)).setCell ⟨w.heap.size + 1, 1, none⟩ (.int .i64 fr)).setCell ⟨w.heap.size + 1, 2, none⟩ (.int .i64 or)).setCell ⟨w.heap.size + 1, 3, none⟩ (.int .i64 vr)).setCell ⟨w.heap.size + 1, 4, none⟩ (.slice Ar rs.length cr) = Wz at *
            have hc10 := HX.cell 1 0 rfl rfl
            have hc11 := HX.cell 1 1 rfl rfl
            have hc12 := HX.cell 1 2 rfl rfl
            have hc13 := HX.cell 1 3 rfl rfl
            have hc14 := HX.cell 1 4 rfl rfl
            try simp only [List.getElem_toArray, List.getElem_cons_zero, List.getElem_cons_succ] at hc10 hc11 hc12 hc13 hc14
            exact bodyPost_ret (v := .agg #[.int .i64 kr, .int .i64 fr, .int .i64 or, .int .i64 vr, .slice Ar rs.length cr]) (by simp [results, Tryz.results92, go_sem, hc10, hc11, hc12, hc13, hc14]) rfl (show RetT _ _ _ _ _ from ⟨(TT.mk kr fr or vr Ar cr rs), rfl, hr2, hrt.trans hres.out, hnew, HX.below⟩)
      | true =>
        have hc00 := HX.cell 0 0 rfl rfl
        have hc01 := HX.cell 0 1 rfl rfl
        have hc02 := HX.cell 0 2 rfl rfl
        have hc03 := HX.cell 0 3 rfl rfl
        have hc04 := HX.cell 0 4 rfl rfl
        try simp only [List.getElem_toArray, List.getElem_cons_zero, List.getElem_cons_succ] at hc00 hc01 hc02 hc03 hc04
        have hBy := hB.out
        go_wp2
        go_loopg [6, 37] ks.length (fun g s6 i wr => ∃ (j : Nat) (A8 : Option Addr) (c8 : Nat) (us : List TT), j + g = ks.length ∧ i = .int .i64 (j : Int) ∧ s6 = .slice A8 us.length c8 ∧ TT.TR 55 wr B A8 c8 us ∧ Hid (us.map TT.tm = Tm.normL (TT.pre ks j) true) ∧ Hid (∀ p : Nat → Prop, (∀ x ∈ ks, x.Bl p) → ∀ x ∈ us, x.Bl (fun n => p n ∨ B ≤ n)) ∧ Below B V wr)
        case atStart => exact ⟨0, none, 0, [], by omega, rfl, rfl, TT.TR.nil _ _ _, Lib.hid rfl, Lib.hid (fun p _ x hx => by simp at hx), Below.refl _ _⟩
        case round =>
          obtain ⟨j, A8, c8, us, hj, rfl, rfl, HT, hfl, hbp, hbV⟩ := hrel
          have hBr : B ≤ wr.heap.size := by have := hbV.size; omega
          have HX := HX.low (by omega) (by intro i p hp; match i, hp with | 0, hp => (simp at hp; subst hp; simp; omega) | 1, hp => (simp at hp; subst hp; simp; omega) | i + 2, hp => simp at hp) hbV
          by_cases hjl : j < ks.length
          · obtain ⟨x, hx⟩ : ∃ x, Hid (ks[j]? = some x) := ⟨_, Lib.hid (List.getElem?_eq_getElem hjl)⟩
            have hxm : x ∈ ks := List.mem_of_getElem? hx.out
            have hxM := (HM x hxm).ext HX.below
            have hxL : x.Bl (· < w.heap.size) := (HM x hxm).bl
            obtain ⟨ad, rfl, hadb, e0, e1, e2, e3, e4⟩ := (HK.ext HX.below).at_ hx.out
            have hlu := Lib.hid (show us.length = j by
              have h1 := congrArg List.length hfl.out
              rw [List.length_map, Tm.normL_len, TT.pre, List.length_map, List.length_take] at h1
              omega)
            go_upto_region 15 with fail
            have hb := below_alloc wr (.cells #[.int .i64 x.k, .int .i64 x.f, .int .i64 x.o, .int .i64 x.v, .slice x.A x.ks.length x.c] 55)
            have HXk := BL.one wr #[.int .i64 x.k, .int .i64 x.f, .int .i64 x.o, .int .i64 x.v, .slice x.A x.ks.length x.c] 55
            replace HT := HT.ext hb
            replace hxM := hxM.ext hb
            replace hbV := hbV.trans (hb.mono hBr)
            replace hBr := Nat.le_trans hBr hb.size
            have hsz := hb.size
            clear hb e0 e1 e2 e3 e4 hadb HX
            generalize wr.alloc (.cells #[.int .i64 x.k, .int .i64 x.f, .int .i64 x.o, .int .i64 x.v, .slice x.A x.ks.length x.c] 55) = W1 at *
            generalize wr.heap.size = g1 at *
            have hk0 := HXk.cell 0 0 rfl rfl
            have hk1 := HXk.cell 0 1 rfl rfl
            have hk2 := HXk.cell 0 2 rfl rfl
            have hk3 := HXk.cell 0 3 rfl rfl
            have hk4 := HXk.cell 0 4 rfl rfl
            simp only [List.getElem_toArray, List.getElem_cons_zero, List.getElem_cons_succ] at hk0 hk1 hk2 hk3 hk4
            clear HXk hsz
            have hblk := HT.own.blk
            go_wp2_with fail
            refine (ih x hxm true W1 (hwk.out x hxm) (hsk.out x hxm) hxM).mono ?_
            rintro e w5 ⟨y, he, hym, hyt, hyb, hb5⟩; obtain ⟨ky, fy, oy, vy, Ay, cy, ys⟩ := y; change e = .returned (.agg #[.int .i64 ky, .int .i64 fy, .int .i64 oy, .int .i64 vy, .slice Ay ys.length cy]) at he; subst he
            clear hk0 hk1 hk2 hk3 hk4
            replace HT := HT.ext hb5
            replace hbV := hbV.trans (hb5.mono hBr)
            have hBr5 := Nat.le_trans hBr hb5.size
            have hyF : ∀ ad, A8 = some ad → (TT.mk ky fy oy vy Ay cy ys).Bl (· ≠ ad.block) := fun ad e => (hyb (· < w.heap.size) hxL).mono fun n hn => by have := hblk ad e; show n ≠ ad.block; omega
            have hbp2 := Lib.hid (show ∀ p : Nat → Prop, (∀ x ∈ ks, x.Bl p) → ∀ x ∈ us ++ [(TT.mk ky fy oy vy Ay cy ys)], x.Bl (fun n => p n ∨ B ≤ n) from fun p hp z hz => by
              rcases List.mem_append.1 hz with h | h
              · exact hbp.out p hp z h
              · rw [List.mem_singleton.1 h]
                exact (hyb p (hp x hxm)).mono fun n hn => hn.elim .inl fun h => .inr (by omega))
            have hfl2 := Lib.hid (show (us ++ [(TT.mk ky fy oy vy Ay cy ys)]).map TT.tm = Tm.normL (TT.pre ks (j + 1)) true by
              rw [TT.pre_succ hx.out, Tm.normL_map, List.map_append, List.map_append, ← Tm.normL_map, hfl.out]
              exact congrArg _ (congrArg (fun z => [z]) hyt))
            clear hblk hyb hyt hfl hbp hx
            go_wp2_with (at_builtin; refine TT.wp_tpush Tryz.underlying53 infoT _ rfl _ _ rfl (TT.mk ky fy oy vy Ay cy ys) rfl rfl rfl HT hym hyF rfl (by have := hlu.out; omega) hBr5 ?_; intro A9 c9 w9 HT9 hb9 hs9)
            go_roundg (ks.length - (j + 1))
            case measure => omega
            case rel => exact ⟨j + 1, A9, c9, us ++ [(TT.mk ky fy oy vy Ay cy ys)], by omega, by go_num, by rw [List.length_append]; rfl, HT9, hfl2, hbp2, hbV.trans hb9⟩
          · obtain rfl : j = ks.length := by omega
            rw [TT.pre_all] at hfl
            have hres := Lib.hid (show Tm.joined 3 (us.map TT.tm) = Tm.norm (TT.mk 2 0 0 0 A c ks).tm true by
              rw [hfl.out, TT.tm_mk, Tm.norm, if_neg (by decide), if_neg (by decide)]; rfl)
            have hszl : Tm.sizeL (us.map TT.tm) ≤ 1000000 := by
              rw [hfl.out]
              have h1 := Tm.sizeL_norm true (ks := ks.map TT.tm) (fun t ht => by
                obtain ⟨x, hx, rfl⟩ := List.mem_map.1 ht
                exact (Tm.norm_size _ (hwk.out x hx) _).1)
              have := hskk.out
              omega
            go_wp2_with fail
            refine (qjoined_any 3 A8 c8 us wr HT.reads HT.mem hszl).mono ?_
            rintro e w6 ⟨r, he, hrm, hrt, hrb, hb6⟩; obtain ⟨kr, fr, or, vr, Ar, cr, rs⟩ := r; change e = .returned (.agg #[.int .i64 kr, .int .i64 fr, .int .i64 or, .int .i64 vr, .slice Ar rs.length cr]) at he; subst he
            replace HX := HX.ext hb6
            have hnew : FrT w (TT.mk 2 0 0 0 A c ks) (TT.mk kr fr or vr Ar cr rs) := fun p hp => (hrb _ (hbp.out p (TT.Bl_iff.1 hp).2)).mono fun n hn => by
              rcases hn with (h | h) | h
              · exact .inl h
              · exact .inr (by omega)
              · exact .inr (by omega)
            have hc10 := HX.cell 1 0 rfl rfl
            have hc11 := HX.cell 1 1 rfl rfl
            have hc12 := HX.cell 1 2 rfl rfl
            have hc13 := HX.cell 1 3 rfl rfl
            have hc14 := HX.cell 1 4 rfl rfl
            try simp only [List.getElem_toArray, List.getElem_cons_zero, List.getElem_cons_succ] at hc10 hc11 hc12 hc13 hc14
            have hf10 := HX.free 1 0 rfl
            have hf11 := HX.free 1 1 rfl
            have hf12 := HX.free 1 2 rfl
            have hf13 := HX.free 1 3 rfl
            have hf14 := HX.free 1 4 rfl
            try simp only [] at hf10 hf11 hf12 hf13 hf14
            go_wp2
            clear hc10 hc11 hc12 hc13 hc14
            clear hf10 hf11 hf12 hf13 hf14
            have HG := grown_set5 w6 (w.heap.size + 1) (.int .i64 kr) (.int .i64 fr) (.int .i64 or) (.int .i64 vr) (.slice Ar rs.length cr)
            replace HX := HX.put5 1 rfl (by omega) (by intro k q hk hne; match k, hk with | 0, hk => (simp at hk; subst hk; simp at hne ⊢; try omega) | 1, hk => (simp at hk; subst hk; simp at hne ⊢; try omega) | k + 2, hk => simp at hk) (.int .i64 kr) (.int .i64 fr) (.int .i64 or) (.int .i64 vr) (.slice Ar rs.length cr)
            simp only [List.set_cons_zero, List.set_cons_succ] at HX
            have hr2 := hrm.grown HG ((hrb _ (hbp.out (· < w.heap.size) (fun x hx => (HM x hx).bl))).mono fun n hn => by show n ≠ w.heap.size + 1; omega)
            generalize ((((w6.setCell ⟨w.heap.size + 1, 0, none⟩ (.int .i64 kr)).setCell ⟨w.heap.size + 1, 1, none⟩ (.int .i64 fr)).setCell ⟨w.heap.size + 1, 2, none⟩ (.int .i64 or)).setCell ⟨w.heap.size + 1, 3, none⟩ (.int .i64 vr)).setCell ⟨w.heap.size + 1, 4, none⟩ (.slice Ar rs.length cr) = Wz at *
            have hc10 := HX.cell 1 0 rfl rfl
            have hc11 := HX.cell 1 1 rfl rfl
            have hc12 := HX.cell 1 2 rfl rfl
            have hc13 := HX.cell 1 3 rfl rfl
            have hc14 := HX.cell 1 4 rfl rfl
            try simp only [List.getElem_toArray, List.getElem_cons_zero, List.getElem_cons_succ] at hc10 hc11 hc12 hc13 hc14
            exact bodyPost_ret (v := .agg #[.int .i64 kr, .int .i64 fr, .int .i64 or, .int .i64 vr, .slice Ar rs.length cr]) (by simp [results, Tryz.results92, go_sem, hc10, hc11, hc12, hc13, hc14]) rfl (show RetT _ _ _ _ _ from ⟨(TT.mk kr fr or vr Ar cr rs), rfl, hr2, hrt.trans hres.out, hnew, HX.below⟩)
    · cases turned with
      | false =>
        have hc00 := HX.cell 0 0 rfl rfl
        have hc01 := HX.cell 0 1 rfl rfl
        have hc02 := HX.cell 0 2 rfl rfl
        have hc03 := HX.cell 0 3 rfl rfl
        have hc04 := HX.cell 0 4 rfl rfl
        try simp only [List.getElem_toArray, List.getElem_cons_zero, List.getElem_cons_succ] at hc00 hc01 hc02 hc03 hc04
        have hBy := hB.out
        go_wp2
        go_loopg [6, 37] ks.length (fun g s6 i wr => ∃ (j : Nat) (A8 : Option Addr) (c8 : Nat) (us : List TT), j + g = ks.length ∧ i = .int .i64 (j : Int) ∧ s6 = .slice A8 us.length c8 ∧ TT.TR 55 wr B A8 c8 us ∧ Hid (us.map TT.tm = Tm.normL (TT.pre ks j) false) ∧ Hid (∀ p : Nat → Prop, (∀ x ∈ ks, x.Bl p) → ∀ x ∈ us, x.Bl (fun n => p n ∨ B ≤ n)) ∧ Below B V wr)
        case atStart => exact ⟨0, none, 0, [], by omega, rfl, rfl, TT.TR.nil _ _ _, Lib.hid rfl, Lib.hid (fun p _ x hx => by simp at hx), Below.refl _ _⟩
        case round =>
          obtain ⟨j, A8, c8, us, hj, rfl, rfl, HT, hfl, hbp, hbV⟩ := hrel
          have hBr : B ≤ wr.heap.size := by have := hbV.size; omega
          have HX := HX.low (by omega) (by intro i p hp; match i, hp with | 0, hp => (simp at hp; subst hp; simp; omega) | 1, hp => (simp at hp; subst hp; simp; omega) | i + 2, hp => simp at hp) hbV
          by_cases hjl : j < ks.length
          · obtain ⟨x, hx⟩ : ∃ x, Hid (ks[j]? = some x) := ⟨_, Lib.hid (List.getElem?_eq_getElem hjl)⟩
            have hxm : x ∈ ks := List.mem_of_getElem? hx.out
            have hxM := (HM x hxm).ext HX.below
            have hxL : x.Bl (· < w.heap.size) := (HM x hxm).bl
            obtain ⟨ad, rfl, hadb, e0, e1, e2, e3, e4⟩ := (HK.ext HX.below).at_ hx.out
            have hlu := Lib.hid (show us.length = j by
              have h1 := congrArg List.length hfl.out
              rw [List.length_map, Tm.normL_len, TT.pre, List.length_map, List.length_take] at h1
              omega)
            go_upto_region 15 with fail
            have hb := below_alloc wr (.cells #[.int .i64 x.k, .int .i64 x.f, .int .i64 x.o, .int .i64 x.v, .slice x.A x.ks.length x.c] 55)
            have HXk := BL.one wr #[.int .i64 x.k, .int .i64 x.f, .int .i64 x.o, .int .i64 x.v, .slice x.A x.ks.length x.c] 55
            replace HT := HT.ext hb
            replace hxM := hxM.ext hb
            replace hbV := hbV.trans (hb.mono hBr)
            replace hBr := Nat.le_trans hBr hb.size
            have hsz := hb.size
            clear hb e0 e1 e2 e3 e4 hadb HX
            generalize wr.alloc (.cells #[.int .i64 x.k, .int .i64 x.f, .int .i64 x.o, .int .i64 x.v, .slice x.A x.ks.length x.c] 55) = W1 at *
            generalize wr.heap.size = g1 at *
            have hk0 := HXk.cell 0 0 rfl rfl
            have hk1 := HXk.cell 0 1 rfl rfl
            have hk2 := HXk.cell 0 2 rfl rfl
            have hk3 := HXk.cell 0 3 rfl rfl
            have hk4 := HXk.cell 0 4 rfl rfl
            simp only [List.getElem_toArray, List.getElem_cons_zero, List.getElem_cons_succ] at hk0 hk1 hk2 hk3 hk4
            clear HXk hsz
            have hblk := HT.own.blk
            go_wp2_with fail
            refine (ih x hxm false W1 (hwk.out x hxm) (hsk.out x hxm) hxM).mono ?_
            rintro e w5 ⟨y, he, hym, hyt, hyb, hb5⟩; obtain ⟨ky, fy, oy, vy, Ay, cy, ys⟩ := y; change e = .returned (.agg #[.int .i64 ky, .int .i64 fy, .int .i64 oy, .int .i64 vy, .slice Ay ys.length cy]) at he; subst he
            clear hk0 hk1 hk2 hk3 hk4
            replace HT := HT.ext hb5
            replace hbV := hbV.trans (hb5.mono hBr)
            have hBr5 := Nat.le_trans hBr hb5.size
            have hyF : ∀ ad, A8 = some ad → (TT.mk ky fy oy vy Ay cy ys).Bl (· ≠ ad.block) := fun ad e => (hyb (· < w.heap.size) hxL).mono fun n hn => by have := hblk ad e; show n ≠ ad.block; omega
            have hbp2 := Lib.hid (show ∀ p : Nat → Prop, (∀ x ∈ ks, x.Bl p) → ∀ x ∈ us ++ [(TT.mk ky fy oy vy Ay cy ys)], x.Bl (fun n => p n ∨ B ≤ n) from fun p hp z hz => by
              rcases List.mem_append.1 hz with h | h
              · exact hbp.out p hp z h
              · rw [List.mem_singleton.1 h]
                exact (hyb p (hp x hxm)).mono fun n hn => hn.elim .inl fun h => .inr (by omega))
            have hfl2 := Lib.hid (show (us ++ [(TT.mk ky fy oy vy Ay cy ys)]).map TT.tm = Tm.normL (TT.pre ks (j + 1)) false by
              rw [TT.pre_succ hx.out, Tm.normL_map, List.map_append, List.map_append, ← Tm.normL_map, hfl.out]
              exact congrArg _ (congrArg (fun z => [z]) hyt))
            clear hblk hyb hyt hfl hbp hx
            go_wp2_with (at_builtin; refine TT.wp_tpush Tryz.underlying53 infoT _ rfl _ _ rfl (TT.mk ky fy oy vy Ay cy ys) rfl rfl rfl HT hym hyF rfl (by have := hlu.out; omega) hBr5 ?_; intro A9 c9 w9 HT9 hb9 hs9)
            go_roundg (ks.length - (j + 1))
            case measure => omega
            case rel => exact ⟨j + 1, A9, c9, us ++ [(TT.mk ky fy oy vy Ay cy ys)], by omega, by go_num, by rw [List.length_append]; rfl, HT9, hfl2, hbp2, hbV.trans hb9⟩
          · obtain rfl : j = ks.length := by omega
            rw [TT.pre_all] at hfl
            have hres := Lib.hid (show Tm.joined 3 (us.map TT.tm) = Tm.norm (TT.mk 3 0 0 0 A c ks).tm false by
              rw [hfl.out, TT.tm_mk, Tm.norm, if_neg (by decide), if_neg (by decide)]; rfl)
            have hszl : Tm.sizeL (us.map TT.tm) ≤ 1000000 := by
              rw [hfl.out]
              have h1 := Tm.sizeL_norm false (ks := ks.map TT.tm) (fun t ht => by
                obtain ⟨x, hx, rfl⟩ := List.mem_map.1 ht
                exact (Tm.norm_size _ (hwk.out x hx) _).1)
              have := hskk.out
              omega
            go_wp2_with fail
            refine (qjoined_any 3 A8 c8 us wr HT.reads HT.mem hszl).mono ?_
            rintro e w6 ⟨r, he, hrm, hrt, hrb, hb6⟩; obtain ⟨kr, fr, or, vr, Ar, cr, rs⟩ := r; change e = .returned (.agg #[.int .i64 kr, .int .i64 fr, .int .i64 or, .int .i64 vr, .slice Ar rs.length cr]) at he; subst he
            replace HX := HX.ext hb6
            have hnew : FrT w (TT.mk 3 0 0 0 A c ks) (TT.mk kr fr or vr Ar cr rs) := fun p hp => (hrb _ (hbp.out p (TT.Bl_iff.1 hp).2)).mono fun n hn => by
              rcases hn with (h | h) | h
              · exact .inl h
              · exact .inr (by omega)
              · exact .inr (by omega)
            have hc10 := HX.cell 1 0 rfl rfl
            have hc11 := HX.cell 1 1 rfl rfl
            have hc12 := HX.cell 1 2 rfl rfl
            have hc13 := HX.cell 1 3 rfl rfl
            have hc14 := HX.cell 1 4 rfl rfl
            try simp only [List.getElem_toArray, List.getElem_cons_zero, List.getElem_cons_succ] at hc10 hc11 hc12 hc13 hc14
            have hf10 := HX.free 1 0 rfl
            have hf11 := HX.free 1 1 rfl
            have hf12 := HX.free 1 2 rfl
            have hf13 := HX.free 1 3 rfl
            have hf14 := HX.free 1 4 rfl
            try simp only [] at hf10 hf11 hf12 hf13 hf14
            go_wp2
            clear hc10 hc11 hc12 hc13 hc14
            clear hf10 hf11 hf12 hf13 hf14
            have HG := grown_set5 w6 (w.heap.size + 1) (.int .i64 kr) (.int .i64 fr) (.int .i64 or) (.int .i64 vr) (.slice Ar rs.length cr)
            replace HX := HX.put5 1 rfl (by omega) (by intro k q hk hne; match k, hk with | 0, hk => (simp at hk; subst hk; simp at hne ⊢; try omega) | 1, hk => (simp at hk; subst hk; simp at hne ⊢; try omega) | k + 2, hk => simp at hk) (.int .i64 kr) (.int .i64 fr) (.int .i64 or) (.int .i64 vr) (.slice Ar rs.length cr)
            simp only [List.set_cons_zero, List.set_cons_succ] at HX
            have hr2 := hrm.grown HG ((hrb _ (hbp.out (· < w.heap.size) (fun x hx => (HM x hx).bl))).mono fun n hn => by show n ≠ w.heap.size + 1; omega)
            generalize ((((w6.setCell ⟨w.heap.size + 1, 0, none⟩ (.int .i64 kr)).setCell ⟨w.heap.size + 1, 1, none⟩ (.int .i64 fr)).setCell ⟨w.heap.size + 1, 2, none⟩ (.int .i64 or)).setCell ⟨w.heap.size + 1, 3, none⟩ (.int .i64 vr)).setCell ⟨w.heap.size + 1, 4, none⟩ (.slice Ar rs.length cr) = Wz at *
            have hc10 := HX.cell 1 0 rfl rfl
            have hc11 := HX.cell 1 1 rfl rfl
            have hc12 := HX.cell 1 2 rfl rfl
            have hc13 := HX.cell 1 3 rfl rfl
            have hc14 := HX.cell 1 4 rfl rfl
            try simp only [List.getElem_toArray, List.getElem_cons_zero, List.getElem_cons_succ] at hc10 hc11 hc12 hc13 hc14
            exact bodyPost_ret (v := .agg #[.int .i64 kr, .int .i64 fr, .int .i64 or, .int .i64 vr, .slice Ar rs.length cr]) (by simp [results, Tryz.results92, go_sem, hc10, hc11, hc12, hc13, hc14]) rfl (show RetT _ _ _ _ _ from ⟨(TT.mk kr fr or vr Ar cr rs), rfl, hr2, hrt.trans hres.out, hnew, HX.below⟩)
      | true =>
        have hc00 := HX.cell 0 0 rfl rfl
        have hc01 := HX.cell 0 1 rfl rfl
        have hc02 := HX.cell 0 2 rfl rfl
        have hc03 := HX.cell 0 3 rfl rfl
        have hc04 := HX.cell 0 4 rfl rfl
        try simp only [List.getElem_toArray, List.getElem_cons_zero, List.getElem_cons_succ] at hc00 hc01 hc02 hc03 hc04
        have hBy := hB.out
        go_wp2
        go_loopg [6, 37] ks.length (fun g s6 i wr => ∃ (j : Nat) (A8 : Option Addr) (c8 : Nat) (us : List TT), j + g = ks.length ∧ i = .int .i64 (j : Int) ∧ s6 = .slice A8 us.length c8 ∧ TT.TR 55 wr B A8 c8 us ∧ Hid (us.map TT.tm = Tm.normL (TT.pre ks j) true) ∧ Hid (∀ p : Nat → Prop, (∀ x ∈ ks, x.Bl p) → ∀ x ∈ us, x.Bl (fun n => p n ∨ B ≤ n)) ∧ Below B V wr)
        case atStart => exact ⟨0, none, 0, [], by omega, rfl, rfl, TT.TR.nil _ _ _, Lib.hid rfl, Lib.hid (fun p _ x hx => by simp at hx), Below.refl _ _⟩
        case round =>
          obtain ⟨j, A8, c8, us, hj, rfl, rfl, HT, hfl, hbp, hbV⟩ := hrel
          have hBr : B ≤ wr.heap.size := by have := hbV.size; omega
          have HX := HX.low (by omega) (by intro i p hp; match i, hp with | 0, hp => (simp at hp; subst hp; simp; omega) | 1, hp => (simp at hp; subst hp; simp; omega) | i + 2, hp => simp at hp) hbV
          by_cases hjl : j < ks.length
          · obtain ⟨x, hx⟩ : ∃ x, Hid (ks[j]? = some x) := ⟨_, Lib.hid (List.getElem?_eq_getElem hjl)⟩
            have hxm : x ∈ ks := List.mem_of_getElem? hx.out
            have hxM := (HM x hxm).ext HX.below
            have hxL : x.Bl (· < w.heap.size) := (HM x hxm).bl
            obtain ⟨ad, rfl, hadb, e0, e1, e2, e3, e4⟩ := (HK.ext HX.below).at_ hx.out
            have hlu := Lib.hid (show us.length = j by
              have h1 := congrArg List.length hfl.out
              rw [List.length_map, Tm.normL_len, TT.pre, List.length_map, List.length_take] at h1
              omega)
            go_upto_region 15 with fail
            have hb := below_alloc wr (.cells #[.int .i64 x.k, .int .i64 x.f, .int .i64 x.o, .int .i64 x.v, .slice x.A x.ks.length x.c] 55)
            have HXk := BL.one wr #[.int .i64 x.k, .int .i64 x.f, .int .i64 x.o, .int .i64 x.v, .slice x.A x.ks.length x.c] 55
            replace HT := HT.ext hb
            replace hxM := hxM.ext hb
            replace hbV := hbV.trans (hb.mono hBr)
            replace hBr := Nat.le_trans hBr hb.size
            have hsz := hb.size
            clear hb e0 e1 e2 e3 e4 hadb HX
            generalize wr.alloc (.cells #[.int .i64 x.k, .int .i64 x.f, .int .i64 x.o, .int .i64 x.v, .slice x.A x.ks.length x.c] 55) = W1 at *
            generalize wr.heap.size = g1 at *
            have hk0 := HXk.cell 0 0 rfl rfl
            have hk1 := HXk.cell 0 1 rfl rfl
            have hk2 := HXk.cell 0 2 rfl rfl
            have hk3 := HXk.cell 0 3 rfl rfl
            have hk4 := HXk.cell 0 4 rfl rfl
            simp only [List.getElem_toArray, List.getElem_cons_zero, List.getElem_cons_succ] at hk0 hk1 hk2 hk3 hk4
            clear HXk hsz
            have hblk := HT.own.blk
            go_wp2_with fail
            refine (ih x hxm true W1 (hwk.out x hxm) (hsk.out x hxm) hxM).mono ?_
            rintro e w5 ⟨y, he, hym, hyt, hyb, hb5⟩; obtain ⟨ky, fy, oy, vy, Ay, cy, ys⟩ := y; change e = .returned (.agg #[.int .i64 ky, .int .i64 fy, .int .i64 oy, .int .i64 vy, .slice Ay ys.length cy]) at he; subst he
            clear hk0 hk1 hk2 hk3 hk4
            replace HT := HT.ext hb5
            replace hbV := hbV.trans (hb5.mono hBr)
            have hBr5 := Nat.le_trans hBr hb5.size
            have hyF : ∀ ad, A8 = some ad → (TT.mk ky fy oy vy Ay cy ys).Bl (· ≠ ad.block) := fun ad e => (hyb (· < w.heap.size) hxL).mono fun n hn => by have := hblk ad e; show n ≠ ad.block; omega
            have hbp2 := Lib.hid (show ∀ p : Nat → Prop, (∀ x ∈ ks, x.Bl p) → ∀ x ∈ us ++ [(TT.mk ky fy oy vy Ay cy ys)], x.Bl (fun n => p n ∨ B ≤ n) from fun p hp z hz => by
              rcases List.mem_append.1 hz with h | h
              · exact hbp.out p hp z h
              · rw [List.mem_singleton.1 h]
                exact (hyb p (hp x hxm)).mono fun n hn => hn.elim .inl fun h => .inr (by omega))
            have hfl2 := Lib.hid (show (us ++ [(TT.mk ky fy oy vy Ay cy ys)]).map TT.tm = Tm.normL (TT.pre ks (j + 1)) true by
              rw [TT.pre_succ hx.out, Tm.normL_map, List.map_append, List.map_append, ← Tm.normL_map, hfl.out]
              exact congrArg _ (congrArg (fun z => [z]) hyt))
            clear hblk hyb hyt hfl hbp hx
            go_wp2_with (at_builtin; refine TT.wp_tpush Tryz.underlying53 infoT _ rfl _ _ rfl (TT.mk ky fy oy vy Ay cy ys) rfl rfl rfl HT hym hyF rfl (by have := hlu.out; omega) hBr5 ?_; intro A9 c9 w9 HT9 hb9 hs9)
            go_roundg (ks.length - (j + 1))
            case measure => omega
            case rel => exact ⟨j + 1, A9, c9, us ++ [(TT.mk ky fy oy vy Ay cy ys)], by omega, by go_num, by rw [List.length_append]; rfl, HT9, hfl2, hbp2, hbV.trans hb9⟩
          · obtain rfl : j = ks.length := by omega
            rw [TT.pre_all] at hfl
            have hres := Lib.hid (show Tm.joined 2 (us.map TT.tm) = Tm.norm (TT.mk 3 0 0 0 A c ks).tm true by
              rw [hfl.out, TT.tm_mk, Tm.norm, if_neg (by decide), if_neg (by decide)]; rfl)
            have hszl : Tm.sizeL (us.map TT.tm) ≤ 1000000 := by
              rw [hfl.out]
              have h1 := Tm.sizeL_norm true (ks := ks.map TT.tm) (fun t ht => by
                obtain ⟨x, hx, rfl⟩ := List.mem_map.1 ht
                exact (Tm.norm_size _ (hwk.out x hx) _).1)
              have := hskk.out
              omega
            go_wp2_with fail
            refine (qjoined_any 2 A8 c8 us wr HT.reads HT.mem hszl).mono ?_
            rintro e w6 ⟨r, he, hrm, hrt, hrb, hb6⟩; obtain ⟨kr, fr, or, vr, Ar, cr, rs⟩ := r; change e = .returned (.agg #[.int .i64 kr, .int .i64 fr, .int .i64 or, .int .i64 vr, .slice Ar rs.length cr]) at he; subst he
            replace HX := HX.ext hb6
            have hnew : FrT w (TT.mk 3 0 0 0 A c ks) (TT.mk kr fr or vr Ar cr rs) := fun p hp => (hrb _ (hbp.out p (TT.Bl_iff.1 hp).2)).mono fun n hn => by
              rcases hn with (h | h) | h
              · exact .inl h
              · exact .inr (by omega)
              · exact .inr (by omega)
            have hc10 := HX.cell 1 0 rfl rfl
            have hc11 := HX.cell 1 1 rfl rfl
            have hc12 := HX.cell 1 2 rfl rfl
            have hc13 := HX.cell 1 3 rfl rfl
            have hc14 := HX.cell 1 4 rfl rfl
            try simp only [List.getElem_toArray, List.getElem_cons_zero, List.getElem_cons_succ] at hc10 hc11 hc12 hc13 hc14
            have hf10 := HX.free 1 0 rfl
            have hf11 := HX.free 1 1 rfl
            have hf12 := HX.free 1 2 rfl
            have hf13 := HX.free 1 3 rfl
            have hf14 := HX.free 1 4 rfl
            try simp only [] at hf10 hf11 hf12 hf13 hf14
            go_wp2
            clear hc10 hc11 hc12 hc13 hc14
            clear hf10 hf11 hf12 hf13 hf14
            have HG := grown_set5 w6 (w.heap.size + 1) (.int .i64 kr) (.int .i64 fr) (.int .i64 or) (.int .i64 vr) (.slice Ar rs.length cr)
            replace HX := HX.put5 1 rfl (by omega) (by intro k q hk hne; match k, hk with | 0, hk => (simp at hk; subst hk; simp at hne ⊢; try omega) | 1, hk => (simp at hk; subst hk; simp at hne ⊢; try omega) | k + 2, hk => simp at hk) (.int .i64 kr) (.int .i64 fr) (.int .i64 or) (.int .i64 vr) (.slice Ar rs.length cr)
            simp only [List.set_cons_zero, List.set_cons_succ] at HX
            have hr2 := hrm.grown HG ((hrb _ (hbp.out (· < w.heap.size) (fun x hx => (HM x hx).bl))).mono fun n hn => by show n ≠ w.heap.size + 1; omega)
            generalize ((((w6.setCell ⟨w.heap.size + 1, 0, none⟩ (.int .i64 kr)).setCell ⟨w.heap.size + 1, 1, none⟩ (.int .i64 fr)).setCell ⟨w.heap.size + 1, 2, none⟩ (.int .i64 or)).setCell ⟨w.heap.size + 1, 3, none⟩ (.int .i64 vr)).setCell ⟨w.heap.size + 1, 4, none⟩ (.slice Ar rs.length cr) = Wz at *
            have hc10 := HX.cell 1 0 rfl rfl
            have hc11 := HX.cell 1 1 rfl rfl
            have hc12 := HX.cell 1 2 rfl rfl
            have hc13 := HX.cell 1 3 rfl rfl
            have hc14 := HX.cell 1 4 rfl rfl
            try simp only [List.getElem_toArray, List.getElem_cons_zero, List.getElem_cons_succ] at hc10 hc11 hc12 hc13 hc14
            exact bodyPost_ret (v := .agg #[.int .i64 kr, .int .i64 fr, .int .i64 or, .int .i64 vr, .slice Ar rs.length cr]) (by simp [results, Tryz.results92, go_sem, hc10, hc11, hc12, hc13, hc14]) rfl (show RetT _ _ _ _ _ from ⟨(TT.mk kr fr or vr Ar cr rs), rfl, hr2, hrt.trans hres.out, hnew, HX.below⟩)
  · rw [List.length_map] at h1
    obtain ⟨x, rfl⟩ := List.length_eq_one_iff.1 h1
    have hxm : x ∈ [x] := List.mem_singleton_self x
    have hxM := (HM x hxm).ext HX.below
    have hxL : x.Bl (· < w.heap.size) := (HM x hxm).bl
    obtain ⟨ad, rfl, hadb, e0, e1, e2, e3, e4⟩ := (HK.ext HX.below).at_ (i := 0) rfl
    rw [Nat.zero_mul, show ad.add 0 = ad from rfl] at e0 e1 e2 e3 e4
    have hres := Lib.hid (show Tm.norm x.tm (!turned) = Tm.norm (TT.mk 4 0 0 0 (some ad) c [x]).tm turned by rw [TT.tm_mk, List.map_cons, List.map_nil, Tm.norm_not])
    go_enter Tryz.func92, Tryz.ntmps92
    go_upto_region 1 with fail
    generalize (w.alloc (.cells #[.int .i64 4, .int .i64 0, .int .i64 0, .int .i64 0, .slice (some ad) [x].length c] 55)).alloc (.cells #[.int .i64 0, .int .i64 0, .int .i64 0, .int .i64 0, .slice none 0 0] 55) = V at *
    simp only [List.length_cons, List.length_nil, Nat.zero_add] at HX
    have hc00 := HX.cell 0 0 rfl rfl
    have hc01 := HX.cell 0 1 rfl rfl
    have hc02 := HX.cell 0 2 rfl rfl
    have hc03 := HX.cell 0 3 rfl rfl
    have hc04 := HX.cell 0 4 rfl rfl
    try simp only [List.getElem_toArray, List.getElem_cons_zero, List.getElem_cons_succ] at hc00 hc01 hc02 hc03 hc04
    go_wp2_with fail
    refine (ih x hxm (!turned) V (hwk.out x hxm) (hsk.out x hxm) hxM).mono ?_
    rintro e w5 ⟨y, he, hym, hyt, hyb, hb5⟩; obtain ⟨ky, fy, oy, vy, Ay, cy, ys⟩ := y; change e = .returned (.agg #[.int .i64 ky, .int .i64 fy, .int .i64 oy, .int .i64 vy, .slice Ay ys.length cy]) at he; subst he
    clear hc00 hc01 hc02 hc03 hc04
    replace HX := HX.ext hb5
    have hBy := hB.out
    have hnew : FrT w (TT.mk 4 0 0 0 (some ad) c [x]) (TT.mk ky fy oy vy Ay cy ys) := fun p hp => (hyb p ((TT.Bl_iff.1 hp).2 x hxm)).mono fun n hn => hn.elim .inl fun h => .inr (by omega)
    have hc10 := HX.cell 1 0 rfl rfl
    have hc11 := HX.cell 1 1 rfl rfl
    have hc12 := HX.cell 1 2 rfl rfl
    have hc13 := HX.cell 1 3 rfl rfl
    have hc14 := HX.cell 1 4 rfl rfl
    try simp only [List.getElem_toArray, List.getElem_cons_zero, List.getElem_cons_succ] at hc10 hc11 hc12 hc13 hc14
    have hf10 := HX.free 1 0 rfl
    have hf11 := HX.free 1 1 rfl
    have hf12 := HX.free 1 2 rfl
    have hf13 := HX.free 1 3 rfl
    have hf14 := HX.free 1 4 rfl
    try simp only [] at hf10 hf11 hf12 hf13 hf14
    go_wp2
    clear hc10 hc11 hc12 hc13 hc14
    clear hf10 hf11 hf12 hf13 hf14
    have HG := grown_set5 w5 (w.heap.size + 1) (.int .i64 ky) (.int .i64 fy) (.int .i64 oy) (.int .i64 vy) (.slice Ay ys.length cy)
    replace HX := HX.put5 1 rfl (by omega) (by intro k q hk hne; match k, hk with | 0, hk => (simp at hk; subst hk; simp at hne ⊢; try omega) | 1, hk => (simp at hk; subst hk; simp at hne ⊢; try omega) | k + 2, hk => simp at hk) (.int .i64 ky) (.int .i64 fy) (.int .i64 oy) (.int .i64 vy) (.slice Ay ys.length cy)
    simp only [List.set_cons_zero, List.set_cons_succ] at HX
    have hy2 := hym.grown HG ((hyb (· < w.heap.size) hxL).mono fun n hn => by show n ≠ w.heap.size + 1; omega)
    generalize ((((w5.setCell ⟨w.heap.size + 1, 0, none⟩ (.int .i64 ky)).setCell ⟨w.heap.size + 1, 1, none⟩ (.int .i64 fy)).setCell ⟨w.heap.size + 1, 2, none⟩ (.int .i64 oy)).setCell ⟨w.heap.size + 1, 3, none⟩ (.int .i64 vy)).setCell ⟨w.heap.size + 1, 4, none⟩ (.slice Ay ys.length cy) = Wz at *
    have hc10 := HX.cell 1 0 rfl rfl
    have hc11 := HX.cell 1 1 rfl rfl
    have hc12 := HX.cell 1 2 rfl rfl
    have hc13 := HX.cell 1 3 rfl rfl
    have hc14 := HX.cell 1 4 rfl rfl
    try simp only [List.getElem_toArray, List.getElem_cons_zero, List.getElem_cons_succ] at hc10 hc11 hc12 hc13 hc14
    exact bodyPost_ret (v := .agg #[.int .i64 ky, .int .i64 fy, .int .i64 oy, .int .i64 vy, .slice Ay ys.length cy]) (by simp [results, Tryz.results92, go_sem, hc10, hc11, hc12, hc13, hc14]) rfl (show RetT _ _ _ _ _ from ⟨(TT.mk ky fy oy vy Ay cy ys), rfl, hy2, hyt.trans hres.out, hnew, HX.below⟩)
/-- a term and an error are returned -/
def RetTE (w : World) (X : Tm) (E : Int) (e : Ending) (w' : World) : Prop := ∃ t : TT, e = .returned (.tuple #[t.val, .int .i64 E]) ∧ t.Mem w' ∧ t.tm = X ∧ Below w.heap.size w w'
set_option maxHeartbeats 4000000 in
set_option maxRecDepth 100000 in
theorem qneg_any {X : Tm} {E : Int} (t : TT) (w : World) (HM : t.Mem w) (hX : Hid ((t.tm.Ok ∧ t.tm.norm true = X ∧ E = 0) ∨ (¬ t.tm.Ok ∧ X = .mk 0 0 0 0 [] ∧ E = 1))) : Calls Tryz.prog 27 #[t.val] w (RetTE w X E) := by
  have HX := BL.two w #[.int .i64 t.k, .int .i64 t.f, .int .i64 t.o, .int .i64 t.v, .slice t.A t.ks.length t.c] #[.int .i64 0, .int .i64 0, .int .i64 0, .int .i64 0, .slice none 0 0] 55 55
  have htl := HM.bl
  replace HM := TT.Mem.ext HX.below HM
  obtain ⟨B, hB⟩ : ∃ B, Hid (((w.alloc (.cells #[.int .i64 t.k, .int .i64 t.f, .int .i64 t.o, .int .i64 t.v, .slice t.A t.ks.length t.c] 55)).alloc (.cells #[.int .i64 0, .int .i64 0, .int .i64 0, .int .i64 0, .slice none 0 0] 55)).heap.size = B) := ⟨_, Lib.hid rfl⟩
  have hB2 : B = w.heap.size + 2 := by rw [← hB.out]; simp
  show Calls _ _ #[.agg #[.int .i64 t.k, .int .i64 t.f, .int .i64 t.o, .int .i64 t.v, .slice t.A t.ks.length t.c]] w _
  go_enter Tryz.func27, Tryz.ntmps27
  go_upto_region 1 with fail
  generalize (w.alloc (.cells #[.int .i64 t.k, .int .i64 t.f, .int .i64 t.o, .int .i64 t.v, .slice t.A t.ks.length t.c] 55)).alloc (.cells #[.int .i64 0, .int .i64 0, .int .i64 0, .int .i64 0, .slice none 0 0] 55) = V at *
  have hc00 := HX.cell 0 0 rfl rfl
  have hc01 := HX.cell 0 1 rfl rfl
  have hc02 := HX.cell 0 2 rfl rfl
  have hc03 := HX.cell 0 3 rfl rfl
  have hc04 := HX.cell 0 4 rfl rfl
  try simp only [List.getElem_toArray, List.getElem_cons_zero, List.getElem_cons_succ] at hc00 hc01 hc02 hc03 hc04
  have hVs : V.heap.size = B := hB.out
  by_cases hv : t.tm.Ok
  · obtain ⟨hx, rfl⟩ : Hid (t.tm.norm true = X) ∧ E = 0 := by
      rcases hX.out with ⟨_, h, k⟩ | ⟨h, _⟩
      · exact ⟨Lib.hid h, k⟩
      · exact absurd hv h
    have hwf := Lib.hid hv.1
    have hsz := hv.2.1
    have hb := yes hv
    clear hv hX
    go_wp2_with fail
    refine (qvalid_any t V HM hb).mono ?_
    rintro e w4 ⟨rfl, hb4⟩
    replace HX := HX.ext hb4
    replace HM := TT.Mem.ext hb4 HM
    have hBs := hb4.size
    clear hb4 hb hc00 hc01 hc02 hc03 hc04
    have hc00 := HX.cell 0 0 rfl rfl
    have hc01 := HX.cell 0 1 rfl rfl
    have hc02 := HX.cell 0 2 rfl rfl
    have hc03 := HX.cell 0 3 rfl rfl
    have hc04 := HX.cell 0 4 rfl rfl
    try simp only [List.getElem_toArray, List.getElem_cons_zero, List.getElem_cons_succ] at hc00 hc01 hc02 hc03 hc04
    go_wp2_with fail
    refine (qnormal_any t true w4 hwf.out (by omega) HM).mono ?_
    rintro e w5 ⟨y, he, hym, hyt, hyb, hb5⟩; obtain ⟨ky, fy, oy, vy, Ay, cy, ys⟩ := y; change e = .returned (.agg #[.int .i64 ky, .int .i64 fy, .int .i64 oy, .int .i64 vy, .slice Ay ys.length cy]) at he; subst he
    replace HX := HX.ext hb5
    clear hc00 hc01 hc02 hc03 hc04
    have hres := Lib.hid (hyt.trans hx.out)
    have hc10 := HX.cell 1 0 rfl rfl
    have hc11 := HX.cell 1 1 rfl rfl
    have hc12 := HX.cell 1 2 rfl rfl
    have hc13 := HX.cell 1 3 rfl rfl
    have hc14 := HX.cell 1 4 rfl rfl
    try simp only [List.getElem_toArray, List.getElem_cons_zero, List.getElem_cons_succ] at hc10 hc11 hc12 hc13 hc14
    have hf10 := HX.free 1 0 rfl
    have hf11 := HX.free 1 1 rfl
    have hf12 := HX.free 1 2 rfl
    have hf13 := HX.free 1 3 rfl
    have hf14 := HX.free 1 4 rfl
    try simp only [] at hf10 hf11 hf12 hf13 hf14
    go_wp2
    clear hc10 hc11 hc12 hc13 hc14
    clear hf10 hf11 hf12 hf13 hf14
    have HG := grown_set5 w5 (w.heap.size + 1) (.int .i64 ky) (.int .i64 fy) (.int .i64 oy) (.int .i64 vy) (.slice Ay ys.length cy)
    replace HX := HX.put5 1 rfl (by omega) (by intro k q hk hne; match k, hk with | 0, hk => (simp at hk; subst hk; simp at hne ⊢; try omega) | 1, hk => (simp at hk; subst hk; simp at hne ⊢; try omega) | k + 2, hk => simp at hk) (.int .i64 ky) (.int .i64 fy) (.int .i64 oy) (.int .i64 vy) (.slice Ay ys.length cy)
    simp only [List.set_cons_zero, List.set_cons_succ] at HX
    have hy2 := hym.grown HG ((hyb (· < w.heap.size) htl).mono fun n hn => by show n ≠ w.heap.size + 1; omega)
    generalize ((((w5.setCell ⟨w.heap.size + 1, 0, none⟩ (.int .i64 ky)).setCell ⟨w.heap.size + 1, 1, none⟩ (.int .i64 fy)).setCell ⟨w.heap.size + 1, 2, none⟩ (.int .i64 oy)).setCell ⟨w.heap.size + 1, 3, none⟩ (.int .i64 vy)).setCell ⟨w.heap.size + 1, 4, none⟩ (.slice Ay ys.length cy) = Wz at *
    have hc10 := HX.cell 1 0 rfl rfl
    have hc11 := HX.cell 1 1 rfl rfl
    have hc12 := HX.cell 1 2 rfl rfl
    have hc13 := HX.cell 1 3 rfl rfl
    have hc14 := HX.cell 1 4 rfl rfl
    try simp only [List.getElem_toArray, List.getElem_cons_zero, List.getElem_cons_succ] at hc10 hc11 hc12 hc13 hc14
    exact bodyPost_ret (v := .tuple #[.agg #[.int .i64 ky, .int .i64 fy, .int .i64 oy, .int .i64 vy, .slice Ay ys.length cy], .int .i64 0]) (by simp [results, Tryz.results27, go_sem, hc10, hc11, hc12, hc13, hc14]) rfl (show RetTE _ _ _ _ _ from ⟨(TT.mk ky fy oy vy Ay cy ys), rfl, hy2, hres.out, HX.below⟩)
  · obtain ⟨rfl, rfl⟩ : X = .mk 0 0 0 0 [] ∧ E = 1 := by
      rcases hX.out with ⟨h, _⟩ | ⟨_, h⟩
      · exact absurd h hv
      · exact h
    have hb := no hv
    clear hv hX
    have hres := Lib.hid (show (TT.mk 0 0 0 0 none 0 []).tm = .mk 0 0 0 0 [] from rfl)
    go_wp2_with fail
    refine (qvalid_any t V HM hb).mono ?_
    rintro e w4 ⟨rfl, hb4⟩
    replace HX := HX.ext hb4
    clear hb4 hb hc00 hc01 hc02 hc03 hc04
    have hc10 := HX.cell 1 0 rfl rfl
    have hc11 := HX.cell 1 1 rfl rfl
    have hc12 := HX.cell 1 2 rfl rfl
    have hc13 := HX.cell 1 3 rfl rfl
    have hc14 := HX.cell 1 4 rfl rfl
    try simp only [List.getElem_toArray, List.getElem_cons_zero, List.getElem_cons_succ] at hc10 hc11 hc12 hc13 hc14
    have hf10 := HX.free 1 0 rfl
    have hf11 := HX.free 1 1 rfl
    have hf12 := HX.free 1 2 rfl
    have hf13 := HX.free 1 3 rfl
    have hf14 := HX.free 1 4 rfl
    try simp only [] at hf10 hf11 hf12 hf13 hf14
    go_wp2
    clear hc10 hc11 hc12 hc13 hc14
    clear hf10 hf11 hf12 hf13 hf14
    have HG := grown_set5 w4 (w.heap.size + 1) (.int .i64 0) (.int .i64 0) (.int .i64 0) (.int .i64 0) (.slice none 0 0)
    replace HX := HX.put5 1 rfl (by omega) (by intro k q hk hne; match k, hk with | 0, hk => (simp at hk; subst hk; simp at hne ⊢; try omega) | 1, hk => (simp at hk; subst hk; simp at hne ⊢; try omega) | k + 2, hk => simp at hk) (.int .i64 0) (.int .i64 0) (.int .i64 0) (.int .i64 0) (.slice none 0 0)
    simp only [List.set_cons_zero, List.set_cons_succ] at HX
    generalize ((((w4.setCell ⟨w.heap.size + 1, 0, none⟩ (.int .i64 0)).setCell ⟨w.heap.size + 1, 1, none⟩ (.int .i64 0)).setCell ⟨w.heap.size + 1, 2, none⟩ (.int .i64 0)).setCell ⟨w.heap.size + 1, 3, none⟩ (.int .i64 0)).setCell ⟨w.heap.size + 1, 4, none⟩ (.slice none 0 0) = Wz at *
    have hc10 := HX.cell 1 0 rfl rfl
    have hc11 := HX.cell 1 1 rfl rfl
    have hc12 := HX.cell 1 2 rfl rfl
    have hc13 := HX.cell 1 3 rfl rfl
    have hc14 := HX.cell 1 4 rfl rfl
    try simp only [List.getElem_toArray, List.getElem_cons_zero, List.getElem_cons_succ] at hc10 hc11 hc12 hc13 hc14
    exact bodyPost_ret (v := .tuple #[.agg #[.int .i64 0, .int .i64 0, .int .i64 0, .int .i64 0, .slice none 0 0], .int .i64 1]) (by simp [results, Tryz.results27, go_sem, hc10, hc11, hc12, hc13, hc14]) rfl (show RetTE _ _ _ _ _ from ⟨TT.mk 0 0 0 0 none 0 [], rfl, TT.Mem.leaf, hres.out, HX.below⟩)
set_option maxHeartbeats 4000000 in
set_option maxRecDepth 100000 in
theorem qnorm_any {X : Tm} {E : Int} (t : TT) (w : World) (HM : t.Mem w) (hX : Hid ((t.tm.Ok ∧ t.tm.norm false = X ∧ E = 0) ∨ (¬ t.tm.Ok ∧ X = .mk 0 0 0 0 [] ∧ E = 1))) : Calls Tryz.prog 95 #[t.val] w (RetTE w X E) := by
  have HX := BL.two w #[.int .i64 t.k, .int .i64 t.f, .int .i64 t.o, .int .i64 t.v, .slice t.A t.ks.length t.c] #[.int .i64 0, .int .i64 0, .int .i64 0, .int .i64 0, .slice none 0 0] 55 55
  have htl := HM.bl
  replace HM := TT.Mem.ext HX.below HM
  obtain ⟨B, hB⟩ : ∃ B, Hid (((w.alloc (.cells #[.int .i64 t.k, .int .i64 t.f, .int .i64 t.o, .int .i64 t.v, .slice t.A t.ks.length t.c] 55)).alloc (.cells #[.int .i64 0, .int .i64 0, .int .i64 0, .int .i64 0, .slice none 0 0] 55)).heap.size = B) := ⟨_, Lib.hid rfl⟩
  have hB2 : B = w.heap.size + 2 := by rw [← hB.out]; simp
  show Calls _ _ #[.agg #[.int .i64 t.k, .int .i64 t.f, .int .i64 t.o, .int .i64 t.v, .slice t.A t.ks.length t.c]] w _
  go_enter Tryz.func95, Tryz.ntmps95
  go_upto_region 1 with fail
  generalize (w.alloc (.cells #[.int .i64 t.k, .int .i64 t.f, .int .i64 t.o, .int .i64 t.v, .slice t.A t.ks.length t.c] 55)).alloc (.cells #[.int .i64 0, .int .i64 0, .int .i64 0, .int .i64 0, .slice none 0 0] 55) = V at *
  have hc00 := HX.cell 0 0 rfl rfl
  have hc01 := HX.cell 0 1 rfl rfl
  have hc02 := HX.cell 0 2 rfl rfl
  have hc03 := HX.cell 0 3 rfl rfl
  have hc04 := HX.cell 0 4 rfl rfl
  try simp only [List.getElem_toArray, List.getElem_cons_zero, List.getElem_cons_succ] at hc00 hc01 hc02 hc03 hc04
  have hVs : V.heap.size = B := hB.out
  by_cases hv : t.tm.Ok
  · obtain ⟨hx, rfl⟩ : Hid (t.tm.norm false = X) ∧ E = 0 := by
      rcases hX.out with ⟨_, h, k⟩ | ⟨h, _⟩
      · exact ⟨Lib.hid h, k⟩
      · exact absurd hv h
    have hwf := Lib.hid hv.1
    have hsz := hv.2.1
    have hb := yes hv
    clear hv hX
    go_wp2_with fail
    refine (qvalid_any t V HM hb).mono ?_
    rintro e w4 ⟨rfl, hb4⟩
    replace HX := HX.ext hb4
    replace HM := TT.Mem.ext hb4 HM
    have hBs := hb4.size
    clear hb4 hb hc00 hc01 hc02 hc03 hc04
    have hc00 := HX.cell 0 0 rfl rfl
    have hc01 := HX.cell 0 1 rfl rfl
    have hc02 := HX.cell 0 2 rfl rfl
    have hc03 := HX.cell 0 3 rfl rfl
    have hc04 := HX.cell 0 4 rfl rfl
    try simp only [List.getElem_toArray, List.getElem_cons_zero, List.getElem_cons_succ] at hc00 hc01 hc02 hc03 hc04
    go_wp2_with fail
    refine (qnormal_any t false w4 hwf.out (by omega) HM).mono ?_
    rintro e w5 ⟨y, he, hym, hyt, hyb, hb5⟩; obtain ⟨ky, fy, oy, vy, Ay, cy, ys⟩ := y; change e = .returned (.agg #[.int .i64 ky, .int .i64 fy, .int .i64 oy, .int .i64 vy, .slice Ay ys.length cy]) at he; subst he
    replace HX := HX.ext hb5
    clear hc00 hc01 hc02 hc03 hc04
    have hres := Lib.hid (hyt.trans hx.out)
    have hc10 := HX.cell 1 0 rfl rfl
    have hc11 := HX.cell 1 1 rfl rfl
    have hc12 := HX.cell 1 2 rfl rfl
    have hc13 := HX.cell 1 3 rfl rfl
    have hc14 := HX.cell 1 4 rfl rfl
    try simp only [List.getElem_toArray, List.getElem_cons_zero, List.getElem_cons_succ] at hc10 hc11 hc12 hc13 hc14
    have hf10 := HX.free 1 0 rfl
    have hf11 := HX.free 1 1 rfl
    have hf12 := HX.free 1 2 rfl
    have hf13 := HX.free 1 3 rfl
    have hf14 := HX.free 1 4 rfl
    try simp only [] at hf10 hf11 hf12 hf13 hf14
    go_wp2
    clear hc10 hc11 hc12 hc13 hc14
    clear hf10 hf11 hf12 hf13 hf14
    have HG := grown_set5 w5 (w.heap.size + 1) (.int .i64 ky) (.int .i64 fy) (.int .i64 oy) (.int .i64 vy) (.slice Ay ys.length cy)
    replace HX := HX.put5 1 rfl (by omega) (by intro k q hk hne; match k, hk with | 0, hk => (simp at hk; subst hk; simp at hne ⊢; try omega) | 1, hk => (simp at hk; subst hk; simp at hne ⊢; try omega) | k + 2, hk => simp at hk) (.int .i64 ky) (.int .i64 fy) (.int .i64 oy) (.int .i64 vy) (.slice Ay ys.length cy)
    simp only [List.set_cons_zero, List.set_cons_succ] at HX
    have hy2 := hym.grown HG ((hyb (· < w.heap.size) htl).mono fun n hn => by show n ≠ w.heap.size + 1; omega)
    generalize ((((w5.setCell ⟨w.heap.size + 1, 0, none⟩ (.int .i64 ky)).setCell ⟨w.heap.size + 1, 1, none⟩ (.int .i64 fy)).setCell ⟨w.heap.size + 1, 2, none⟩ (.int .i64 oy)).setCell ⟨w.heap.size + 1, 3, none⟩ (.int .i64 vy)).setCell ⟨w.heap.size + 1, 4, none⟩ (.slice Ay ys.length cy) = Wz at *
    have hc10 := HX.cell 1 0 rfl rfl
    have hc11 := HX.cell 1 1 rfl rfl
    have hc12 := HX.cell 1 2 rfl rfl
    have hc13 := HX.cell 1 3 rfl rfl
    have hc14 := HX.cell 1 4 rfl rfl
    try simp only [List.getElem_toArray, List.getElem_cons_zero, List.getElem_cons_succ] at hc10 hc11 hc12 hc13 hc14
    exact bodyPost_ret (v := .tuple #[.agg #[.int .i64 ky, .int .i64 fy, .int .i64 oy, .int .i64 vy, .slice Ay ys.length cy], .int .i64 0]) (by simp [results, Tryz.results95, go_sem, hc10, hc11, hc12, hc13, hc14]) rfl (show RetTE _ _ _ _ _ from ⟨(TT.mk ky fy oy vy Ay cy ys), rfl, hy2, hres.out, HX.below⟩)
  · obtain ⟨rfl, rfl⟩ : X = .mk 0 0 0 0 [] ∧ E = 1 := by
      rcases hX.out with ⟨h, _⟩ | ⟨_, h⟩
      · exact absurd h hv
      · exact h
    have hb := no hv
    clear hv hX
    have hres := Lib.hid (show (TT.mk 0 0 0 0 none 0 []).tm = .mk 0 0 0 0 [] from rfl)
    go_wp2_with fail
    refine (qvalid_any t V HM hb).mono ?_
    rintro e w4 ⟨rfl, hb4⟩
    replace HX := HX.ext hb4
    clear hb4 hb hc00 hc01 hc02 hc03 hc04
    have hc10 := HX.cell 1 0 rfl rfl
    have hc11 := HX.cell 1 1 rfl rfl
    have hc12 := HX.cell 1 2 rfl rfl
    have hc13 := HX.cell 1 3 rfl rfl
    have hc14 := HX.cell 1 4 rfl rfl
    try simp only [List.getElem_toArray, List.getElem_cons_zero, List.getElem_cons_succ] at hc10 hc11 hc12 hc13 hc14
    have hf10 := HX.free 1 0 rfl
    have hf11 := HX.free 1 1 rfl
    have hf12 := HX.free 1 2 rfl
    have hf13 := HX.free 1 3 rfl
    have hf14 := HX.free 1 4 rfl
    try simp only [] at hf10 hf11 hf12 hf13 hf14
    go_wp2
    clear hc10 hc11 hc12 hc13 hc14
    clear hf10 hf11 hf12 hf13 hf14
    have HG := grown_set5 w4 (w.heap.size + 1) (.int .i64 0) (.int .i64 0) (.int .i64 0) (.int .i64 0) (.slice none 0 0)
    replace HX := HX.put5 1 rfl (by omega) (by intro k q hk hne; match k, hk with | 0, hk => (simp at hk; subst hk; simp at hne ⊢; try omega) | 1, hk => (simp at hk; subst hk; simp at hne ⊢; try omega) | k + 2, hk => simp at hk) (.int .i64 0) (.int .i64 0) (.int .i64 0) (.int .i64 0) (.slice none 0 0)
    simp only [List.set_cons_zero, List.set_cons_succ] at HX
    generalize ((((w4.setCell ⟨w.heap.size + 1, 0, none⟩ (.int .i64 0)).setCell ⟨w.heap.size + 1, 1, none⟩ (.int .i64 0)).setCell ⟨w.heap.size + 1, 2, none⟩ (.int .i64 0)).setCell ⟨w.heap.size + 1, 3, none⟩ (.int .i64 0)).setCell ⟨w.heap.size + 1, 4, none⟩ (.slice none 0 0) = Wz at *
    have hc10 := HX.cell 1 0 rfl rfl
    have hc11 := HX.cell 1 1 rfl rfl
    have hc12 := HX.cell 1 2 rfl rfl
    have hc13 := HX.cell 1 3 rfl rfl
    have hc14 := HX.cell 1 4 rfl rfl
    try simp only [List.getElem_toArray, List.getElem_cons_zero, List.getElem_cons_succ] at hc10 hc11 hc12 hc13 hc14
    exact bodyPost_ret (v := .tuple #[.agg #[.int .i64 0, .int .i64 0, .int .i64 0, .int .i64 0, .slice none 0 0], .int .i64 1]) (by simp [results, Tryz.results95, go_sem, hc10, hc11, hc12, hc13, hc14]) rfl (show RetTE _ _ _ _ _ from ⟨TT.mk 0 0 0 0 none 0 [], rfl, TT.Mem.leaf, hres.out, HX.below⟩)
end Go.Proofs.YtolkijelldlmeaaGreatDoor

namespace Go.Proofs.YtolkijelldlmeaaGreatDoor
open Go.RowKit Go.Proofs Go

/-- a world with nothing in it -/
def bare (W : World) : World := { W with heap := #[] }
theorem bare_below (W : World) : Below (bare W).heap.size (bare W) W := ⟨rfl, rfl, rfl, Nat.zero_le _, fun i hi => absurd hi (Nat.not_lt_zero i)⟩
theorem BL.bare1 (W : World) {g : Nat} {cs : Array Value} {T : TypeId} (h : W.heap[g]? = some (.cells cs T)) : BL (bare W) W [(g, cs, T)] := ⟨bare_below W, fun i p hp => by
  match i, hp with
  | 0, hp => simp at hp; subst hp; exact h
  | i + 1, hp => simp at hp⟩
theorem blk_grown {W W' : World} {g r : Nat} {o : Obj} (h : W.heap[g]? = some o) (hg : W.grownBy W' (some r)) (hne : g ≠ r) : W'.heap[g]? = some o := by
  rw [hg.block g (Array.getElem?_eq_some_iff.1 h).1 (fun e => hne (Option.some.inj e))]; exact h
theorem blk_below {W W' : World} {g : Nat} {o : Obj} (h : W.heap[g]? = some o) (hb : Below W.heap.size W W') : W'.heap[g]? = some o := by
  rw [hb.block g (Array.getElem?_eq_some_iff.1 h).1]; exact h
/-- the state of a parser -/
structure PSt (w : World) (gp : Nat) (A : Option Addr) (c : Nat) (ws : List Tok) (wr : Bool) : Prop where
  blk : w.heap[gp]? = some (.cells #[.slice A ws.length c, .bool wr] 156)
  ss : Ss w A ws
  cap : ws.length ≤ c
  big : c ≤ 9223372036854775807
  far : 0 < ws.length → ∀ ad, A = some ad → ad.block < gp
  small : ∀ x ∈ ws, x.length ≤ 1000000000
section
variable {w w' : World} {gp c : Nat} {A : Option Addr} {ws : List Tok} {wr : Bool}
theorem PSt.ext (h : PSt w gp A c ws wr) (hb : Below w.heap.size w w') : PSt w' gp A c ws wr := ⟨blk_below h.blk hb, h.ss.ext hb, h.cap, h.big, h.far, h.small⟩
theorem PSt.lt (h : PSt w gp A c ws wr) : gp < w.heap.size := (Array.getElem?_eq_some_iff.1 h.blk).1
theorem PSt.cells (h : PSt w gp A c ws wr) : w.cell? ⟨gp, 0, none⟩ = some (.slice A ws.length c) ∧ w.cell? ⟨gp, 1, none⟩ = some (.bool wr) ∧ w.frozen? ⟨gp, 0, none⟩ = false ∧ w.frozen? ⟨gp, 1, none⟩ = false := by
  have HX := BL.bare1 w h.blk
  exact ⟨HX.cell 0 0 rfl rfl, HX.cell 0 1 rfl rfl, HX.free 0 0 rfl, HX.free 0 1 rfl⟩
theorem Ss.grown {r : Nat} (h : Ss w A ws) (hg : w.grownBy w' (some r)) (hne : 0 < ws.length → ∀ ad, A = some ad → ad.block ≠ r) : Ss w' A ws := fun h0 => by
  obtain ⟨ad, h1, h2, h3⟩ := h h0
  refine ⟨ad, h1, Nat.lt_of_lt_of_le h2 hg.size, fun i x hx => ?_⟩
  have hb := hg.block (ad.add i).block (by rw [addr_add_block]; exact h2) (by rw [addr_add_block]; intro e; injection e with e; exact hne h0 ad h1 e)
  have : w'.cell? (ad.add i) = w.cell? (ad.add i) := by simp only [World.cell?, hb]
  rw [this]; exact h3 i x hx
theorem PSt.low {B : Nat} (h : PSt w gp A c ws wr) (hb : Below B w w') (hB : gp < B) : PSt w' gp A c ws wr := ⟨by rw [hb.block gp hB]; exact h.blk, fun h0 => by
  obtain ⟨ad, h1, h2, h3⟩ := h.ss h0
  have h4 := h.far h0 ad h1
  exact ⟨ad, h1, Nat.lt_of_lt_of_le h2 hb.size, fun i x hx => by rw [hb.cell (by rw [addr_add_block]; omega)]; exact h3 i x hx⟩, h.cap, h.big, h.far, h.small⟩
theorem PSt.grownTo {g : Nat} (h : PSt w gp A c ws wr) (hg : w.grownBy w' (some g)) (hne : gp < g) : PSt w' gp A c ws wr := ⟨blk_grown h.blk hg (Nat.ne_of_lt hne), h.ss.grown hg (fun h0 ad e => by have := h.far h0 ad e; omega), h.cap, h.big, h.far, h.small⟩
/-- the words go on -/
theorem PSt.next (h : PSt w gp A c ws wr) (h0 : 0 < ws.length) : PSt (w.setCell ⟨gp, 0, none⟩ (.slice (if c = 1 then A else A.map (·.add 1)) (ws.length - 1) (c - 1))) gp (if c = 1 then A else A.map (·.add 1)) (c - 1) ws.tail wr := by
  have HX := (BL.bare1 w h.blk).putc 0 (g := gp) (cs := #[.slice A ws.length c, .bool wr]) rfl (Nat.zero_le _) 0 (by simp) (by intro k q hk hne; match k, hk with | 0, hk => exact absurd rfl hne | k + 1, hk => simp at hk) (.slice (if c = 1 then A else A.map (·.add 1)) (ws.length - 1) (c - 1))
  have hb := HX.blk 0 _ rfl
  have hcap := h.cap
  have hbig := h.big
  refine ⟨by rw [List.length_tail]; exact hb, ?_, by rw [List.length_tail]; omega, by omega, fun h1 ad e => ?_, fun x hx => h.small x (List.mem_of_mem_tail hx)⟩
  · rw [← List.drop_one]
    refine Ss.grown (h.ss.drop (by omega) h.cap) (grown_set (grown_refl w _) 0 _) fun h1 ad e => ?_
    rw [List.length_drop] at h1
    rw [if_neg (by omega)] at e
    obtain ⟨a0, ha, rfl⟩ := Option.map_eq_some_iff.1 e
    rw [addr_add_block]
    exact Nat.ne_of_lt (h.far h0 a0 ha)
  · rw [List.length_tail] at h1
    rw [if_neg (by omega)] at e
    obtain ⟨a0, ha, rfl⟩ := Option.map_eq_some_iff.1 e
    rw [addr_add_block]
    exact h.far h0 a0 ha
/-- a mistake -/
theorem PSt.bad (h : PSt w gp A c ws wr) : PSt (w.setCell ⟨gp, 1, none⟩ (.bool true)) gp A c ws true := by
  have HX := (BL.bare1 w h.blk).putc 0 (g := gp) (cs := #[.slice A ws.length c, .bool wr]) rfl (Nat.zero_le _) 1 (by simp) (by intro k q hk hne; match k, hk with | 0, hk => exact absurd rfl hne | k + 1, hk => simp at hk) (.bool true)
  have hb := HX.blk 0 _ rfl
  exact ⟨hb, h.ss.grown (grown_set (grown_refl w _) 1 _) (fun h0 ad e => Nat.ne_of_lt (h.far h0 ad e)), h.cap, h.big, h.far, h.small⟩
end
set_option maxHeartbeats 2000000 in
set_option maxRecDepth 100000 in
theorem qpeek_any {gp c : Nat} {A : Option Addr} {ws : List Tok} {wr : Bool} {s : Tok} (w : World) (H : PSt w gp A c ws wr) (hs : Hid (ws.headD [] = s)) :
    Calls Tryz.prog 185 #[.pointer (some ⟨gp, 0, none⟩)] w fun e w' => e = .returned (.string (str s)) ∧ w' = w := by
  obtain ⟨c0, c1, f0, f1⟩ := H.cells
  cases ws with
  | nil =>
    obtain rfl : s = [] := hs.out.symm
    rw [List.length_nil] at c0
    go_enter Tryz.func185, Tryz.ntmps185
    go_wp2
    go_ret
    exact ⟨rfl, rfl⟩
  | cons x l =>
    obtain rfl : x = s := hs.out
    obtain ⟨ad, rfl, hb, hc⟩ := H.ss (by simp)
    have h0 := hc 0 x rfl
    rw [show ad.add 0 = ad from rfl] at h0
    have ql : (((x :: l).length : Int) == 0) = false := beq_eq_false_iff_ne.2 (by rw [List.length_cons]; omega)
    have hlt : (0 : Int) < ((x :: l).length : Int) := by rw [List.length_cons]; omega
    obtain ⟨n, hn⟩ : ∃ n, Hid ((x :: l).length = n) := ⟨_, Lib.hid rfl⟩
    rw [hn.out] at c0 ql hlt
    clear H hc
    go_enter Tryz.func185, Tryz.ntmps185
    go_wp2
    go_ret
    exact ⟨rfl, rfl⟩
set_option maxHeartbeats 2000000 in
set_option maxRecDepth 100000 in
theorem qtake_any {gp c : Nat} {A : Option Addr} {ws ws' : List Tok} {wr wr' : Bool} {s : Tok} (w : World) (H : PSt w gp A c ws wr) (hs : Hid (ws.headD [] = s)) (hw : Hid (ws.tail = ws')) (hr : Hid ((wr || ws.isEmpty) = wr')) :
    Calls Tryz.prog 186 #[.pointer (some ⟨gp, 0, none⟩)] w fun e w' => ∃ A' c', e = .returned (.string (str s)) ∧ PSt w' gp A' c' ws' wr' ∧ w.grownBy w' (some gp) := by
  have hp := qpeek_any w H hs
  obtain ⟨c0, c1, f0, f1⟩ := H.cells
  by_cases h0 : 0 < ws.length
  · have hN := H.next h0
    have hwr : wr = wr' := by
      rw [← hr.out]
      cases ws with
      | nil => simp at h0
      | cons x l => simp
    subst hwr
    rw [hw.out] at hN
    have ql : ((ws.length : Int) == 0) = false := beq_eq_false_iff_ne.2 (by omega)
    have hl1 : (1 : Int) ≤ (ws.length : Int) := by omega
    have hcap := H.cap
    have hbig := H.big
    obtain ⟨ad, rfl, hb, hc⟩ := H.ss h0
    by_cases hc1 : c = 1
    · subst hc1
      have hn1 : ws.length = 1 := by omega
      rw [hn1] at c0 hN ql hl1
      clear hc
      go_enter Tryz.func186, Tryz.ntmps186
      go_wp2_with fail
      refine hp.mono ?_
      rintro e w' ⟨rfl, rfl⟩
      go_wp2
      go_ret
      exact ⟨_, _, rfl, hN, grown_set (grown_refl _ _) 0 _⟩
    · have hc2 : (c = 1) = False := eq_false hc1
      obtain ⟨n, hn⟩ : ∃ n, Hid (ws.length = n) := ⟨_, Lib.hid rfl⟩
      rw [hn.out] at c0 hN ql hl1 hcap
      rw [if_neg hc1] at hN
      have hnc : ¬ (c : Int) < (n : Int) := by omega
      clear hc
      go_enter Tryz.func186, Tryz.ntmps186
      go_wp2_with fail
      refine hp.mono ?_
      rintro e w' ⟨rfl, rfl⟩
      go_wp2
      go_ret
      exact ⟨_, _, rfl, hN, grown_set (grown_refl _ _) 0 _⟩
  · obtain rfl : ws = [] := List.eq_nil_of_length_eq_zero (by omega)
    obtain rfl : [] = ws' := hw.out
    have hB := H.bad
    obtain rfl : true = wr' := by rw [← hr.out]; simp
    rw [List.length_nil] at c0
    go_enter Tryz.func186, Tryz.ntmps186
    go_wp2_with fail
    refine hp.mono ?_
    rintro e w' ⟨rfl, rfl⟩
    go_wp2
    go_ret
    exact ⟨A, c, rfl, hB, grown_set (grown_refl _ _) 1 _⟩
set_option maxHeartbeats 2000000 in
set_option maxRecDepth 100000 in
theorem index_any {g : Nat} {L : List Tok} {a : Tok} {n : Int} (w : World) (hg : SLit w g ([] :: L)) (hL : L.length ≤ 100) (hn : Hid (Tm.idxE L a = n)) :
    Calls Tryz.prog 316 #[.slice (some ⟨g, 0, none⟩) (L.length + 1) (L.length + 1), .string (str a)] w (RetI w n) := by
  obtain ⟨N, hN⟩ : ∃ N, Hid (L.length + 1 = N) := ⟨_, Lib.hid rfl⟩
  have hNl : N ≤ 101 := by rw [← hN.out]; omega
  rw [hN.out]
  go_enter Tryz.func316, Tryz.ntmps316
  go_wp2
  go_loopg [5, 8] N (fun gk _ i wr => ∃ j : Nat, j + gk = N ∧ i = .int .i64 (j : Int) ∧ Hid (a ∉ ([] :: L).take j) ∧ Below w.heap.size w wr)
  case atStart => exact ⟨0, by omega, rfl, Lib.hid (by simp), Below.refl _ _⟩
  case round =>
    obtain ⟨j, hj, rfl, hq, hbw⟩ := hrel
    by_cases hjl : j < N
    · have hjL : j < ([] :: L : List Tok).length := by rw [List.length_cons, hN.out]; exact hjl
      obtain ⟨x, hx⟩ : ∃ x, Hid (([] :: L : List Tok)[j]? = some x) := ⟨_, Lib.hid (List.getElem?_eq_getElem hjL)⟩
      have e0 := cellup hbw (hg j x hx.out)
      by_cases hax : a = x
      · have hres := Lib.hid (show (j : Int) = n by
          rw [← hn.out, Tm.idxE, if_pos (by rw [hax]; exact List.mem_of_getElem? hx.out)]
          congr 1
          obtain ⟨hi, h2⟩ := List.getElem?_eq_some_iff.1 hx.out
          have h3 : ([] :: L : List Tok) = ([] :: L).take j ++ (a :: ([] :: L).drop (j + 1)) := by
            rw [hax, ← h2, ← List.drop_eq_getElem_cons hi, List.take_append_drop]
          rw [h3, List.idxOf_append, if_neg hq.out, List.idxOf_cons_self, List.length_take]
          omega)
        have hs := str_eq (l := a) (m := x) (b := true) (by rw [hax]; simp)
        subst hax
        go_wp2
        go_ret
        exact ⟨by rw [hres.out]; rfl, hbw⟩
      · have hs := str_eq (l := a) (m := x) (b := false) (beq_eq_false_iff_ne.2 hax)
        have hnext := Lib.hid (show a ∉ ([] :: L : List Tok).take (j + 1) by
          obtain ⟨hi, h2⟩ := List.getElem?_eq_some_iff.1 hx.out
          rw [List.take_succ_eq_append_getElem hi, List.mem_append, h2]
          simp only [List.mem_singleton, not_or]
          exact ⟨hq.out, hax⟩)
        clear hax
        go_wp2
        go_roundg (N - (j + 1))
        case measure => omega
        case rel => exact ⟨j + 1, by omega, by go_num, hnext, hbw⟩
    · obtain rfl : j = N := by omega
      have hres := Lib.hid (show (-1 : Int) = n by
        rw [← hn.out, Tm.idxE, if_neg]
        have h := hq.out
        rwa [List.take_of_length_le (by rw [List.length_cons, hN.out]; exact Nat.le_refl _)] at h)
      go_wp2
      go_ret
      exact ⟨by rw [hres.out]; rfl, hbw⟩
end Go.Proofs.YtolkijelldlmeaaGreatDoor

namespace Go.Proofs.YtolkijelldlmeaaGreatDoor
open Go.RowKit Go.Proofs Go

/-- what the parser's functions return: a term, and the words left -/
def RetQ (w : World) (gp n : Nat) (x : Option (Tm × List Tok)) (e : Ending) (w' : World) : Prop := ∃ (t : TT) (A' : Option Addr) (c' : Nat) (r : List Tok) (wr : Bool), e = .returned t.val ∧ t.Mem w' ∧ t.Bl (w.heap.size ≤ ·) ∧ PSt w' gp A' c' r wr ∧ w.grownBy w' (some gp) ∧ Hid (t.tm.size + 2 * r.length ≤ 2 * n + 1) ∧ Hid ((wr = true ∧ x = none) ∨ (wr = false ∧ x = some (t.tm, r)))
/-- the library's variables, laid before the parser -/
def EnvG (gp : Nat) (w : World) : Prop := ∃ V : World, Env V ∧ V.heap.size ≤ gp ∧ Below V.heap.size V w
theorem EnvG.env {gp : Nat} {w : World} (h : EnvG gp w) : Env w := by
  obtain ⟨V, h1, _, h2⟩ := h
  exact h1.ext h2
theorem EnvG.grown {gp : Nat} {w w' : World} (h : EnvG gp w) (hg : w.grownBy w' (some gp)) : EnvG gp w' := by
  obtain ⟨V, h1, h2, h3⟩ := h
  exact ⟨V, h1, h2, h3.trans (below_of_grown hg h3.size fun k hk => by injection hk with hk; omega)⟩
/-- what lies above a world's memory may change -/
theorem grown_low {w W W' : World} {r g : Nat} (h : w.grownBy W (some r)) (k : W.grownBy W' (some g)) (hg : w.heap.size ≤ g) : w.grownBy W' (some r) :=
  ⟨k.os.trans h.os, k.tape.trans h.tape, k.output.trans h.output, Nat.le_trans h.size k.size, fun i hi hne => (k.block i (Nat.lt_of_lt_of_le hi h.size) (fun e => by injection e with e; omega)).trans (h.block i hi hne)⟩
theorem grown_row {w W W' : World} {r B : Nat} (h : w.grownBy W (some r)) (k : Below B W W') (hg : w.heap.size ≤ B) : w.grownBy W' (some r) :=
  ⟨k.os.trans h.os, k.tape.trans h.tape, k.output.trans h.output, Nat.le_trans h.size k.size, fun i hi hne => (k.block i (by omega)).trans (h.block i hi hne)⟩
theorem blk_low {W W' : World} {g B : Nat} {o : Obj} (h : W.heap[g]? = some o) (hb : Below B W W') (hg : g < B) : W'.heap[g]? = some o := by rw [hb.block g hg]; exact h
set_option maxHeartbeats 8000000 in
set_option maxRecDepth 100000 in
theorem qsum_of {gp : Nat} {ws : List Tok} (hn : ws.length ≤ 2000) (hcal : ∀ (A : Option Addr) (c : Nat) (v : List Tok) (w : World), v.length ≤ ws.length → PSt w gp A c v false → EnvG gp w → Calls Tryz.prog 259 #[.pointer (some ⟨gp, 0, none⟩)] w (RetQ w gp v.length (Tm.itemT false v))) (A : Option Addr) (c : Nat) (w : World) (HP : PSt w gp A c ws false) (HE : EnvG gp w) :
    Calls Tryz.prog 184 #[.pointer (some ⟨gp, 0, none⟩)] w (RetQ w gp ws.length (Tm.listT false ws)) := by
  have hgp := HP.lt
  have hRb0 : (w.alloc (.cells #[.int .i64 0, .int .i64 0, .int .i64 0, .int .i64 0, .slice none 0 0] 55)).heap[w.heap.size]? = some (.cells #[.int .i64 0, .int .i64 0, .int .i64 0, .int .i64 0, .slice none 0 0] 55) := heap_alloc_new w _
  replace HP := HP.ext (below_alloc w (.cells #[.int .i64 0, .int .i64 0, .int .i64 0, .int .i64 0, .slice none 0 0] 55))
  have hg0 : w.grownBy (w.alloc (.cells #[.int .i64 0, .int .i64 0, .int .i64 0, .int .i64 0, .slice none 0 0] 55)) (some gp) := grown_of_below (below_alloc w _) _
  obtain ⟨B, hB⟩ : ∃ B, Hid ((w.alloc (.cells #[.int .i64 0, .int .i64 0, .int .i64 0, .int .i64 0, .slice none 0 0] 55)).heap.size = B) := ⟨_, Lib.hid rfl⟩
  have hB2 : B = w.heap.size + 1 := by rw [← hB.out]; simp
  go_enter Tryz.func184, Tryz.ntmps184
  go_upto_region 1 with fail
  generalize w.alloc (.cells #[.int .i64 0, .int .i64 0, .int .i64 0, .int .i64 0, .slice none 0 0] 55) = W0 at *
  have hW0 := hB.out
  go_wp2_with fail
  refine (hcal A c ws W0 (Nat.le_refl _) HP (HE.grown hg0)).mono ?_
  rintro e w2 ⟨y, A2, c2, r2, wr2, he, hym, hyb, HP2, hg2, hys, hyr⟩
  obtain ⟨ky, fy, oy, vy, Ay, cy, ys⟩ := y
  change e = .returned (.agg #[.int .i64 ky, .int .i64 fy, .int .i64 oy, .int .i64 vy, .slice Ay ys.length cy]) at he
  subst he
  have hT2 := TT.TR.lit w2 (B := B) (by have := hg2.size; omega) 55 (TT.mk ky fy oy vy Ay cy ys) hym #[.int .i64 ky, .int .i64 fy, .int .i64 oy, .int .i64 vy, .slice Ay ys.length cy] rfl
  have hba := below_alloc w2 (.cells #[.int .i64 ky, .int .i64 fy, .int .i64 oy, .int .i64 vy, .slice Ay ys.length cy] 55)
  have HP3 := HP2.ext hba
  have hRb3 := blk_below (blk_grown hRb0 hg2 (by omega)) hba
  have hg3 := grown_below (grown_trans hg0 hg2) hba
  have hs3 : B ≤ (w2.alloc (.cells #[.int .i64 ky, .int .i64 fy, .int .i64 oy, .int .i64 vy, .slice Ay ys.length cy] 55)).heap.size := by have h1 := hg2.size; have h2 := hba.size; omega
  have hbl0 := Lib.hid (show ∀ x ∈ [(TT.mk ky fy oy vy Ay cy ys)], x.Bl (B ≤ ·) from fun x hx => by
    rw [List.mem_singleton.1 hx]
    exact hyb.mono fun n hn => by show B ≤ n; omega)
  have hsz0 := Lib.hid (show Tm.sizeL ([(TT.mk ky fy oy vy Ay cy ys)].map TT.tm) + [(TT.mk ky fy oy vy Ay cy ys)].length + 2 * r2.length ≤ 2 * ws.length + 2 by
    have := hys.out
    rw [List.map_cons, List.map_nil, Tm.sizeL, Tm.sizeL, List.length_singleton]
    omega)
  have hit0 := Lib.hid (show (wr2 = true ∧ Tm.itemsT false ws = none) ∨ (wr2 = false ∧ Tm.itemsT false ws = Tm.contT false ([(TT.mk ky fy oy vy Ay cy ys)].map TT.tm) r2) from by
    rcases hyr.out with ⟨h1, h2⟩ | ⟨h1, h2⟩
    · exact .inl ⟨h1, Tm.items_none h2⟩
    · exact .inr ⟨h1, Tm.items_first h2⟩)
  clear HP HP2 hg0 hg2 hym hyb hys hyr hba hRb0
  go_wp2
  generalize w2.alloc (.cells #[.int .i64 ky, .int .i64 fy, .int .i64 oy, .int .i64 vy, .slice Ay ys.length cy] 55) = W3 at *
  generalize w2.heap.size = g3 at *
  go_loopg [3] r2.length (fun gk p3 wr => ∃ (r : List Tok) (wrong : Bool) (A8 A' : Option Addr) (c8 c' : Nat) (us : List TT), r.length ≤ gk ∧ p3 = .slice A8 us.length c8 ∧ 0 < us.length ∧ TT.TR 55 wr B A8 c8 us ∧ PSt wr gp A' c' r wrong ∧ wr.heap[w.heap.size]? = some (.cells #[.int .i64 0, .int .i64 0, .int .i64 0, .int .i64 0, .slice none 0 0] 55) ∧ w.grownBy wr (some gp) ∧ B ≤ wr.heap.size ∧ Hid (∀ x ∈ us, x.Bl (B ≤ ·)) ∧ Hid (Tm.sizeL (us.map TT.tm) + us.length + 2 * r.length ≤ 2 * ws.length + 2) ∧ Hid ((wrong = true ∧ Tm.itemsT false ws = none) ∨ (wrong = false ∧ Tm.itemsT false ws = Tm.contT false (us.map TT.tm) r)))
  case atStart => exact ⟨r2, wr2, some ⟨g3, 0, none⟩, A2, 1, c2, [(TT.mk ky fy oy vy Ay cy ys)], Nat.le_refl _, rfl, by simp, hT2, HP3, hRb3, hg3, hs3, hbl0, hsz0, hit0⟩
  case round =>
    clear hT2 HP3 hRb3 hg3 hs3 hbl0 hsz0 hit0
    obtain ⟨r, wrong, A8, A', c8, c', us, hrg, rfl, hus, HT, HP, hRb, hgw, hBr, hbl, hsz, hitt⟩ := hrel
    obtain ⟨s, hs⟩ : ∃ s, Hid (r.headD [] = s) := ⟨_, Lib.hid rfl⟩
    have hpk := qpeek_any wr HP hs
    obtain ⟨c0, c1, f0, f1⟩ := HP.cells
    by_cases hsw : s = Tm.word false
    · have hse : ((str s).toList == [97, 110, 100]) = true := by rw [str_toList, hsw]; rfl
      cases wrong with
      | true =>
        have hit := Lib.hid (show Tm.itemsT false ws = none by
          rcases hitt.out with ⟨_, h⟩ | ⟨h, _⟩
          · exact h
          · cases h)
        clear hsw hitt
        go_wp2_with fail
        refine hpk.mono ?_
        rintro e w4 ⟨rfl, hw4⟩
        obtain rfl : wr = w4 := hw4.symm
        go_wp2_with fail
        refine (qjoined_any 2 A8 c8 us wr HT.reads HT.mem (by have h1 := hsz.out; omega)).mono ?_
        rintro e w9 ⟨z, he, hzm, hzt, hzb, hb9⟩; obtain ⟨kz, fz, oz, vz, Az, cz, zs⟩ := z; change e = .returned (.agg #[.int .i64 kz, .int .i64 fz, .int .i64 oz, .int .i64 vz, .slice Az zs.length cz]) at he; subst he
        have hRb9 := blk_below hRb hb9
        have HP9 := HP.ext hb9
        have hgw9 := grown_below hgw hb9
        have HX := BL.bare1 w9 hRb9
        have hc00 := HX.cell 0 0 rfl rfl
        have hc01 := HX.cell 0 1 rfl rfl
        have hc02 := HX.cell 0 2 rfl rfl
        have hc03 := HX.cell 0 3 rfl rfl
        have hc04 := HX.cell 0 4 rfl rfl
        try simp only [List.getElem_toArray, List.getElem_cons_zero, List.getElem_cons_succ] at hc00 hc01 hc02 hc03 hc04
        have hf00 := HX.free 0 0 rfl
        have hf01 := HX.free 0 1 rfl
        have hf02 := HX.free 0 2 rfl
        have hf03 := HX.free 0 3 rfl
        have hf04 := HX.free 0 4 rfl
        try simp only [] at hf00 hf01 hf02 hf03 hf04
        go_wp2
        clear hc00 hc01 hc02 hc03 hc04
        clear hf00 hf01 hf02 hf03 hf04
        have HG := grown_set5 w9 w.heap.size (.int .i64 kz) (.int .i64 fz) (.int .i64 oz) (.int .i64 vz) (.slice Az zs.length cz)
        replace HX := HX.put5 0 rfl (Nat.zero_le _) (by intro k q hk hne; match k, hk with | 0, hk => (simp at hk; subst hk; simp at hne ⊢; try omega) | k + 1, hk => simp at hk) (.int .i64 kz) (.int .i64 fz) (.int .i64 oz) (.int .i64 vz) (.slice Az zs.length cz)
        simp only [List.set_cons_zero] at HX
        have hzB : (TT.mk kz fz oz vz Az cz zs).Bl (B ≤ ·) := (hzb (B ≤ ·) hbl.out).mono fun n hn => by rcases hn with h | h; exact h; omega
        have hz2 := hzm.grown HG (hzB.mono fun n hn => by show n ≠ w.heap.size; omega)
        have hzL : (TT.mk kz fz oz vz Az cz zs).Bl (w.heap.size ≤ ·) := hzB.mono fun n hn => by show w.heap.size ≤ n; omega
        have hPz := HP9.grownTo HG (by omega)
        have hgz := grown_low hgw9 HG (Nat.le_refl _)
        generalize ((((w9.setCell ⟨w.heap.size, 0, none⟩ (.int .i64 kz)).setCell ⟨w.heap.size, 1, none⟩ (.int .i64 fz)).setCell ⟨w.heap.size, 2, none⟩ (.int .i64 oz)).setCell ⟨w.heap.size, 3, none⟩ (.int .i64 vz)).setCell ⟨w.heap.size, 4, none⟩ (.slice Az zs.length cz) = Wz at *
        have hc00 := HX.cell 0 0 rfl rfl
        have hc01 := HX.cell 0 1 rfl rfl
        have hc02 := HX.cell 0 2 rfl rfl
        have hc03 := HX.cell 0 3 rfl rfl
        have hc04 := HX.cell 0 4 rfl rfl
        try simp only [List.getElem_toArray, List.getElem_cons_zero, List.getElem_cons_succ] at hc00 hc01 hc02 hc03 hc04
        have hsize := Lib.hid (show (TT.mk kz fz oz vz Az cz zs).tm.size + 2 * r.length ≤ 2 * ws.length + 1 by
          have h1 := hsz.out
          have h2 := Tm.joined_size 2 (us.map TT.tm)
          rw [hzt]
          by_cases h3 : us.length = 1
          · obtain ⟨y, rfl⟩ := List.length_eq_one_iff.1 h3
            have h4 := h2.2 y.tm rfl
            rw [List.length_singleton] at h1
            rw [List.map_cons, List.map_nil] at h1 h4 ⊢
            omega
          · have h4 := h2.1
            omega)
        have hrel2 := Lib.hid (show (true = true ∧ Tm.listT false ws = none) ∨ (true = false ∧ Tm.listT false ws = some ((TT.mk kz fz oz vz Az cz zs).tm, r)) by
          left
          exact ⟨rfl, by rw [Tm.listT_items false hit.out]; rfl⟩)
        exact bodyPost_ret (v := .agg #[.int .i64 kz, .int .i64 fz, .int .i64 oz, .int .i64 vz, .slice Az zs.length cz]) (by simp [results, Tryz.results184, go_sem, hc00, hc01, hc02, hc03, hc04]) rfl (show RetQ _ _ _ _ _ _ from ⟨(TT.mk kz fz oz vz Az cz zs), A', c', r, true, rfl, hz2, hzL, hPz, hgz, hsize, hrel2⟩)
      | false =>
        have hit := Lib.hid (show Tm.itemsT false ws = Tm.contT false (us.map TT.tm) r by
          rcases hitt.out with ⟨h, _⟩ | ⟨_, h⟩
          · cases h
          · exact h)
        obtain ⟨rt, rfl⟩ : ∃ rt, r = Tm.word false :: rt := by
          have h := hs.out
          cases r with
          | nil => exact absurd (hsw ▸ h).symm (Tm.word_ne _)
          | cons a rt => exact ⟨rt, by rw [show a = s from h, hsw]⟩
        have htk := fun W (h : PSt W gp A' c' (Tm.word false :: rt) false) => qtake_any (s := s) (ws' := rt) (wr' := false) W h hs (Lib.hid rfl) (Lib.hid rfl)
        clear hsw hitt hs
        go_wp2_with fail
        refine hpk.mono ?_
        rintro e w4 ⟨rfl, hw4⟩
        obtain rfl : wr = w4 := hw4.symm
        go_wp2_with fail
        refine (htk _ HP).mono ?_
        rintro e w4 ⟨A4, c4, rfl, HP4, hg4⟩
        clear c0 c1 f0 f1 hpk htk
        have hbn : ∀ x ∈ us, x.Bl (· ≠ gp) := fun x hx => (hbl.out x hx).mono fun n hn => by show n ≠ gp; omega
        have HT4 := HT.grown hg4 (by omega) hbn
        have hRb4 := blk_grown hRb hg4 (by omega)
        have hgw4 := grown_trans hgw hg4
        have hBr4 := Nat.le_trans hBr hg4.size
        go_wp2_with fail
        refine (hcal A4 c4 rt w4 (by have h1 := hsz.out; rw [List.length_cons] at h1; omega) HP4 (HE.grown hgw4)).mono ?_
        rintro e w5 ⟨y, A5, c5, r5, wr5, he, hym, hyb, HP5, hg5, hys, hyr⟩
        obtain ⟨ky, fy, oy, vy, Ay, cy, ys⟩ := y
        change e = .returned (.agg #[.int .i64 ky, .int .i64 fy, .int .i64 oy, .int .i64 vy, .slice Ay ys.length cy]) at he
        subst he
        have hown4 := HT4.own.blk
        have HT5 := HT4.grown hg5 (by omega) hbn
        have hRb5 := blk_grown hRb4 hg5 (by omega)
        have hgw5 := grown_trans hgw4 hg5
        have hBr5 := Nat.le_trans hBr4 hg5.size
        have hyF : ∀ ad, A8 = some ad → (TT.mk ky fy oy vy Ay cy ys).Bl (· ≠ ad.block) := fun ad e => hyb.mono fun n hn => by have := hown4 ad e; show n ≠ ad.block; omega
        have hyB : (TT.mk ky fy oy vy Ay cy ys).Bl (B ≤ ·) := hyb.mono fun n hn => by show B ≤ n; omega
        have hbl2 := Lib.hid (show ∀ x ∈ us ++ [(TT.mk ky fy oy vy Ay cy ys)], x.Bl (B ≤ ·) from fun x hx => by
          rcases List.mem_append.1 hx with h | h
          · exact hbl.out x h
          · rw [List.mem_singleton.1 h]; exact hyB)
        have hsz2 := Lib.hid (show Tm.sizeL ((us ++ [(TT.mk ky fy oy vy Ay cy ys)]).map TT.tm) + (us ++ [(TT.mk ky fy oy vy Ay cy ys)]).length + 2 * r5.length ≤ 2 * ws.length + 2 by
          have h1 := hsz.out
          have h2 := hys.out
          rw [List.length_cons] at h1
          rw [List.map_append, Tm.sizeL_append, List.map_cons, List.map_nil, Tm.sizeL, Tm.sizeL, List.length_append, List.length_singleton]
          omega)
        have hr5 : r5.length ≤ rt.length := by
          have h2 := hys.out
          have h3 := Tm.size_pos (TT.mk ky fy oy vy Ay cy ys).tm
          omega
        have hul : us.length + 1 ≤ 1000000 := by have h1 := hsz.out; omega
        have hit2 := Lib.hid (show (wr5 = true ∧ Tm.itemsT false ws = none) ∨ (wr5 = false ∧ Tm.itemsT false ws = Tm.contT false ((us ++ [(TT.mk ky fy oy vy Ay cy ys)]).map TT.tm) r5) from by
          rcases hyr.out with ⟨h1, h2⟩ | ⟨h1, h2⟩
          · exact .inl ⟨h1, by rw [hit.out, Tm.cont_none h2]⟩
          · exact .inr ⟨h1, by rw [hit.out, Tm.cont_step h2, List.map_append]; rfl⟩)
        clear hit hsz hbl hyr hys
        go_wp2_with (at_builtin; refine TT.wp_tpush Tryz.underlying53 infoT _ rfl _ _ rfl (TT.mk ky fy oy vy Ay cy ys) rfl rfl rfl HT5 hym hyF rfl hul hBr5 ?_; intro A9 c9 w9 HT9 hb9 hs9)
        go_roundg r5.length
        case measure => rw [List.length_cons] at hrg; omega
        case rel => exact ⟨r5, wr5, A9, A5, c9, c5, us ++ [(TT.mk ky fy oy vy Ay cy ys)], Nat.le_refl _, by rw [List.length_append]; rfl, by rw [List.length_append]; omega, HT9, HP5.low hb9 (by omega), blk_low hRb5 hb9 (by omega), grown_row hgw5 hb9 (by omega), by omega, hbl2, hsz2, hit2⟩
    · have hse : ((str s).toList == [97, 110, 100]) = false := by rw [str_toList]; exact beq_eq_false_iff_ne.2 hsw
      cases wrong with
      | true =>
        have hit := Lib.hid (show Tm.itemsT false ws = none by
          rcases hitt.out with ⟨_, h⟩ | ⟨h, _⟩
          · exact h
          · cases h)
        clear hsw hitt
        go_wp2_with fail
        refine hpk.mono ?_
        rintro e w4 ⟨rfl, hw4⟩
        obtain rfl : wr = w4 := hw4.symm
        go_wp2_with fail
        refine (qjoined_any 2 A8 c8 us wr HT.reads HT.mem (by have h1 := hsz.out; omega)).mono ?_
        rintro e w9 ⟨z, he, hzm, hzt, hzb, hb9⟩; obtain ⟨kz, fz, oz, vz, Az, cz, zs⟩ := z; change e = .returned (.agg #[.int .i64 kz, .int .i64 fz, .int .i64 oz, .int .i64 vz, .slice Az zs.length cz]) at he; subst he
        have hRb9 := blk_below hRb hb9
        have HP9 := HP.ext hb9
        have hgw9 := grown_below hgw hb9
        have HX := BL.bare1 w9 hRb9
        have hc00 := HX.cell 0 0 rfl rfl
        have hc01 := HX.cell 0 1 rfl rfl
        have hc02 := HX.cell 0 2 rfl rfl
        have hc03 := HX.cell 0 3 rfl rfl
        have hc04 := HX.cell 0 4 rfl rfl
        try simp only [List.getElem_toArray, List.getElem_cons_zero, List.getElem_cons_succ] at hc00 hc01 hc02 hc03 hc04
        have hf00 := HX.free 0 0 rfl
        have hf01 := HX.free 0 1 rfl
        have hf02 := HX.free 0 2 rfl
        have hf03 := HX.free 0 3 rfl
        have hf04 := HX.free 0 4 rfl
        try simp only [] at hf00 hf01 hf02 hf03 hf04
        go_wp2
        clear hc00 hc01 hc02 hc03 hc04
        clear hf00 hf01 hf02 hf03 hf04
        have HG := grown_set5 w9 w.heap.size (.int .i64 kz) (.int .i64 fz) (.int .i64 oz) (.int .i64 vz) (.slice Az zs.length cz)
        replace HX := HX.put5 0 rfl (Nat.zero_le _) (by intro k q hk hne; match k, hk with | 0, hk => (simp at hk; subst hk; simp at hne ⊢; try omega) | k + 1, hk => simp at hk) (.int .i64 kz) (.int .i64 fz) (.int .i64 oz) (.int .i64 vz) (.slice Az zs.length cz)
        simp only [List.set_cons_zero] at HX
        have hzB : (TT.mk kz fz oz vz Az cz zs).Bl (B ≤ ·) := (hzb (B ≤ ·) hbl.out).mono fun n hn => by rcases hn with h | h; exact h; omega
        have hz2 := hzm.grown HG (hzB.mono fun n hn => by show n ≠ w.heap.size; omega)
        have hzL : (TT.mk kz fz oz vz Az cz zs).Bl (w.heap.size ≤ ·) := hzB.mono fun n hn => by show w.heap.size ≤ n; omega
        have hPz := HP9.grownTo HG (by omega)
        have hgz := grown_low hgw9 HG (Nat.le_refl _)
        generalize ((((w9.setCell ⟨w.heap.size, 0, none⟩ (.int .i64 kz)).setCell ⟨w.heap.size, 1, none⟩ (.int .i64 fz)).setCell ⟨w.heap.size, 2, none⟩ (.int .i64 oz)).setCell ⟨w.heap.size, 3, none⟩ (.int .i64 vz)).setCell ⟨w.heap.size, 4, none⟩ (.slice Az zs.length cz) = Wz at *
        have hc00 := HX.cell 0 0 rfl rfl
        have hc01 := HX.cell 0 1 rfl rfl
        have hc02 := HX.cell 0 2 rfl rfl
        have hc03 := HX.cell 0 3 rfl rfl
        have hc04 := HX.cell 0 4 rfl rfl
        try simp only [List.getElem_toArray, List.getElem_cons_zero, List.getElem_cons_succ] at hc00 hc01 hc02 hc03 hc04
        have hsize := Lib.hid (show (TT.mk kz fz oz vz Az cz zs).tm.size + 2 * r.length ≤ 2 * ws.length + 1 by
          have h1 := hsz.out
          have h2 := Tm.joined_size 2 (us.map TT.tm)
          rw [hzt]
          by_cases h3 : us.length = 1
          · obtain ⟨y, rfl⟩ := List.length_eq_one_iff.1 h3
            have h4 := h2.2 y.tm rfl
            rw [List.length_singleton] at h1
            rw [List.map_cons, List.map_nil] at h1 h4 ⊢
            omega
          · have h4 := h2.1
            omega)
        have hrel2 := Lib.hid (show (true = true ∧ Tm.listT false ws = none) ∨ (true = false ∧ Tm.listT false ws = some ((TT.mk kz fz oz vz Az cz zs).tm, r)) by
          left
          exact ⟨rfl, by rw [Tm.listT_items false hit.out]; rfl⟩)
        exact bodyPost_ret (v := .agg #[.int .i64 kz, .int .i64 fz, .int .i64 oz, .int .i64 vz, .slice Az zs.length cz]) (by simp [results, Tryz.results184, go_sem, hc00, hc01, hc02, hc03, hc04]) rfl (show RetQ _ _ _ _ _ _ from ⟨(TT.mk kz fz oz vz Az cz zs), A', c', r, true, rfl, hz2, hzL, hPz, hgz, hsize, hrel2⟩)
      | false =>
        have hit := Lib.hid (show Tm.itemsT false ws = some (us.map TT.tm, r) by
          rcases hitt.out with ⟨h, _⟩ | ⟨_, h⟩
          · cases h
          · rw [h, Tm.cont_stop (by rw [hs.out]; exact hsw)])
        clear hsw hitt
        go_wp2_with fail
        refine hpk.mono ?_
        rintro e w4 ⟨rfl, hw4⟩
        obtain rfl : wr = w4 := hw4.symm
        go_wp2_with fail
        refine (qjoined_any 2 A8 c8 us wr HT.reads HT.mem (by have h1 := hsz.out; omega)).mono ?_
        rintro e w9 ⟨z, he, hzm, hzt, hzb, hb9⟩; obtain ⟨kz, fz, oz, vz, Az, cz, zs⟩ := z; change e = .returned (.agg #[.int .i64 kz, .int .i64 fz, .int .i64 oz, .int .i64 vz, .slice Az zs.length cz]) at he; subst he
        have hRb9 := blk_below hRb hb9
        have HP9 := HP.ext hb9
        have hgw9 := grown_below hgw hb9
        have HX := BL.bare1 w9 hRb9
        have hc00 := HX.cell 0 0 rfl rfl
        have hc01 := HX.cell 0 1 rfl rfl
        have hc02 := HX.cell 0 2 rfl rfl
        have hc03 := HX.cell 0 3 rfl rfl
        have hc04 := HX.cell 0 4 rfl rfl
        try simp only [List.getElem_toArray, List.getElem_cons_zero, List.getElem_cons_succ] at hc00 hc01 hc02 hc03 hc04
        have hf00 := HX.free 0 0 rfl
        have hf01 := HX.free 0 1 rfl
        have hf02 := HX.free 0 2 rfl
        have hf03 := HX.free 0 3 rfl
        have hf04 := HX.free 0 4 rfl
        try simp only [] at hf00 hf01 hf02 hf03 hf04
        go_wp2
        clear hc00 hc01 hc02 hc03 hc04
        clear hf00 hf01 hf02 hf03 hf04
        have HG := grown_set5 w9 w.heap.size (.int .i64 kz) (.int .i64 fz) (.int .i64 oz) (.int .i64 vz) (.slice Az zs.length cz)
        replace HX := HX.put5 0 rfl (Nat.zero_le _) (by intro k q hk hne; match k, hk with | 0, hk => (simp at hk; subst hk; simp at hne ⊢; try omega) | k + 1, hk => simp at hk) (.int .i64 kz) (.int .i64 fz) (.int .i64 oz) (.int .i64 vz) (.slice Az zs.length cz)
        simp only [List.set_cons_zero] at HX
        have hzB : (TT.mk kz fz oz vz Az cz zs).Bl (B ≤ ·) := (hzb (B ≤ ·) hbl.out).mono fun n hn => by rcases hn with h | h; exact h; omega
        have hz2 := hzm.grown HG (hzB.mono fun n hn => by show n ≠ w.heap.size; omega)
        have hzL : (TT.mk kz fz oz vz Az cz zs).Bl (w.heap.size ≤ ·) := hzB.mono fun n hn => by show w.heap.size ≤ n; omega
        have hPz := HP9.grownTo HG (by omega)
        have hgz := grown_low hgw9 HG (Nat.le_refl _)
        generalize ((((w9.setCell ⟨w.heap.size, 0, none⟩ (.int .i64 kz)).setCell ⟨w.heap.size, 1, none⟩ (.int .i64 fz)).setCell ⟨w.heap.size, 2, none⟩ (.int .i64 oz)).setCell ⟨w.heap.size, 3, none⟩ (.int .i64 vz)).setCell ⟨w.heap.size, 4, none⟩ (.slice Az zs.length cz) = Wz at *
        have hc00 := HX.cell 0 0 rfl rfl
        have hc01 := HX.cell 0 1 rfl rfl
        have hc02 := HX.cell 0 2 rfl rfl
        have hc03 := HX.cell 0 3 rfl rfl
        have hc04 := HX.cell 0 4 rfl rfl
        try simp only [List.getElem_toArray, List.getElem_cons_zero, List.getElem_cons_succ] at hc00 hc01 hc02 hc03 hc04
        have hsize := Lib.hid (show (TT.mk kz fz oz vz Az cz zs).tm.size + 2 * r.length ≤ 2 * ws.length + 1 by
          have h1 := hsz.out
          have h2 := Tm.joined_size 2 (us.map TT.tm)
          rw [hzt]
          by_cases h3 : us.length = 1
          · obtain ⟨y, rfl⟩ := List.length_eq_one_iff.1 h3
            have h4 := h2.2 y.tm rfl
            rw [List.length_singleton] at h1
            rw [List.map_cons, List.map_nil] at h1 h4 ⊢
            omega
          · have h4 := h2.1
            omega)
        have hrel2 := Lib.hid (show (false = true ∧ Tm.listT false ws = none) ∨ (false = false ∧ Tm.listT false ws = some ((TT.mk kz fz oz vz Az cz zs).tm, r)) by
          right
          exact ⟨rfl, by rw [Tm.listT_items false hit.out, hzt]; rfl⟩)
        exact bodyPost_ret (v := .agg #[.int .i64 kz, .int .i64 fz, .int .i64 oz, .int .i64 vz, .slice Az zs.length cz]) (by simp [results, Tryz.results184, go_sem, hc00, hc01, hc02, hc03, hc04]) rfl (show RetQ _ _ _ _ _ _ from ⟨(TT.mk kz fz oz vz Az cz zs), A', c', r, false, rfl, hz2, hzL, hPz, hgz, hsize, hrel2⟩)
set_option maxHeartbeats 8000000 in
set_option maxRecDepth 100000 in
theorem qquery_of {gp : Nat} {ws : List Tok} (hn : ws.length ≤ 2000) (hcal : ∀ (A : Option Addr) (c : Nat) (v : List Tok) (w : World), v.length ≤ ws.length → PSt w gp A c v false → EnvG gp w → Calls Tryz.prog 184 #[.pointer (some ⟨gp, 0, none⟩)] w (RetQ w gp v.length (Tm.itemT true v))) (A : Option Addr) (c : Nat) (w : World) (HP : PSt w gp A c ws false) (HE : EnvG gp w) :
    Calls Tryz.prog 100 #[.pointer (some ⟨gp, 0, none⟩)] w (RetQ w gp ws.length (Tm.listT true ws)) := by
  have hgp := HP.lt
  have hRb0 : (w.alloc (.cells #[.int .i64 0, .int .i64 0, .int .i64 0, .int .i64 0, .slice none 0 0] 55)).heap[w.heap.size]? = some (.cells #[.int .i64 0, .int .i64 0, .int .i64 0, .int .i64 0, .slice none 0 0] 55) := heap_alloc_new w _
  replace HP := HP.ext (below_alloc w (.cells #[.int .i64 0, .int .i64 0, .int .i64 0, .int .i64 0, .slice none 0 0] 55))
  have hg0 : w.grownBy (w.alloc (.cells #[.int .i64 0, .int .i64 0, .int .i64 0, .int .i64 0, .slice none 0 0] 55)) (some gp) := grown_of_below (below_alloc w _) _
  obtain ⟨B, hB⟩ : ∃ B, Hid ((w.alloc (.cells #[.int .i64 0, .int .i64 0, .int .i64 0, .int .i64 0, .slice none 0 0] 55)).heap.size = B) := ⟨_, Lib.hid rfl⟩
  have hB2 : B = w.heap.size + 1 := by rw [← hB.out]; simp
  go_enter Tryz.func100, Tryz.ntmps100
  go_upto_region 1 with fail
  generalize w.alloc (.cells #[.int .i64 0, .int .i64 0, .int .i64 0, .int .i64 0, .slice none 0 0] 55) = W0 at *
  have hW0 := hB.out
  go_wp2_with fail
  refine (hcal A c ws W0 (Nat.le_refl _) HP (HE.grown hg0)).mono ?_
  rintro e w2 ⟨y, A2, c2, r2, wr2, he, hym, hyb, HP2, hg2, hys, hyr⟩
  obtain ⟨ky, fy, oy, vy, Ay, cy, ys⟩ := y
  change e = .returned (.agg #[.int .i64 ky, .int .i64 fy, .int .i64 oy, .int .i64 vy, .slice Ay ys.length cy]) at he
  subst he
  have hT2 := TT.TR.lit w2 (B := B) (by have := hg2.size; omega) 55 (TT.mk ky fy oy vy Ay cy ys) hym #[.int .i64 ky, .int .i64 fy, .int .i64 oy, .int .i64 vy, .slice Ay ys.length cy] rfl
  have hba := below_alloc w2 (.cells #[.int .i64 ky, .int .i64 fy, .int .i64 oy, .int .i64 vy, .slice Ay ys.length cy] 55)
  have HP3 := HP2.ext hba
  have hRb3 := blk_below (blk_grown hRb0 hg2 (by omega)) hba
  have hg3 := grown_below (grown_trans hg0 hg2) hba
  have hs3 : B ≤ (w2.alloc (.cells #[.int .i64 ky, .int .i64 fy, .int .i64 oy, .int .i64 vy, .slice Ay ys.length cy] 55)).heap.size := by have h1 := hg2.size; have h2 := hba.size; omega
  have hbl0 := Lib.hid (show ∀ x ∈ [(TT.mk ky fy oy vy Ay cy ys)], x.Bl (B ≤ ·) from fun x hx => by
    rw [List.mem_singleton.1 hx]
    exact hyb.mono fun n hn => by show B ≤ n; omega)
  have hsz0 := Lib.hid (show Tm.sizeL ([(TT.mk ky fy oy vy Ay cy ys)].map TT.tm) + [(TT.mk ky fy oy vy Ay cy ys)].length + 2 * r2.length ≤ 2 * ws.length + 2 by
    have := hys.out
    rw [List.map_cons, List.map_nil, Tm.sizeL, Tm.sizeL, List.length_singleton]
    omega)
  have hit0 := Lib.hid (show (wr2 = true ∧ Tm.itemsT true ws = none) ∨ (wr2 = false ∧ Tm.itemsT true ws = Tm.contT true ([(TT.mk ky fy oy vy Ay cy ys)].map TT.tm) r2) from by
    rcases hyr.out with ⟨h1, h2⟩ | ⟨h1, h2⟩
    · exact .inl ⟨h1, Tm.items_none h2⟩
    · exact .inr ⟨h1, Tm.items_first h2⟩)
  clear HP HP2 hg0 hg2 hym hyb hys hyr hba hRb0
  go_wp2
  generalize w2.alloc (.cells #[.int .i64 ky, .int .i64 fy, .int .i64 oy, .int .i64 vy, .slice Ay ys.length cy] 55) = W3 at *
  generalize w2.heap.size = g3 at *
  go_loopg [3] r2.length (fun gk p3 wr => ∃ (r : List Tok) (wrong : Bool) (A8 A' : Option Addr) (c8 c' : Nat) (us : List TT), r.length ≤ gk ∧ p3 = .slice A8 us.length c8 ∧ 0 < us.length ∧ TT.TR 55 wr B A8 c8 us ∧ PSt wr gp A' c' r wrong ∧ wr.heap[w.heap.size]? = some (.cells #[.int .i64 0, .int .i64 0, .int .i64 0, .int .i64 0, .slice none 0 0] 55) ∧ w.grownBy wr (some gp) ∧ B ≤ wr.heap.size ∧ Hid (∀ x ∈ us, x.Bl (B ≤ ·)) ∧ Hid (Tm.sizeL (us.map TT.tm) + us.length + 2 * r.length ≤ 2 * ws.length + 2) ∧ Hid ((wrong = true ∧ Tm.itemsT true ws = none) ∨ (wrong = false ∧ Tm.itemsT true ws = Tm.contT true (us.map TT.tm) r)))
  case atStart => exact ⟨r2, wr2, some ⟨g3, 0, none⟩, A2, 1, c2, [(TT.mk ky fy oy vy Ay cy ys)], Nat.le_refl _, rfl, by simp, hT2, HP3, hRb3, hg3, hs3, hbl0, hsz0, hit0⟩
  case round =>
    clear hT2 HP3 hRb3 hg3 hs3 hbl0 hsz0 hit0
    obtain ⟨r, wrong, A8, A', c8, c', us, hrg, rfl, hus, HT, HP, hRb, hgw, hBr, hbl, hsz, hitt⟩ := hrel
    obtain ⟨s, hs⟩ : ∃ s, Hid (r.headD [] = s) := ⟨_, Lib.hid rfl⟩
    have hpk := qpeek_any wr HP hs
    obtain ⟨c0, c1, f0, f1⟩ := HP.cells
    by_cases hsw : s = Tm.word true
    · have hse : ((str s).toList == [111, 114]) = true := by rw [str_toList, hsw]; rfl
      cases wrong with
      | true =>
        have hit := Lib.hid (show Tm.itemsT true ws = none by
          rcases hitt.out with ⟨_, h⟩ | ⟨h, _⟩
          · exact h
          · cases h)
        clear hsw hitt
        go_wp2_with fail
        refine hpk.mono ?_
        rintro e w4 ⟨rfl, hw4⟩
        obtain rfl : wr = w4 := hw4.symm
        go_wp2_with fail
        refine (qjoined_any 3 A8 c8 us wr HT.reads HT.mem (by have h1 := hsz.out; omega)).mono ?_
        rintro e w9 ⟨z, he, hzm, hzt, hzb, hb9⟩; obtain ⟨kz, fz, oz, vz, Az, cz, zs⟩ := z; change e = .returned (.agg #[.int .i64 kz, .int .i64 fz, .int .i64 oz, .int .i64 vz, .slice Az zs.length cz]) at he; subst he
        have hRb9 := blk_below hRb hb9
        have HP9 := HP.ext hb9
        have hgw9 := grown_below hgw hb9
        have HX := BL.bare1 w9 hRb9
        have hc00 := HX.cell 0 0 rfl rfl
        have hc01 := HX.cell 0 1 rfl rfl
        have hc02 := HX.cell 0 2 rfl rfl
        have hc03 := HX.cell 0 3 rfl rfl
        have hc04 := HX.cell 0 4 rfl rfl
        try simp only [List.getElem_toArray, List.getElem_cons_zero, List.getElem_cons_succ] at hc00 hc01 hc02 hc03 hc04
        have hf00 := HX.free 0 0 rfl
        have hf01 := HX.free 0 1 rfl
        have hf02 := HX.free 0 2 rfl
        have hf03 := HX.free 0 3 rfl
        have hf04 := HX.free 0 4 rfl
        try simp only [] at hf00 hf01 hf02 hf03 hf04
        go_wp2
        clear hc00 hc01 hc02 hc03 hc04
        clear hf00 hf01 hf02 hf03 hf04
        have HG := grown_set5 w9 w.heap.size (.int .i64 kz) (.int .i64 fz) (.int .i64 oz) (.int .i64 vz) (.slice Az zs.length cz)
        replace HX := HX.put5 0 rfl (Nat.zero_le _) (by intro k q hk hne; match k, hk with | 0, hk => (simp at hk; subst hk; simp at hne ⊢; try omega) | k + 1, hk => simp at hk) (.int .i64 kz) (.int .i64 fz) (.int .i64 oz) (.int .i64 vz) (.slice Az zs.length cz)
        simp only [List.set_cons_zero] at HX
        have hzB : (TT.mk kz fz oz vz Az cz zs).Bl (B ≤ ·) := (hzb (B ≤ ·) hbl.out).mono fun n hn => by rcases hn with h | h; exact h; omega
        have hz2 := hzm.grown HG (hzB.mono fun n hn => by show n ≠ w.heap.size; omega)
        have hzL : (TT.mk kz fz oz vz Az cz zs).Bl (w.heap.size ≤ ·) := hzB.mono fun n hn => by show w.heap.size ≤ n; omega
        have hPz := HP9.grownTo HG (by omega)
        have hgz := grown_low hgw9 HG (Nat.le_refl _)
        generalize ((((w9.setCell ⟨w.heap.size, 0, none⟩ (.int .i64 kz)).setCell ⟨w.heap.size, 1, none⟩ (.int .i64 fz)).setCell ⟨w.heap.size, 2, none⟩ (.int .i64 oz)).setCell ⟨w.heap.size, 3, none⟩ (.int .i64 vz)).setCell ⟨w.heap.size, 4, none⟩ (.slice Az zs.length cz) = Wz at *
        have hc00 := HX.cell 0 0 rfl rfl
        have hc01 := HX.cell 0 1 rfl rfl
        have hc02 := HX.cell 0 2 rfl rfl
        have hc03 := HX.cell 0 3 rfl rfl
        have hc04 := HX.cell 0 4 rfl rfl
        try simp only [List.getElem_toArray, List.getElem_cons_zero, List.getElem_cons_succ] at hc00 hc01 hc02 hc03 hc04
        have hsize := Lib.hid (show (TT.mk kz fz oz vz Az cz zs).tm.size + 2 * r.length ≤ 2 * ws.length + 1 by
          have h1 := hsz.out
          have h2 := Tm.joined_size 3 (us.map TT.tm)
          rw [hzt]
          by_cases h3 : us.length = 1
          · obtain ⟨y, rfl⟩ := List.length_eq_one_iff.1 h3
            have h4 := h2.2 y.tm rfl
            rw [List.length_singleton] at h1
            rw [List.map_cons, List.map_nil] at h1 h4 ⊢
            omega
          · have h4 := h2.1
            omega)
        have hrel2 := Lib.hid (show (true = true ∧ Tm.listT true ws = none) ∨ (true = false ∧ Tm.listT true ws = some ((TT.mk kz fz oz vz Az cz zs).tm, r)) by
          left
          exact ⟨rfl, by rw [Tm.listT_items true hit.out]; rfl⟩)
        exact bodyPost_ret (v := .agg #[.int .i64 kz, .int .i64 fz, .int .i64 oz, .int .i64 vz, .slice Az zs.length cz]) (by simp [results, Tryz.results100, go_sem, hc00, hc01, hc02, hc03, hc04]) rfl (show RetQ _ _ _ _ _ _ from ⟨(TT.mk kz fz oz vz Az cz zs), A', c', r, true, rfl, hz2, hzL, hPz, hgz, hsize, hrel2⟩)
      | false =>
        have hit := Lib.hid (show Tm.itemsT true ws = Tm.contT true (us.map TT.tm) r by
          rcases hitt.out with ⟨h, _⟩ | ⟨_, h⟩
          · cases h
          · exact h)
        obtain ⟨rt, rfl⟩ : ∃ rt, r = Tm.word true :: rt := by
          have h := hs.out
          cases r with
          | nil => exact absurd (hsw ▸ h).symm (Tm.word_ne _)
          | cons a rt => exact ⟨rt, by rw [show a = s from h, hsw]⟩
        have htk := fun W (h : PSt W gp A' c' (Tm.word true :: rt) false) => qtake_any (s := s) (ws' := rt) (wr' := false) W h hs (Lib.hid rfl) (Lib.hid rfl)
        clear hsw hitt hs
        go_wp2_with fail
        refine hpk.mono ?_
        rintro e w4 ⟨rfl, hw4⟩
        obtain rfl : wr = w4 := hw4.symm
        go_wp2_with fail
        refine (htk _ HP).mono ?_
        rintro e w4 ⟨A4, c4, rfl, HP4, hg4⟩
        clear c0 c1 f0 f1 hpk htk
        have hbn : ∀ x ∈ us, x.Bl (· ≠ gp) := fun x hx => (hbl.out x hx).mono fun n hn => by show n ≠ gp; omega
        have HT4 := HT.grown hg4 (by omega) hbn
        have hRb4 := blk_grown hRb hg4 (by omega)
        have hgw4 := grown_trans hgw hg4
        have hBr4 := Nat.le_trans hBr hg4.size
        go_wp2_with fail
        refine (hcal A4 c4 rt w4 (by have h1 := hsz.out; rw [List.length_cons] at h1; omega) HP4 (HE.grown hgw4)).mono ?_
        rintro e w5 ⟨y, A5, c5, r5, wr5, he, hym, hyb, HP5, hg5, hys, hyr⟩
        obtain ⟨ky, fy, oy, vy, Ay, cy, ys⟩ := y
        change e = .returned (.agg #[.int .i64 ky, .int .i64 fy, .int .i64 oy, .int .i64 vy, .slice Ay ys.length cy]) at he
        subst he
        have hown4 := HT4.own.blk
        have HT5 := HT4.grown hg5 (by omega) hbn
        have hRb5 := blk_grown hRb4 hg5 (by omega)
        have hgw5 := grown_trans hgw4 hg5
        have hBr5 := Nat.le_trans hBr4 hg5.size
        have hyF : ∀ ad, A8 = some ad → (TT.mk ky fy oy vy Ay cy ys).Bl (· ≠ ad.block) := fun ad e => hyb.mono fun n hn => by have := hown4 ad e; show n ≠ ad.block; omega
        have hyB : (TT.mk ky fy oy vy Ay cy ys).Bl (B ≤ ·) := hyb.mono fun n hn => by show B ≤ n; omega
        have hbl2 := Lib.hid (show ∀ x ∈ us ++ [(TT.mk ky fy oy vy Ay cy ys)], x.Bl (B ≤ ·) from fun x hx => by
          rcases List.mem_append.1 hx with h | h
          · exact hbl.out x h
          · rw [List.mem_singleton.1 h]; exact hyB)
        have hsz2 := Lib.hid (show Tm.sizeL ((us ++ [(TT.mk ky fy oy vy Ay cy ys)]).map TT.tm) + (us ++ [(TT.mk ky fy oy vy Ay cy ys)]).length + 2 * r5.length ≤ 2 * ws.length + 2 by
          have h1 := hsz.out
          have h2 := hys.out
          rw [List.length_cons] at h1
          rw [List.map_append, Tm.sizeL_append, List.map_cons, List.map_nil, Tm.sizeL, Tm.sizeL, List.length_append, List.length_singleton]
          omega)
        have hr5 : r5.length ≤ rt.length := by
          have h2 := hys.out
          have h3 := Tm.size_pos (TT.mk ky fy oy vy Ay cy ys).tm
          omega
        have hul : us.length + 1 ≤ 1000000 := by have h1 := hsz.out; omega
        have hit2 := Lib.hid (show (wr5 = true ∧ Tm.itemsT true ws = none) ∨ (wr5 = false ∧ Tm.itemsT true ws = Tm.contT true ((us ++ [(TT.mk ky fy oy vy Ay cy ys)]).map TT.tm) r5) from by
          rcases hyr.out with ⟨h1, h2⟩ | ⟨h1, h2⟩
          · exact .inl ⟨h1, by rw [hit.out, Tm.cont_none h2]⟩
          · exact .inr ⟨h1, by rw [hit.out, Tm.cont_step h2, List.map_append]; rfl⟩)
        clear hit hsz hbl hyr hys
        go_wp2_with (at_builtin; refine TT.wp_tpush Tryz.underlying53 infoT _ rfl _ _ rfl (TT.mk ky fy oy vy Ay cy ys) rfl rfl rfl HT5 hym hyF rfl hul hBr5 ?_; intro A9 c9 w9 HT9 hb9 hs9)
        go_roundg r5.length
        case measure => rw [List.length_cons] at hrg; omega
        case rel => exact ⟨r5, wr5, A9, A5, c9, c5, us ++ [(TT.mk ky fy oy vy Ay cy ys)], Nat.le_refl _, by rw [List.length_append]; rfl, by rw [List.length_append]; omega, HT9, HP5.low hb9 (by omega), blk_low hRb5 hb9 (by omega), grown_row hgw5 hb9 (by omega), by omega, hbl2, hsz2, hit2⟩
    · have hse : ((str s).toList == [111, 114]) = false := by rw [str_toList]; exact beq_eq_false_iff_ne.2 hsw
      cases wrong with
      | true =>
        have hit := Lib.hid (show Tm.itemsT true ws = none by
          rcases hitt.out with ⟨_, h⟩ | ⟨h, _⟩
          · exact h
          · cases h)
        clear hsw hitt
        go_wp2_with fail
        refine hpk.mono ?_
        rintro e w4 ⟨rfl, hw4⟩
        obtain rfl : wr = w4 := hw4.symm
        go_wp2_with fail
        refine (qjoined_any 3 A8 c8 us wr HT.reads HT.mem (by have h1 := hsz.out; omega)).mono ?_
        rintro e w9 ⟨z, he, hzm, hzt, hzb, hb9⟩; obtain ⟨kz, fz, oz, vz, Az, cz, zs⟩ := z; change e = .returned (.agg #[.int .i64 kz, .int .i64 fz, .int .i64 oz, .int .i64 vz, .slice Az zs.length cz]) at he; subst he
        have hRb9 := blk_below hRb hb9
        have HP9 := HP.ext hb9
        have hgw9 := grown_below hgw hb9
        have HX := BL.bare1 w9 hRb9
        have hc00 := HX.cell 0 0 rfl rfl
        have hc01 := HX.cell 0 1 rfl rfl
        have hc02 := HX.cell 0 2 rfl rfl
        have hc03 := HX.cell 0 3 rfl rfl
        have hc04 := HX.cell 0 4 rfl rfl
        try simp only [List.getElem_toArray, List.getElem_cons_zero, List.getElem_cons_succ] at hc00 hc01 hc02 hc03 hc04
        have hf00 := HX.free 0 0 rfl
        have hf01 := HX.free 0 1 rfl
        have hf02 := HX.free 0 2 rfl
        have hf03 := HX.free 0 3 rfl
        have hf04 := HX.free 0 4 rfl
        try simp only [] at hf00 hf01 hf02 hf03 hf04
        go_wp2
        clear hc00 hc01 hc02 hc03 hc04
        clear hf00 hf01 hf02 hf03 hf04
        have HG := grown_set5 w9 w.heap.size (.int .i64 kz) (.int .i64 fz) (.int .i64 oz) (.int .i64 vz) (.slice Az zs.length cz)
        replace HX := HX.put5 0 rfl (Nat.zero_le _) (by intro k q hk hne; match k, hk with | 0, hk => (simp at hk; subst hk; simp at hne ⊢; try omega) | k + 1, hk => simp at hk) (.int .i64 kz) (.int .i64 fz) (.int .i64 oz) (.int .i64 vz) (.slice Az zs.length cz)
        simp only [List.set_cons_zero] at HX
        have hzB : (TT.mk kz fz oz vz Az cz zs).Bl (B ≤ ·) := (hzb (B ≤ ·) hbl.out).mono fun n hn => by rcases hn with h | h; exact h; omega
        have hz2 := hzm.grown HG (hzB.mono fun n hn => by show n ≠ w.heap.size; omega)
        have hzL : (TT.mk kz fz oz vz Az cz zs).Bl (w.heap.size ≤ ·) := hzB.mono fun n hn => by show w.heap.size ≤ n; omega
        have hPz := HP9.grownTo HG (by omega)
        have hgz := grown_low hgw9 HG (Nat.le_refl _)
        generalize ((((w9.setCell ⟨w.heap.size, 0, none⟩ (.int .i64 kz)).setCell ⟨w.heap.size, 1, none⟩ (.int .i64 fz)).setCell ⟨w.heap.size, 2, none⟩ (.int .i64 oz)).setCell ⟨w.heap.size, 3, none⟩ (.int .i64 vz)).setCell ⟨w.heap.size, 4, none⟩ (.slice Az zs.length cz) = Wz at *
        have hc00 := HX.cell 0 0 rfl rfl
        have hc01 := HX.cell 0 1 rfl rfl
        have hc02 := HX.cell 0 2 rfl rfl
        have hc03 := HX.cell 0 3 rfl rfl
        have hc04 := HX.cell 0 4 rfl rfl
        try simp only [List.getElem_toArray, List.getElem_cons_zero, List.getElem_cons_succ] at hc00 hc01 hc02 hc03 hc04
        have hsize := Lib.hid (show (TT.mk kz fz oz vz Az cz zs).tm.size + 2 * r.length ≤ 2 * ws.length + 1 by
          have h1 := hsz.out
          have h2 := Tm.joined_size 3 (us.map TT.tm)
          rw [hzt]
          by_cases h3 : us.length = 1
          · obtain ⟨y, rfl⟩ := List.length_eq_one_iff.1 h3
            have h4 := h2.2 y.tm rfl
            rw [List.length_singleton] at h1
            rw [List.map_cons, List.map_nil] at h1 h4 ⊢
            omega
          · have h4 := h2.1
            omega)
        have hrel2 := Lib.hid (show (true = true ∧ Tm.listT true ws = none) ∨ (true = false ∧ Tm.listT true ws = some ((TT.mk kz fz oz vz Az cz zs).tm, r)) by
          left
          exact ⟨rfl, by rw [Tm.listT_items true hit.out]; rfl⟩)
        exact bodyPost_ret (v := .agg #[.int .i64 kz, .int .i64 fz, .int .i64 oz, .int .i64 vz, .slice Az zs.length cz]) (by simp [results, Tryz.results100, go_sem, hc00, hc01, hc02, hc03, hc04]) rfl (show RetQ _ _ _ _ _ _ from ⟨(TT.mk kz fz oz vz Az cz zs), A', c', r, true, rfl, hz2, hzL, hPz, hgz, hsize, hrel2⟩)
      | false =>
        have hit := Lib.hid (show Tm.itemsT true ws = some (us.map TT.tm, r) by
          rcases hitt.out with ⟨h, _⟩ | ⟨_, h⟩
          · cases h
          · rw [h, Tm.cont_stop (by rw [hs.out]; exact hsw)])
        clear hsw hitt
        go_wp2_with fail
        refine hpk.mono ?_
        rintro e w4 ⟨rfl, hw4⟩
        obtain rfl : wr = w4 := hw4.symm
        go_wp2_with fail
        refine (qjoined_any 3 A8 c8 us wr HT.reads HT.mem (by have h1 := hsz.out; omega)).mono ?_
        rintro e w9 ⟨z, he, hzm, hzt, hzb, hb9⟩; obtain ⟨kz, fz, oz, vz, Az, cz, zs⟩ := z; change e = .returned (.agg #[.int .i64 kz, .int .i64 fz, .int .i64 oz, .int .i64 vz, .slice Az zs.length cz]) at he; subst he
        have hRb9 := blk_below hRb hb9
        have HP9 := HP.ext hb9
        have hgw9 := grown_below hgw hb9
        have HX := BL.bare1 w9 hRb9
        have hc00 := HX.cell 0 0 rfl rfl
        have hc01 := HX.cell 0 1 rfl rfl
        have hc02 := HX.cell 0 2 rfl rfl
        have hc03 := HX.cell 0 3 rfl rfl
        have hc04 := HX.cell 0 4 rfl rfl
        try simp only [List.getElem_toArray, List.getElem_cons_zero, List.getElem_cons_succ] at hc00 hc01 hc02 hc03 hc04
        have hf00 := HX.free 0 0 rfl
        have hf01 := HX.free 0 1 rfl
        have hf02 := HX.free 0 2 rfl
        have hf03 := HX.free 0 3 rfl
        have hf04 := HX.free 0 4 rfl
        try simp only [] at hf00 hf01 hf02 hf03 hf04
        go_wp2
        clear hc00 hc01 hc02 hc03 hc04
        clear hf00 hf01 hf02 hf03 hf04
        have HG := grown_set5 w9 w.heap.size (.int .i64 kz) (.int .i64 fz) (.int .i64 oz) (.int .i64 vz) (.slice Az zs.length cz)
        replace HX := HX.put5 0 rfl (Nat.zero_le _) (by intro k q hk hne; match k, hk with | 0, hk => (simp at hk; subst hk; simp at hne ⊢; try omega) | k + 1, hk => simp at hk) (.int .i64 kz) (.int .i64 fz) (.int .i64 oz) (.int .i64 vz) (.slice Az zs.length cz)
        simp only [List.set_cons_zero] at HX
        have hzB : (TT.mk kz fz oz vz Az cz zs).Bl (B ≤ ·) := (hzb (B ≤ ·) hbl.out).mono fun n hn => by rcases hn with h | h; exact h; omega
        have hz2 := hzm.grown HG (hzB.mono fun n hn => by show n ≠ w.heap.size; omega)
        have hzL : (TT.mk kz fz oz vz Az cz zs).Bl (w.heap.size ≤ ·) := hzB.mono fun n hn => by show w.heap.size ≤ n; omega
        have hPz := HP9.grownTo HG (by omega)
        have hgz := grown_low hgw9 HG (Nat.le_refl _)
        generalize ((((w9.setCell ⟨w.heap.size, 0, none⟩ (.int .i64 kz)).setCell ⟨w.heap.size, 1, none⟩ (.int .i64 fz)).setCell ⟨w.heap.size, 2, none⟩ (.int .i64 oz)).setCell ⟨w.heap.size, 3, none⟩ (.int .i64 vz)).setCell ⟨w.heap.size, 4, none⟩ (.slice Az zs.length cz) = Wz at *
        have hc00 := HX.cell 0 0 rfl rfl
        have hc01 := HX.cell 0 1 rfl rfl
        have hc02 := HX.cell 0 2 rfl rfl
        have hc03 := HX.cell 0 3 rfl rfl
        have hc04 := HX.cell 0 4 rfl rfl
        try simp only [List.getElem_toArray, List.getElem_cons_zero, List.getElem_cons_succ] at hc00 hc01 hc02 hc03 hc04
        have hsize := Lib.hid (show (TT.mk kz fz oz vz Az cz zs).tm.size + 2 * r.length ≤ 2 * ws.length + 1 by
          have h1 := hsz.out
          have h2 := Tm.joined_size 3 (us.map TT.tm)
          rw [hzt]
          by_cases h3 : us.length = 1
          · obtain ⟨y, rfl⟩ := List.length_eq_one_iff.1 h3
            have h4 := h2.2 y.tm rfl
            rw [List.length_singleton] at h1
            rw [List.map_cons, List.map_nil] at h1 h4 ⊢
            omega
          · have h4 := h2.1
            omega)
        have hrel2 := Lib.hid (show (false = true ∧ Tm.listT true ws = none) ∨ (false = false ∧ Tm.listT true ws = some ((TT.mk kz fz oz vz Az cz zs).tm, r)) by
          right
          exact ⟨rfl, by rw [Tm.listT_items true hit.out, hzt]; rfl⟩)
        exact bodyPost_ret (v := .agg #[.int .i64 kz, .int .i64 fz, .int .i64 oz, .int .i64 vz, .slice Az zs.length cz]) (by simp [results, Tryz.results100, go_sem, hc00, hc01, hc02, hc03, hc04]) rfl (show RetQ _ _ _ _ _ _ from ⟨(TT.mk kz fz oz vz Az cz zs), A', c', r, false, rfl, hz2, hzL, hPz, hgz, hsize, hrel2⟩)
end Go.Proofs.YtolkijelldlmeaaGreatDoor
