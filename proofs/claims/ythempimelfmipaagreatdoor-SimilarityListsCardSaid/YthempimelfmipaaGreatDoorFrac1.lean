/- The package fraction, first part: zero, made. -/
import Derived.Test.YthempimelfmipaaGreatDoorNat9
import Derived.Test.YthempimelfmipaaGreatDoorKeep
import Derived.Test.YthempimelfmipaaGreatDoorFMath
namespace Go.Proofs.YthempimelfmipaaGreatDoor
open Go.RowKit Go.Proofs

/-- what a function hands back: the number q in lowest terms; nothing that was there has changed -/
def RetQ (w : World) (q : Rat) (e : Ending) (w' : World) : Prop :=
  ∃ A c B d, e = .returned (.agg #[.bool (sg q), .slice A (dig (nu q)).length c, .slice B (dig q.den).length d]) ∧ Lim w' A c (dig (nu q)) ∧ Lim w' B d (dig q.den) ∧ Below w.heap.size w w'

theorem zero_any (A : Option Addr) (n c : Nat) (l : List Nat) (w : World) (H : Lim w A c l) (hn : n = l.length) (hl : n ≤ 1073741824) :
    Calls Tryz.prog 50 #[.agg #[.slice A n c]] w fun e w' => e = .returned (.bool (decide (val l = 0))) ∧ Below w.heap.size w w' := by
  have HN := Lib.hid hn
  clear hn
  have hz : (cmpI (val l) 0 == 0) = decide (val l = 0) := by
    by_cases h : val l = 0
    · rw [cmpI_eq h, decide_eq_true h]; rfl
    · rw [cmpI_gt (by omega), decide_eq_false h]; rfl
  have HZ := Lib.hid hz
  clear hz
  go_enter Tryz.func50, Tryz.ntmps50
  go_wp2_with fail
  have HX := Bx.one w #[.slice A n c] 31
  refine (ncmp_any A none n 0 c 0 l [] _ (H.ext HX.below) (Lim.nil _ _ _) HN.out rfl hl (by omega)).mono ?_
  rintro e w1 ⟨rfl, hb1⟩
  rw [val_nil]
  have HX1 := HX.ext hb1
  go_wp2
  go_ret
  exact ⟨ret_bool HZ.out, HX1.below⟩


set_option maxHeartbeats 400000 in
set_option maxRecDepth 100000 in
theorem made_num (s : Bool) (A B : Option Addr) (n m c d : Nat) (l r : List Nat) (w : World) (HA : Lim w A c l) (_ : Lim w B d r) (hn : n = l.length) (hm : m = r.length) (hl : n ≤ 536870912) (_ : m ≤ 536870912) (h0 : val l = 0) :
    Calls Tryz.prog 51 #[.bool s, .agg #[.slice A n c], .agg #[.slice B m d]] w (RetQ w 0) := by
  have hz : decide (val l = 0) = true := decide_eq_true h0
  clear h0
  have HN := Lib.hid hn
  have HM := Lib.hid hm
  clear hn hm
  go_enter Tryz.func51, Tryz.ntmps51
  go_wp2_with fail
  have HX := Bx.three w #[.slice A n c] #[.slice B m d] #[.bool false, .slice none 0 0, .slice none 0 0] 31 31 33
  refine (zero_any A n c l _ (HA.ext HX.below) HN.out (by omega)).mono ?_
  rintro e w1 ⟨rfl, hb1⟩
  have HX := HX.ext hb1
  clear hb1
  go_wp2_with fail
  refine (nof_any 1 _ (by omega)).mono ?_
  rintro e w2 ⟨A2, c2, rfl, H2, hb2⟩
  have HX := HX.ext hb2
  have hc20 := HX.cell 2 0 rfl rfl
  have hf20 := HX.free 2 0 rfl
  have hc21 := HX.cell 2 1 rfl rfl
  have hf21 := HX.free 2 1 rfl
  have hc22 := HX.cell 2 2 rfl rfl
  have hf22 := HX.free 2 2 rfl
  go_wp2
  obtain ⟨hq0, hq1, hq2, hq, hkeep, hbel⟩ := set3 (w := w) (HX.blk 2 rfl) rfl rfl rfl HX.below (by omega) (.bool false) (.slice none 0 0) (.slice A2 (dig 1).length c2)
  exact bodyPost_ret (v := .agg #[.bool false, .slice none 0 0, .slice A2 (dig 1).length c2]) (by simp [results, Tryz.results51, go_sem, hq0, hq1, hq2]) rfl ⟨none, 0, A2, c2, rfl, Lim.nil _ _ _, H2.stay hkeep, hbel⟩

set_option maxHeartbeats 400000 in
set_option maxRecDepth 100000 in
theorem made_den (s : Bool) (A B : Option Addr) (n m c d : Nat) (l r : List Nat) (w : World) (HA : Lim w A c l) (HB : Lim w B d r) (hn : n = l.length) (hm : m = r.length) (hl : n ≤ 536870912) (hl2 : m ≤ 536870912) (h0 : 0 < val l) (h1 : val r = 0) :
    Calls Tryz.prog 51 #[.bool s, .agg #[.slice A n c], .agg #[.slice B m d]] w (RetQ w 0) := by
  have hz : decide (val l = 0) = false := decide_eq_false (by omega)
  have hz2 : decide (val r = 0) = true := decide_eq_true h1
  clear h0 h1
  have HN := Lib.hid hn
  have HM := Lib.hid hm
  clear hn hm
  go_enter Tryz.func51, Tryz.ntmps51
  go_wp2_with fail
  have HX := Bx.three w #[.slice A n c] #[.slice B m d] #[.bool false, .slice none 0 0, .slice none 0 0] 31 31 33
  refine (zero_any A n c l _ (HA.ext HX.below) HN.out (by omega)).mono ?_
  rintro e w1 ⟨rfl, hb1⟩
  have HX := HX.ext hb1
  clear hb1
  have hc1 : w1.cell? ⟨w.heap.size + 1, 0, none⟩ = some (.slice B m d) := HX.cell 1 0 rfl rfl
  go_wp2_with fail
  refine (zero_any B m d r _ (HB.ext HX.below) HM.out (by omega)).mono ?_
  rintro e w2 ⟨rfl, hb2⟩
  have HX := HX.ext hb2
  clear hb2
  go_wp2_with fail
  refine (nof_any 1 _ (by omega)).mono ?_
  rintro e w2 ⟨A2, c2, rfl, H2, hb2⟩
  have HX := HX.ext hb2
  have hc20 := HX.cell 2 0 rfl rfl
  have hf20 := HX.free 2 0 rfl
  have hc21 := HX.cell 2 1 rfl rfl
  have hf21 := HX.free 2 1 rfl
  have hc22 := HX.cell 2 2 rfl rfl
  have hf22 := HX.free 2 2 rfl
  go_wp2
  obtain ⟨hq0, hq1, hq2, hq, hkeep, hbel⟩ := set3 (w := w) (HX.blk 2 rfl) rfl rfl rfl HX.below (by omega) (.bool false) (.slice none 0 0) (.slice A2 (dig 1).length c2)
  exact bodyPost_ret (v := .agg #[.bool false, .slice none 0 0, .slice A2 (dig 1).length c2]) (by simp [results, Tryz.results51, go_sem, hq0, hq1, hq2]) rfl ⟨none, 0, A2, c2, rfl, Lim.nil _ _ _, H2.stay hkeep, hbel⟩

set_option maxHeartbeats 400000 in
set_option maxRecDepth 100000 in
theorem made_pos (s : Bool) (A B : Option Addr) (n m c d : Nat) (l r : List Nat) (w : World) (HA : Lim w A c l) (HB : Lim w B d r) (hn : n = l.length) (hm : m = r.length) (hl : n ≤ 536870912) (hl2 : m ≤ 536870912) (h0 : 0 < val l) (h1 : 0 < val r) :
    Calls Tryz.prog 51 #[.bool s, .agg #[.slice A n c], .agg #[.slice B m d]] w (RetQ w (rv s (val l) (val r))) := by
  have hz : decide (val l = 0) = false := decide_eq_false (by omega)
  have hz2 : decide (val r = 0) = false := decide_eq_false (by omega)
  have hs := Lib.hid (sg_rv s h0 h1)
  have hu := Lib.hid (nu_rv s (a := val l) h1)
  have hd := Lib.hid (den_rv s (a := val l) h1)
  have hg0 : 0 < Nat.gcd (val l) (val r) := Nat.gcd_pos_of_pos_left _ h0
  have hgl : (dig (Nat.gcd (val l) (val r))).length ≤ (dig (val l)).length := dig_mono (Nat.gcd_le_left _ h0)
  have hdl := dig_len_of HA.small hn
  have HN := Lib.hid hn
  have HM := Lib.hid hm
  clear hn hm
  go_enter Tryz.func51, Tryz.ntmps51
  go_wp2_with fail
  have HX := Bx.three w #[.slice A n c] #[.slice B m d] #[.bool false, .slice none 0 0, .slice none 0 0] 31 31 33
  refine (zero_any A n c l _ (HA.ext HX.below) HN.out (by omega)).mono ?_
  rintro e w1 ⟨rfl, hb1⟩
  have HX := HX.ext hb1
  clear hb1
  have hc1 : w1.cell? ⟨w.heap.size + 1, 0, none⟩ = some (.slice B m d) := HX.cell 1 0 rfl rfl
  go_wp2_with fail
  refine (zero_any B m d r _ (HB.ext HX.below) HM.out (by omega)).mono ?_
  rintro e w2 ⟨rfl, hb2⟩
  have HX := HX.ext hb2
  clear hb2
  clear hc1
  have hc0 : w2.cell? ⟨w.heap.size, 0, none⟩ = some (.slice A n c) := HX.cell 0 0 rfl rfl
  have hc1 : w2.cell? ⟨w.heap.size + 1, 0, none⟩ = some (.slice B m d) := HX.cell 1 0 rfl rfl
  go_wp2_with fail
  refine (ngcd_any A B n m c d l r _ (HA.ext HX.below) (HB.ext HX.below) HN.out HM.out (by omega) (by omega)).mono ?_
  rintro e w3 ⟨A3, c3, rfl, H3, hb3⟩
  generalize Nat.gcd (val l) (val r) = g at *
  have HX := HX.ext hb3
  clear hb3 hc0 hc1
  have HX4 := HX.ext (below_alloc w3 (.cells #[.slice A3 (dig g).length c3] 31))
  have hc0 := HX4.cell0 0 rfl rfl
  go_wp2_with fail
  refine (ndivmod_any A A3 n _ c c3 l (dig g) _ (HA.ext HX4.below) (H3.ext (below_alloc _ _)) HN.out rfl (by omega) (by omega) (by rw [val_dig]; exact hg0)).mono ?_
  rintro e w4 ⟨A4, c4, A5, c5, rfl, H4, H5, hb4⟩
  rw [val_dig] at H4 H5
  rw [val_dig]
  have HX := HX4.ext hb4
  have hb34 := (below_alloc w3 (.cells #[.slice A3 (dig g).length c3] 31)).trans (hb4.mono (Nat.le_of_lt (by simp)))
  have H3 := H3.ext hb34
  have hg4 : w4.heap[w3.heap.size]? = some (.cells #[.slice A3 (dig g).length c3] 31 (0, 0)) := by rw [hb4.block _ (by simp)]; exact heap_alloc_new w3 _
  clear hb34 HX4 hc0 hb4
  have hgs : w3.heap.size < w4.heap.size := by
    rcases Nat.lt_or_ge w3.heap.size w4.heap.size with h | h
    · exact h
    · rw [Array.getElem?_eq_none h] at hg4; cases hg4
  go_upto_region 5 with fail
  obtain ⟨W5, hW5⟩ : ∃ W5, W5 = (w4.alloc (.cells #[.slice A4 (dig (val l / g)).length c4] 31)).alloc (.cells #[.slice A5 (dig (val l % g)).length c5] 31) := ⟨_, rfl⟩
  have hb5 : Below w4.heap.size w4 W5 := by rw [hW5]; exact (below_alloc _ _).trans ((below_alloc _ _).mono (by simp))
  have HX5 := HX.ext hb5
  have H35 := H3.ext hb5
  have H45 := H4.ext hb5
  have hq5 : W5.cell? ⟨w4.heap.size, 0, none⟩ = some (.slice A4 (dig (val l / g)).length c4) := by rw [hW5]; simp
  have hc1 := HX5.cell 1 0 rfl rfl
  have hc3 := cell_of (hb5.block _ hgs |>.trans hg4) 0
  rw [← hW5]
  clear hW5 hb5 HX H3 H4 H5 hg4 hgs
  go_wp2_with fail
  refine (ndivmod_any B A3 m _ d c3 r (dig g) _ (HB.ext HX5.below) H35 HM.out rfl (by omega) (by omega) (by rw [val_dig]; exact hg0)).mono ?_
  rintro e w6 ⟨A6, c6, A7, c7, rfl, H6, H7, hb6⟩
  rw [val_dig] at H6 H7
  rw [val_dig]
  have HX6 := HX5.ext hb6
  have H46 := H45.ext hb6
  have hq6 : w6.cell? ⟨w4.heap.size, 0, none⟩ = some (.slice A4 (dig (val l / g)).length c4) := by rw [hb6.cell (cell_lt hq5)]; exact hq5
  clear hc1 hc3 HX5 hq5 hb6 H35 H45 H7
  go_upto_region 6 with fail
  obtain ⟨W7, hW7⟩ : ∃ W7, W7 = (w6.alloc (.cells #[.slice A6 (dig (val r / g)).length c6] 31)).alloc (.cells #[.slice A7 (dig (val r % g)).length c7] 31) := ⟨_, rfl⟩
  have hb7 : Below w6.heap.size w6 W7 := by rw [hW7]; exact (below_alloc _ _).trans ((below_alloc _ _).mono (by simp))
  have HX := HX6.ext hb7
  have H4 := H46.ext hb7
  have H6 := H6.ext hb7
  have hq7 : W7.cell? ⟨w6.heap.size, 0, none⟩ = some (.slice A6 (dig (val r / g)).length c6) := by rw [hW7]; simp
  have hq8 : W7.cell? ⟨w4.heap.size, 0, none⟩ = some (.slice A4 (dig (val l / g)).length c4) := by rw [hb7.cell (cell_lt hq6)]; exact hq6
  rw [← hW7]
  clear hW7 hb7 HX6 H46 hq6
  have hc20 := HX.cell 2 0 rfl rfl
  have hf20 := HX.free 2 0 rfl
  have hc21 := HX.cell 2 1 rfl rfl
  have hf21 := HX.free 2 1 rfl
  have hc22 := HX.cell 2 2 rfl rfl
  have hf22 := HX.free 2 2 rfl
  go_wp2
  obtain ⟨hq0, hq1, hq2, hq, hkeep, hbel⟩ := set3 (w := w) (HX.blk 2 rfl) rfl rfl rfl HX.below (by omega) (.bool s) (.slice A4 (dig (val l / g)).length c4) (.slice A6 (dig (val r / g)).length c6)
  exact bodyPost_ret (v := .agg #[.bool s, .slice A4 (dig (val l / g)).length c4, .slice A6 (dig (val r / g)).length c6]) (by simp [results, Tryz.results51, go_sem, hq0, hq1, hq2]) rfl ⟨A4, c4, A6, c6, by rw [hs.out, hu.out, hd.out], by rw [hu.out]; exact H4.stay hkeep, by rw [hd.out]; exact H6.stay hkeep, hbel⟩
theorem fmade_any (s : Bool) (A B : Option Addr) (n m c d : Nat) (l r : List Nat) (w : World) (HA : Lim w A c l) (HB : Lim w B d r) (hn : n = l.length) (hm : m = r.length) (hl : n ≤ 536870912) (hl2 : m ≤ 536870912) :
    Calls Tryz.prog 51 #[.bool s, .agg #[.slice A n c], .agg #[.slice B m d]] w (RetQ w (rv s (val l) (val r))) := by
  rcases Nat.eq_zero_or_pos (val l) with h | h
  · rw [h, rv_num0]; exact made_num s A B n m c d l r w HA HB hn hm hl hl2 h
  · rcases Nat.eq_zero_or_pos (val r) with h2 | h2
    · rw [h2, rv_den0]; exact made_den s A B n m c d l r w HA HB hn hm hl hl2 h h2
    · exact made_pos s A B n m c d l r w HA HB hn hm hl hl2 h h2
end Go.Proofs.YthempimelfmipaaGreatDoor
