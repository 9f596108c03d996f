/- The reference's fractions, first part: of, zero, New, Norm, Neg, Mul, Of. -/
import Derived.Test.YtfndbmflllmpgaaDoorRef4
import Derived.Test.YtfndbmflllmpgaaDoorFrac6
namespace Go.Proofs.YtfndbmflllmpgaaDoor
open Go.RowKit Go.Proofs Go

set_option maxRecDepth 100000 in
theorem qone_any (w : World) : Calls Tryd.prog 59 #[.int .i64 1] w (RetN w 1) := by
  go_enter Tryd.func59, Tryd.ntmps59
  go_wp2_with fail
  refine (rof_any 1 _ (by omega)).mono ?_
  rintro e w1 ⟨A1, c1, rfl, H1, hb1⟩
  have HX := (Bx.one w #[.slice none 0 0] 24).ext hb1
  have hc := HX.cell0 0 rfl rfl
  have hf := HX.free0 0 rfl
  go_wp2
  have hav := H1.avoid_blk (HX.blk0 rfl) (by simp [Value.noInt])
  have hq := set_same (v := .slice A1 (dig 1).length c1) hc
  exact bodyPost_ret (v := .agg #[.slice A1 (dig 1).length c1]) (by simp [results, Tryd.results59, go_sem, hq]) rfl ⟨A1, c1, rfl, H1.setCell hav _, HX.below.setCell (by simp) _⟩

theorem qzero_any (A : Option Addr) (n c : Nat) (l : List Nat) (w : World) (H : Lim w A c l) (hn : n = l.length) (hl : n ≤ 536870910) :
    Calls Tryd.prog 55 #[.agg #[.slice A n c]] w fun e w' => e = .returned (.bool (decide (val l = 0))) ∧ Below w.heap.size w w' := by
  have HN := Lib.hid hn
  clear hn
  have hz : (cmpI (val l) 0 == 0) = decide (val l = 0) := by
    by_cases h : val l = 0
    · rw [cmpI_eq h, decide_eq_true h]; rfl
    · rw [cmpI_gt (by omega), decide_eq_false h]; rfl
  have HZ := Lib.hid hz
  clear hz
  go_enter Tryd.func55, Tryd.ntmps55
  go_wp2_with fail
  have HX := Bx.one w #[.slice A n c] 24
  refine (rcmp_any A none n 0 c 0 l [] _ (H.ext HX.below) (Lim.nil _ _ _) HN.out rfl (by omega) (by omega)).mono ?_
  rintro e w1 ⟨rfl, hb1⟩
  rw [val_nil]
  have HX1 := HX.ext hb1
  go_wp2
  go_ret
  exact ⟨ret_bool HZ.out, HX1.below⟩



theorem qmade_num (s : Bool) (A B : Option Addr) (n m c d : Nat) (l r : List Nat) (w : World) (HA : Lim w A c l) (_ : Lim w B d r) (hn : n = l.length) (hm : m = r.length) (hl : n ≤ 268435456) (_ : m ≤ 268435456) (h0 : val l = 0) :
    Calls Tryd.prog 53 #[.bool s, .agg #[.slice A n c], .agg #[.slice B m d]] w (RetQ w 0) := by
  have hz : decide (val l = 0) = true := decide_eq_true h0
  clear h0
  have HN := Lib.hid hn
  have HM := Lib.hid hm
  clear hn hm
  go_enter Tryd.func53, Tryd.ntmps53
  go_wp2_with fail
  have HX := Bx.three w #[.slice A n c] #[.slice B m d] #[.bool false, .slice none 0 0, .slice none 0 0] 24 24 26
  refine (qzero_any A n c l _ (HA.ext HX.below) HN.out (by omega)).mono ?_
  rintro e w1 ⟨rfl, hb1⟩
  have HX := HX.ext hb1
  clear hb1
  go_wp2_with fail
  refine (qone_any _).mono ?_
  rintro e w2 ⟨A2, c2, rfl, H2, hb2⟩
  have HX := HX.ext hb2
  have hc20 := HX.cell 2 0 rfl rfl
  have hf20 := HX.free 2 0 rfl
  have hc21 := HX.cell 2 1 rfl rfl
  have hf21 := HX.free 2 1 rfl
  have hc22 := HX.cell 2 2 rfl rfl
  have hf22 := HX.free 2 2 rfl
  go_wp2
  obtain ⟨hq0, hq1, hq2, hq, hkeep, hbel⟩ := set3 (w := w) (HX.blk 2 rfl) rfl rfl rfl HX.below (by omega) (.bool false) (.slice none 0 0) (.slice A2 (dig 1).length c2)
  exact bodyPost_ret (v := .agg #[.bool false, .slice none 0 0, .slice A2 (dig 1).length c2]) (by simp [results, Tryd.results53, go_sem, hq0, hq1, hq2]) rfl ⟨none, 0, A2, c2, rfl, Lim.nil _ _ _, H2.stay hkeep, hbel⟩


theorem qmade_den (s : Bool) (A B : Option Addr) (n m c d : Nat) (l r : List Nat) (w : World) (HA : Lim w A c l) (HB : Lim w B d r) (hn : n = l.length) (hm : m = r.length) (hl : n ≤ 268435456) (hl2 : m ≤ 268435456) (h0 : 0 < val l) (h1 : val r = 0) :
    Calls Tryd.prog 53 #[.bool s, .agg #[.slice A n c], .agg #[.slice B m d]] w (RetQ w 0) := by
  have hz : decide (val l = 0) = false := decide_eq_false (by omega)
  have hz2 : decide (val r = 0) = true := decide_eq_true h1
  clear h0 h1
  have HN := Lib.hid hn
  have HM := Lib.hid hm
  clear hn hm
  go_enter Tryd.func53, Tryd.ntmps53
  go_wp2_with fail
  have HX := Bx.three w #[.slice A n c] #[.slice B m d] #[.bool false, .slice none 0 0, .slice none 0 0] 24 24 26
  refine (qzero_any A n c l _ (HA.ext HX.below) HN.out (by omega)).mono ?_
  rintro e w1 ⟨rfl, hb1⟩
  have HX := HX.ext hb1
  clear hb1
  have hc1 : w1.cell? ⟨w.heap.size + 1, 0, none⟩ = some (.slice B m d) := HX.cell 1 0 rfl rfl
  go_wp2_with fail
  refine (qzero_any B m d r _ (HB.ext HX.below) HM.out (by omega)).mono ?_
  rintro e w2 ⟨rfl, hb2⟩
  have HX := HX.ext hb2
  clear hb2
  go_wp2_with fail
  refine (qone_any _).mono ?_
  rintro e w2 ⟨A2, c2, rfl, H2, hb2⟩
  have HX := HX.ext hb2
  have hc20 := HX.cell 2 0 rfl rfl
  have hf20 := HX.free 2 0 rfl
  have hc21 := HX.cell 2 1 rfl rfl
  have hf21 := HX.free 2 1 rfl
  have hc22 := HX.cell 2 2 rfl rfl
  have hf22 := HX.free 2 2 rfl
  go_wp2
  obtain ⟨hq0, hq1, hq2, hq, hkeep, hbel⟩ := set3 (w := w) (HX.blk 2 rfl) rfl rfl rfl HX.below (by omega) (.bool false) (.slice none 0 0) (.slice A2 (dig 1).length c2)
  exact bodyPost_ret (v := .agg #[.bool false, .slice none 0 0, .slice A2 (dig 1).length c2]) (by simp [results, Tryd.results53, go_sem, hq0, hq1, hq2]) rfl ⟨none, 0, A2, c2, rfl, Lim.nil _ _ _, H2.stay hkeep, hbel⟩


theorem qmade_pos (s : Bool) (A B : Option Addr) (n m c d : Nat) (l r : List Nat) (w : World) (HA : Lim w A c l) (HB : Lim w B d r) (hn : n = l.length) (hm : m = r.length) (hl : n ≤ 268435456) (hl2 : m ≤ 268435456) (h0 : 0 < val l) (h1 : 0 < val r) :
    Calls Tryd.prog 53 #[.bool s, .agg #[.slice A n c], .agg #[.slice B m d]] w (RetQ w (rv s (val l) (val r))) := by
  have hz : decide (val l = 0) = false := decide_eq_false (by omega)
  have hz2 : decide (val r = 0) = false := decide_eq_false (by omega)
  have hs := Lib.hid (sg_rv s h0 h1)
  have hu := Lib.hid (nu_rv s (a := val l) h1)
  have hd := Lib.hid (den_rv s (a := val l) h1)
  have hg0 : 0 < Nat.gcd (val l) (val r) := Nat.gcd_pos_of_pos_left _ h0
  have hgl : (dig (Nat.gcd (val l) (val r))).length ≤ (dig (val l)).length := dig_mono (Nat.gcd_le_left _ h0)
  have hdl := dig_len_of HA.small hn
  have HN := Lib.hid hn
  have HM := Lib.hid hm
  clear hn hm
  go_enter Tryd.func53, Tryd.ntmps53
  go_wp2_with fail
  have HX := Bx.three w #[.slice A n c] #[.slice B m d] #[.bool false, .slice none 0 0, .slice none 0 0] 24 24 26
  refine (qzero_any A n c l _ (HA.ext HX.below) HN.out (by omega)).mono ?_
  rintro e w1 ⟨rfl, hb1⟩
  have HX := HX.ext hb1
  clear hb1
  have hc1 : w1.cell? ⟨w.heap.size + 1, 0, none⟩ = some (.slice B m d) := HX.cell 1 0 rfl rfl
  go_wp2_with fail
  refine (qzero_any B m d r _ (HB.ext HX.below) HM.out (by omega)).mono ?_
  rintro e w2 ⟨rfl, hb2⟩
  have HX := HX.ext hb2
  clear hb2
  clear hc1
  have hc0 : w2.cell? ⟨w.heap.size, 0, none⟩ = some (.slice A n c) := HX.cell 0 0 rfl rfl
  have hc1 : w2.cell? ⟨w.heap.size + 1, 0, none⟩ = some (.slice B m d) := HX.cell 1 0 rfl rfl
  go_wp2_with fail
  refine (rgcd_any A B n m c d l r _ (HA.ext HX.below) (HB.ext HX.below) HN.out HM.out (by omega) (by omega)).mono ?_
  rintro e w3 ⟨A3, c3, rfl, H3, hb3⟩
  generalize Nat.gcd (val l) (val r) = g at *
  have HX := HX.ext hb3
  clear hb3 hc0 hc1
  have HX4 := HX.ext (below_alloc w3 (.cells #[.slice A3 (dig g).length c3] 24))
  have hc0 := HX4.cell0 0 rfl rfl
  go_wp2_with fail
  refine (rdivmod_any A A3 n _ c c3 l (dig g) _ (HA.ext HX4.below) (H3.ext (below_alloc _ _)) HN.out rfl (by omega) (by omega) (by rw [val_dig]; exact hg0)).mono ?_
  rintro e w4 ⟨A4, c4, A5, c5, rfl, H4, H5, hb4⟩
  rw [val_dig] at H4 H5
  rw [val_dig]
  have HX := HX4.ext hb4
  have hb34 := (below_alloc w3 (.cells #[.slice A3 (dig g).length c3] 24)).trans (hb4.mono (Nat.le_of_lt (by simp)))
  have H3 := H3.ext hb34
  have hg4 : w4.heap[w3.heap.size]? = some (.cells #[.slice A3 (dig g).length c3] 24 (0, 0)) := by rw [hb4.block _ (by simp)]; exact heap_alloc_new w3 _
  clear hb34 HX4 hc0 hb4
  have hgs : w3.heap.size < w4.heap.size := by
    rcases Nat.lt_or_ge w3.heap.size w4.heap.size with h | h
    · exact h
    · rw [Array.getElem?_eq_none h] at hg4; cases hg4
  go_upto_region 5 with fail
  obtain ⟨W5, hW5⟩ : ∃ W5, W5 = (w4.alloc (.cells #[.slice A4 (dig (val l / g)).length c4] 24)).alloc (.cells #[.slice A5 (dig (val l % g)).length c5] 24) := ⟨_, rfl⟩
  have hb5 : Below w4.heap.size w4 W5 := by rw [hW5]; exact (below_alloc _ _).trans ((below_alloc _ _).mono (by simp))
  have HX5 := HX.ext hb5
  have H35 := H3.ext hb5
  have H45 := H4.ext hb5
  have hq5 : W5.cell? ⟨w4.heap.size, 0, none⟩ = some (.slice A4 (dig (val l / g)).length c4) := by rw [hW5]; simp
  have hc1 := HX5.cell 1 0 rfl rfl
  have hc3 := cell_of (hb5.block _ hgs |>.trans hg4) 0
  rw [← hW5]
  clear hW5 hb5 HX H3 H4 H5 hg4 hgs
  go_wp2_with fail
  refine (rdivmod_any B A3 m _ d c3 r (dig g) _ (HB.ext HX5.below) H35 HM.out rfl (by omega) (by omega) (by rw [val_dig]; exact hg0)).mono ?_
  rintro e w6 ⟨A6, c6, A7, c7, rfl, H6, H7, hb6⟩
  rw [val_dig] at H6 H7
  rw [val_dig]
  have HX6 := HX5.ext hb6
  have H46 := H45.ext hb6
  have hq6 : w6.cell? ⟨w4.heap.size, 0, none⟩ = some (.slice A4 (dig (val l / g)).length c4) := by rw [hb6.cell (cell_lt hq5)]; exact hq5
  clear hc1 hc3 HX5 hq5 hb6 H35 H45 H7
  go_upto_region 6 with fail
  obtain ⟨W7, hW7⟩ : ∃ W7, W7 = (w6.alloc (.cells #[.slice A6 (dig (val r / g)).length c6] 24)).alloc (.cells #[.slice A7 (dig (val r % g)).length c7] 24) := ⟨_, rfl⟩
  have hb7 : Below w6.heap.size w6 W7 := by rw [hW7]; exact (below_alloc _ _).trans ((below_alloc _ _).mono (by simp))
  have HX := HX6.ext hb7
  have H4 := H46.ext hb7
  have H6 := H6.ext hb7
  have hq7 : W7.cell? ⟨w6.heap.size, 0, none⟩ = some (.slice A6 (dig (val r / g)).length c6) := by rw [hW7]; simp
  have hq8 : W7.cell? ⟨w4.heap.size, 0, none⟩ = some (.slice A4 (dig (val l / g)).length c4) := by rw [hb7.cell (cell_lt hq6)]; exact hq6
  rw [← hW7]
  clear hW7 hb7 HX6 H46 hq6
  have hc20 := HX.cell 2 0 rfl rfl
  have hf20 := HX.free 2 0 rfl
  have hc21 := HX.cell 2 1 rfl rfl
  have hf21 := HX.free 2 1 rfl
  have hc22 := HX.cell 2 2 rfl rfl
  have hf22 := HX.free 2 2 rfl
  go_wp2
  obtain ⟨hq0, hq1, hq2, hq, hkeep, hbel⟩ := set3 (w := w) (HX.blk 2 rfl) rfl rfl rfl HX.below (by omega) (.bool s) (.slice A4 (dig (val l / g)).length c4) (.slice A6 (dig (val r / g)).length c6)
  exact bodyPost_ret (v := .agg #[.bool s, .slice A4 (dig (val l / g)).length c4, .slice A6 (dig (val r / g)).length c6]) (by simp [results, Tryd.results53, go_sem, hq0, hq1, hq2]) rfl ⟨A4, c4, A6, c6, by rw [hs.out, hu.out, hd.out], by rw [hu.out]; exact H4.stay hkeep, by rw [hd.out]; exact H6.stay hkeep, hbel⟩

theorem qmade_any (s : Bool) (A B : Option Addr) (n m c d : Nat) (l r : List Nat) (w : World) (HA : Lim w A c l) (HB : Lim w B d r) (hn : n = l.length) (hm : m = r.length) (hl : n ≤ 268435456) (hl2 : m ≤ 268435456) :
    Calls Tryd.prog 53 #[.bool s, .agg #[.slice A n c], .agg #[.slice B m d]] w (RetQ w (rv s (val l) (val r))) := by
  rcases Nat.eq_zero_or_pos (val l) with h | h
  · rw [h, rv_num0]; exact qmade_num s A B n m c d l r w HA HB hn hm hl hl2 h
  · rcases Nat.eq_zero_or_pos (val r) with h2 | h2
    · rw [h2, rv_den0]; exact qmade_den s A B n m c d l r w HA HB hn hm hl hl2 h h2
    · exact qmade_pos s A B n m c d l r w HA HB hn hm hl hl2 h h2

theorem qmade_fr {w : World} {s : Bool} {A B : Option Addr} {n c m d : Nat} {q : Rat} {k : Nat} (h : Fr w s A n c B m d q k) (hk : k ≤ 268435456) :
    Calls Tryd.prog 53 #[.bool s, .agg #[.slice A n c], .agg #[.slice B m d]] w (RetQ w q) := by
  obtain ⟨⟨l, r, h1, h2, h3, h4, rfl⟩, h6, h7⟩ := h
  exact qmade_any s A B n m c d l r w h1 h2 h3 h4 (by omega) (by omega)


theorem qnorm_any {s : Bool} {A B : Option Addr} {n c m d : Nat} {q : Rat} {k : Nat} (w : World) (h : Fr w s A n c B m d q k) (hk : k ≤ 268435456) :
    Calls Tryd.prog 18 #[.agg #[.bool s, .slice A n c, .slice B m d]] w (RetQ w q) := by
  go_enter Tryd.func18, Tryd.ntmps18
  go_wp2_with fail
  have HX := Bx.two w #[.bool s, .slice A n c, .slice B m d] #[.bool false, .slice none 0 0, .slice none 0 0] 26 26
  refine (qmade_fr (h.ext HX.below) hk).mono ?_
  rintro e w1 ⟨A1, c1, B1, d1, rfl, H1, H2, hb⟩
  have HX := HX.ext hb
  have hc10 := HX.cell 1 0 rfl rfl
  have hf10 := HX.free 1 0 rfl
  have hc11 := HX.cell 1 1 rfl rfl
  have hf11 := HX.free 1 1 rfl
  have hc12 := HX.cell 1 2 rfl rfl
  have hf12 := HX.free 1 2 rfl
  go_wp2
  obtain ⟨hq0, hq1, hq2, hq, hkeep, hbel⟩ := set3 (w := w) (HX.blk 1 rfl) rfl rfl rfl HX.below (by omega) (.bool (sg q)) (.slice A1 (dig (nu q)).length c1) (.slice B1 (dig q.den).length d1)
  exact bodyPost_ret (v := .agg #[.bool (sg q), .slice A1 (dig (nu q)).length c1, .slice B1 (dig q.den).length d1]) (by simp [results, Tryd.results18, go_sem, hq0, hq1, hq2]) rfl ⟨A1, c1, B1, d1, rfl, H1.stay hkeep, H2.stay hkeep, hbel⟩


theorem qneg_any {s : Bool} {A B : Option Addr} {n c m d : Nat} {q : Rat} {k : Nat} (w : World) (h : Fr w s A n c B m d q k) (hk : k ≤ 268435456) :
    Calls Tryd.prog 20 #[.agg #[.bool s, .slice A n c, .slice B m d]] w (RetQ w (-q)) := by
  go_enter Tryd.func20, Tryd.ntmps20
  go_wp2_with fail
  have HX := Bx.two w #[.bool s, .slice A n c, .slice B m d] #[.bool false, .slice none 0 0, .slice none 0 0] 26 26
  refine (qmade_fr (h.ext HX.below).neg hk).mono ?_
  rintro e w1 ⟨A1, c1, B1, d1, rfl, H1, H2, hb⟩
  generalize -q = q at *
  have HX := HX.ext hb
  have hc10 := HX.cell 1 0 rfl rfl
  have hf10 := HX.free 1 0 rfl
  have hc11 := HX.cell 1 1 rfl rfl
  have hf11 := HX.free 1 1 rfl
  have hc12 := HX.cell 1 2 rfl rfl
  have hf12 := HX.free 1 2 rfl
  go_wp2
  obtain ⟨hq0, hq1, hq2, hq, hkeep, hbel⟩ := set3 (w := w) (HX.blk 1 rfl) rfl rfl rfl HX.below (by omega) (.bool (sg q)) (.slice A1 (dig (nu q)).length c1) (.slice B1 (dig q.den).length d1)
  exact bodyPost_ret (v := .agg #[.bool (sg q), .slice A1 (dig (nu q)).length c1, .slice B1 (dig q.den).length d1]) (by simp [results, Tryd.results20, go_sem, hq0, hq1, hq2]) rfl ⟨A1, c1, B1, d1, rfl, H1.stay hkeep, H2.stay hkeep, hbel⟩


theorem qmul_any {s t : Bool} {A B A' B' : Option Addr} {n c m d n' c' m' d' : Nat} {p q : Rat} {k k' : Nat} (w : World) (h : Fr w s A n c B m d p k) (h' : Fr w t A' n' c' B' m' d' q k') (hk : k ≤ 134217720) (hk' : k' ≤ 134217720) :
    Calls Tryd.prog 32 #[.agg #[.bool s, .slice A n c, .slice B m d], .agg #[.bool t, .slice A' n' c', .slice B' m' d']] w (RetQ w (p * q)) := by
  obtain ⟨⟨l, r, HA, HB, hn, hm, hp⟩, hnk, hmk⟩ := h
  obtain ⟨⟨l', r', HA', HB', hn', hm', hq⟩, hnk', hmk'⟩ := h'
  have e1 := len_mul (dig_len_of HA.small hn) (dig_len_of HA'.small hn')
  have e2 := len_mul (dig_len_of HB.small hm) (dig_len_of HB'.small hm')
  have hpq : p * q = rv (!(s == t)) (val l * val l') (val r * val r') := by rw [hp, hq, rv_mul]; rfl
  rw [hpq]
  have HN := Lib.hid hn
  have HM := Lib.hid hm
  have HN' := Lib.hid hn'
  have HM' := Lib.hid hm'
  clear hn hm hn' hm' hpq hp hq
  go_enter Tryd.func32, Tryd.ntmps32
  go_wp2_with fail
  obtain ⟨W, hW⟩ : ∃ W, W = ((w.alloc (.cells #[.bool s, .slice A n c, .slice B m d] 26)).alloc (.cells #[.bool t, .slice A' n' c', .slice B' m' d'] 26)).alloc (.cells #[.bool false, .slice none 0 0, .slice none 0 0] 26) := ⟨_, rfl⟩
  have HX := Bx.three w #[.bool s, .slice A n c, .slice B m d] #[.bool t, .slice A' n' c', .slice B' m' d'] #[.bool false, .slice none 0 0, .slice none 0 0] 26 26 26
  rw [← hW] at HX
  rw [← hW]
  clear hW
  have HX1 := HX.ext (drew_ext W)
  have held : ∀ {W' : World}, Bx w W' [(#[.bool s, .slice A n c, .slice B m d], 26), (#[.bool t, .slice A' n' c', .slice B' m' d'], 26), (#[.bool false, .slice none 0 0, .slice none 0 0], 26)] → W'.cell? ⟨w.heap.size, 0, none⟩ = some (.bool s) ∧ W'.cell? ⟨w.heap.size, 1, none⟩ = some (.slice A n c) ∧ W'.cell? ⟨w.heap.size, 2, none⟩ = some (.slice B m d) ∧ W'.cell? ⟨w.heap.size + 1, 0, none⟩ = some (.bool t) ∧ W'.cell? ⟨w.heap.size + 1, 1, none⟩ = some (.slice A' n' c') ∧ W'.cell? ⟨w.heap.size + 1, 2, none⟩ = some (.slice B' m' d') :=
    fun h => ⟨h.cell 0 0 rfl rfl, h.cell 0 1 rfl rfl, h.cell 0 2 rfl rfl, h.cell 1 0 rfl rfl, h.cell 1 1 rfl rfl, h.cell 1 2 rfl rfl⟩
  go_region_held3 (fun W' => W'.cell? ⟨w.heap.size, 0, none⟩ = some (.bool s) ∧ W'.cell? ⟨w.heap.size, 1, none⟩ = some (.slice A n c) ∧ W'.cell? ⟨w.heap.size, 2, none⟩ = some (.slice B m d) ∧ W'.cell? ⟨w.heap.size + 1, 0, none⟩ = some (.bool t) ∧ W'.cell? ⟨w.heap.size + 1, 1, none⟩ = some (.slice A' n' c') ∧ W'.cell? ⟨w.heap.size + 1, 2, none⟩ = some (.slice B' m' d'))
    (first | exact held HX | exact held HX1 | exact held HX2 | exact held HX3 | exact held HX4 | (rw [cell_set3 _ _ _ (by simp; omega), cell_set3 _ _ _ (by simp; omega), cell_set3 _ _ _ (by simp; omega), cell_set3 _ _ _ (by simp), cell_set3 _ _ _ (by simp), cell_set3 _ _ _ (by simp)]; exact held HX4))
    (first
      | (go_at_call_of 60 (Value.agg #[.slice A n c]); refine (rmul_any A A' n n' c c' l l' _ (HA.ext HX1.below) (HA'.ext HX1.below) HN.out HN'.out (by omega) (by omega)).mono ?_; rintro e w1 ⟨A1, c1, rfl, H1, hb1⟩; have HX2 := HX1.ext hb1)
      | (go_at_call_of 60 (Value.agg #[.slice B m d]); refine (rmul_any B B' m m' d d' r r' _ (HB.ext HX2.below) (HB'.ext HX2.below) HM.out HM'.out (by omega) (by omega)).mono ?_; rintro e w2 ⟨A2, c2, rfl, H2, hb2⟩; have HX3 := HX2.ext hb2; have H1 := H1.ext hb2)
      | (go_at_call 53; refine (qmade_fr (Fr.of2 (k := 268435456) H1 H2 (by omega) (by omega)) (Nat.le_refl _)).mono ?_; rintro e w3 ⟨A3, c3, B3, d3, rfl, H3, H4, hb3⟩; have HX4 := HX3.ext hb3; have hc20 := HX4.cell 2 0 rfl rfl; have hf20 := HX4.free 2 0 rfl; have hc21 := HX4.cell 2 1 rfl rfl; have hf21 := HX4.free 2 1 rfl; have hc22 := HX4.cell 2 2 rfl rfl; have hf22 := HX4.free 2 2 rfl))
  go_wp2
  obtain ⟨hq0, hq1, hq2, hq, hkeep, hbel⟩ := set3 (w := w) (HX4.blk 2 rfl) rfl rfl rfl HX4.below (by omega) (.bool (sg (rv (!(s == t)) (val l * val l') (val r * val r')))) (.slice A3 (dig (nu (rv (!(s == t)) (val l * val l') (val r * val r')))).length c3) (.slice B3 (dig (rv (!(s == t)) (val l * val l') (val r * val r')).den).length d3)
  exact bodyPost_ret (v := .agg #[.bool (sg (rv (!(s == t)) (val l * val l') (val r * val r'))), .slice A3 (dig (nu (rv (!(s == t)) (val l * val l') (val r * val r')))).length c3, .slice B3 (dig (rv (!(s == t)) (val l * val l') (val r * val r')).den).length d3]) (by simp [results, Tryd.results32, go_sem, hq0, hq1, hq2]) rfl ⟨A3, c3, B3, d3, rfl, H3.stay hkeep, H4.stay hkeep, hbel⟩

theorem qmagnitude_any (n : Int) (hlo : -9223372036854775808 ≤ n) (hhi : n ≤ 9223372036854775807) (w : World) :
    Calls Tryd.prog 54 #[.int .i64 n] w (RetN w n.natAbs) := by
  obtain ⟨u, hu⟩ : ∃ u, n.natAbs = u := ⟨_, rfl⟩
  rw [hu]
  have hu2 : u ≤ 9223372036854775808 := by omega
  by_cases h0 : n < 0
  · have hw : IntKind.u64.wrap (-IntKind.u64.wrap n) = (u : Int) := by
      unfold IntKind.wrap; simp only [IntKind.signed, IntKind.bits]; simp; omega
    clear hu
    go_enter Tryd.func54, Tryd.ntmps54
    go_wp2_with fail
    refine (rof_any u _ (by omega)).mono ?_
    rintro e w1 ⟨A1, c1, rfl, H1, hb1⟩
    have HX := (Bx.one w #[.slice none 0 0] 24).ext hb1
    have hc := HX.cell0 0 rfl rfl
    have hf := HX.free0 0 rfl
    go_wp2
    have hav := H1.avoid_blk (HX.blk0 rfl) (by simp [Value.noInt])
    have hq := set_same (v := .slice A1 (dig u).length c1) hc
    exact bodyPost_ret (v := .agg #[.slice A1 (dig u).length c1]) (by simp [results, Tryd.results54, go_sem, hq]) rfl ⟨A1, c1, rfl, H1.setCell hav _, HX.below.setCell (by simp) _⟩
  · obtain rfl : n = (u : Int) := by omega
    clear hu
    go_enter Tryd.func54, Tryd.ntmps54
    go_wp2_with fail
    refine (rof_any u _ (by omega)).mono ?_
    rintro e w1 ⟨A1, c1, rfl, H1, hb1⟩
    have HX := (Bx.one w #[.slice none 0 0] 24).ext hb1
    have hc := HX.cell0 0 rfl rfl
    have hf := HX.free0 0 rfl
    go_wp2
    have hav := H1.avoid_blk (HX.blk0 rfl) (by simp [Value.noInt])
    have hq := set_same (v := .slice A1 (dig u).length c1) hc
    exact bodyPost_ret (v := .agg #[.slice A1 (dig u).length c1]) (by simp [results, Tryd.results54, go_sem, hq]) rfl ⟨A1, c1, rfl, H1.setCell hav _, HX.below.setCell (by simp) _⟩


theorem qof_any (n d : Int) (hlo : -9223372036854775808 ≤ n) (hhi : n ≤ 9223372036854775807) (hlo2 : -9223372036854775808 ≤ d) (hhi2 : d ≤ 9223372036854775807) (w : World) :
    Calls Tryd.prog 16 #[.int .i64 n, .int .i64 d] w (RetQ w (rv (!(decide (n < 0) == decide (d < 0))) n.natAbs d.natAbs)) := by
  obtain ⟨x, hx⟩ : ∃ x, n.natAbs = x := ⟨_, rfl⟩
  obtain ⟨y, hy⟩ : ∃ y, d.natAbs = y := ⟨_, rfl⟩
  have e1 : (dig x).length ≤ 3 := dig_len_le (Nat.lt_of_le_of_lt (show x ≤ 9223372036854775808 by omega) (by decide))
  have e2 : (dig y).length ≤ 3 := dig_len_le (Nat.lt_of_le_of_lt (show y ≤ 9223372036854775808 by omega) (by decide))
  rw [hx, hy]
  have hx := Lib.hid hx
  have hy := Lib.hid hy
  go_enter Tryd.func16, Tryd.ntmps16
  go_wp2_with fail
  have HX := Bx.one w #[.bool false, .slice none 0 0, .slice none 0 0] 26
  refine (qmagnitude_any n hlo hhi _).mono ?_
  rw [hx.out]
  rintro e w1 ⟨A1, c1, rfl, H1, hb1⟩
  have HX := HX.ext hb1
  go_wp2_with fail
  refine (qmagnitude_any d hlo2 hhi2 _).mono ?_
  rw [hy.out]
  rintro e w2 ⟨A2, c2, rfl, H2, hb2⟩
  have HX := HX.ext hb2
  have H1 := H1.ext hb2
  go_wp2_with fail
  refine (qmade_fr (Fr.of2 (k := 3) H1 H2 e1 e2) (by omega)).mono ?_
  rintro e w3 ⟨A3, c3, B3, d3, rfl, H3, H4, hb3⟩
  have HX := HX.ext hb3
  generalize rv (!(decide (n < 0) == decide (d < 0))) x y = q at *
  have hc10 := HX.cell0 0 rfl rfl
  have hf10 := HX.free0 0 rfl
  have hc11 := HX.cell0 1 rfl rfl
  have hf11 := HX.free0 1 rfl
  have hc12 := HX.cell0 2 rfl rfl
  have hf12 := HX.free0 2 rfl
  go_wp2
  obtain ⟨hq0, hq1, hq2, hq, hkeep, hbel⟩ := set3 (w := w) (HX.blk0 rfl) rfl rfl rfl HX.below (by omega) (.bool (sg q)) (.slice A3 (dig (nu q)).length c3) (.slice B3 (dig q.den).length d3)
  exact bodyPost_ret (v := .agg #[.bool (sg q), .slice A3 (dig (nu q)).length c3, .slice B3 (dig q.den).length d3]) (by simp [results, Tryd.results16, go_sem, hq0, hq1, hq2]) rfl ⟨A3, c3, B3, d3, rfl, H3.stay hkeep, H4.stay hkeep, hbel⟩

set_option maxHeartbeats 1600000 in
set_option maxRecDepth 100000 in
theorem qfloor_any {s : Bool} {A B : Option Addr} {n c m d : Nat} {q : Rat} {k : Nat} (w : World) (h : Fr w s A n c B m d q k) (hk : k ≤ 67108850) :
    Calls Tryd.prog 29 #[.agg #[.bool s, .slice A n c, .slice B m d]] w (RetQ w (flo q)) := by
  have hsz := h.sz
  have hsz1 := hsz.1
  have hsz2 := hsz.2
  have hd0 := q.den_pos
  have hflo := Lib.hid (flo_rv q)
  obtain ⟨X, hX⟩ : ∃ X, nu q / q.den = X := ⟨_, rfl⟩
  obtain ⟨Y, hY⟩ : ∃ Y, nu q % q.den = Y := ⟨_, rfl⟩
  rw [hX, hY] at hflo
  have hlX : (dig X).length ≤ k + 1 := by rw [← hX]; exact Nat.le_trans (dig_mono (Nat.div_le_self _ _)) hsz1
  have hlY : (dig Y).length ≤ k + 1 := by rw [← hY]; exact Nat.le_trans (dig_mono (Nat.mod_le _ _)) hsz1
  have hlX1 := len_succ hlX
  have hl1 : (dig 1).length ≤ 1 := dig_len_le (by decide)
  have HXX := Lib.hid hX
  have HYY := Lib.hid hY
  clear hX hY
  go_enter Tryd.func29, Tryd.ntmps29
  go_wp2_with fail
  have HX := Bx.two w #[.bool s, .slice A n c, .slice B m d] #[.bool false, .slice none 0 0, .slice none 0 0] 26 26
  have hc00 := HX.cell0 0 rfl rfl
  have hc01 := HX.cell0 1 rfl rfl
  have hc02 := HX.cell0 2 rfl rfl
  refine (qnorm_any _ (h.ext HX.below) (by omega)).mono ?_
  rintro e w1 ⟨A1, c1, B1, d1, rfl, H1, H2, hb1⟩
  clear hc00 hc01 hc02
  have HX1 := HX.ext hb1
  have hc00 := HX1.cell0 0 rfl rfl
  have hc01 := HX1.cell0 1 rfl rfl
  have hc02 := HX1.cell0 2 rfl rfl
  have hf00 := HX1.free0 0 rfl
  have hf01 := HX1.free0 1 rfl
  have hf02 := HX1.free0 2 rfl
  go_upto_region 2 with fail
  have HX2 := HX1.put3 0 rfl (.bool (sg q)) (.slice A1 (dig (nu q)).length c1) (.slice B1 (dig q.den).length d1)
  have hk2 := HX1.put3_keep 0 rfl rfl rfl rfl (.bool (sg q)) (.slice A1 (dig (nu q)).length c1) (.slice B1 (dig q.den).length d1)
  obtain ⟨W2, hW2⟩ : ∃ W2, W2 = ((w1.setCell ⟨w.heap.size, 0, none⟩ (.bool (sg q))).setCell ⟨w.heap.size, 1, none⟩ (.slice A1 (dig (nu q)).length c1)).setCell ⟨w.heap.size, 2, none⟩ (.slice B1 (dig q.den).length d1) := ⟨_, rfl⟩
  simp only [Nat.add_zero] at HX2 hk2
  rw [← hW2] at HX2 hk2
  rw [← hW2]
  clear hW2 hc00 hc01 hc02 hf00 hf01 hf02
  have H1 := H1.stay hk2
  have H2 := H2.stay hk2
  clear hk2
  have hc00 := HX2.cell0 0 rfl rfl
  have hc01 := HX2.cell0 1 rfl rfl
  have hc02 := HX2.cell0 2 rfl rfl
  go_wp2_with fail
  refine (rdivmod_any A1 B1 _ _ c1 d1 (dig (nu q)) (dig q.den) _ H1 H2 rfl rfl (by omega) (by omega) (by rw [val_dig]; exact hd0)).mono ?_
  rw [val_dig, val_dig, HXX.out, HYY.out]
  rintro e w3 ⟨A3, c3, A4, c4, rfl, H3, H4, hb3⟩
  have HX3 := HX2.ext hb3
  clear hc00 hc01 hc02 H1 H2
  go_upto_region 3 with fail
  obtain ⟨W4, hW4⟩ : ∃ W4, W4 = (w3.alloc (.cells #[.slice A3 (dig X).length c3] 24)).alloc (.cells #[.slice A4 (dig Y).length c4] 24) := ⟨_, rfl⟩
  have hb4 : Below w3.heap.size w3 W4 := by rw [hW4]; exact bel_al (bel_al (Below.refl _ _) _) _
  have hx3 : W4.heap[w3.heap.size]? = some (.cells #[.slice A3 (dig X).length c3] 24 (0, 0)) := by rw [hW4, (below_alloc _ _).block _ (by simp)]; exact heap_alloc_new w3 _
  have hx4 : W4.cell? ⟨w3.heap.size + 1, 0, none⟩ = some (.slice A4 (dig Y).length c4) := by rw [hW4]; exact al_new (by simp) _ _
  have hsz3 := HX3.size
  simp only [List.length_cons, List.length_nil, List.length_set] at hsz3
  rw [← hW4]
  clear hW4
  have HX4 := HX3.ext hb4
  have H3 := H3.ext hb4
  have H4 := H4.ext hb4
  have hx3c : W4.cell? ⟨w3.heap.size, 0, none⟩ = some (.slice A3 (dig X).length c3) := cell_of hx3 0
  have hc00 := HX4.cell0 0 rfl rfl
  have hbelow := HX4.below
  cases hs : sg q
  · have hfl := Lib.hid (show flo q = rv false X 1 by rw [hflo.out, hs]; rfl)
    rw [hs] at hc00 HX4
    have hs := Lib.hid hs
    go_upto_region 5 with fail
    have HB1 : Below W4.heap.size W4 W4.drew := drew_ext W4
    have held : ∀ {W' : World}, Below W4.heap.size W4 W' → W'.cell? ⟨w.heap.size, 0, none⟩ = some (.bool false) ∧ W'.cell? ⟨w3.heap.size, 0, none⟩ = some (.slice A3 (dig X).length c3) :=
      fun hb => ⟨(HX4.ext hb).cell 0 0 rfl rfl, by rw [hb.cell (cell_lt hx3c)]; exact hx3c⟩
    go_region_held3 (fun W' => W'.cell? ⟨w.heap.size, 0, none⟩ = some (.bool false) ∧ W'.cell? ⟨w3.heap.size, 0, none⟩ = some (.slice A3 (dig X).length c3))
      (first | exact held (Below.refl _ _) | exact held HB1 | exact held HB8 | exact held HB9 | (rw [cell_set3 _ _ _ (by simp), cell_set3 _ _ _ (by simp; omega)]; exact held HB9))
      (first
        | (go_at_call 59; refine (qone_any _).mono ?_; rintro e w8 ⟨A8, c8, rfl, H8, hb8⟩; have HB8 := bel_trans HB1 hb8)
        | (go_at_call 53; refine (qmade_fr (Fr.of2 (k := 268435456) (H3.ext HB8) H8 (by omega) (by omega)) (Nat.le_refl _)).mono ?_; rw [← hfl.out]; rintro e w9 ⟨A9, c9, B9, d9, rfl, H9, H10, hb9⟩; have HB9 := bel_trans HB8 hb9; have HX9 := HX4.ext HB9; have hc20 := HX9.cell 1 0 rfl rfl; have hf20 := HX9.free 1 0 rfl; have hc21 := HX9.cell 1 1 rfl rfl; have hf21 := HX9.free 1 1 rfl; have hc22 := HX9.cell 1 2 rfl rfl; have hf22 := HX9.free 1 2 rfl))
    go_wp2
    obtain ⟨hq0, hq1, hq2, hq, hkeep, hbel⟩ := set3 (w := w) (HX9.blk 1 rfl) rfl rfl rfl HX9.below (by omega) (.bool (sg (flo q))) (.slice A9 (dig (nu (flo q))).length c9) (.slice B9 (dig (flo q).den).length d9)
    exact bodyPost_ret (v := .agg #[.bool (sg (flo q)), .slice A9 (dig (nu (flo q))).length c9, .slice B9 (dig (flo q).den).length d9]) (by simp [results, Tryd.results29, go_sem, hq0, hq1, hq2]) rfl ⟨A9, c9, B9, d9, rfl, H9.stay hkeep, H10.stay hkeep, hbel⟩
  · rw [hs] at hc00 HX4
    by_cases hy : Y = 0
    · have hfl := Lib.hid (show flo q = rv true X 1 by rw [hflo.out, hs, hy]; rfl)
      have hz := decide_eq_true hy
      have hs := Lib.hid hs
      clear hy
      go_wp2_with fail
      refine (qzero_any A4 _ c4 (dig Y) _ H4 rfl (by omega)).mono ?_
      rw [val_dig, hz]
      rintro e w5 ⟨rfl, hb5⟩
      have HX5 := HX4.ext hb5
      have hx5c : w5.cell? ⟨w3.heap.size, 0, none⟩ = some (.slice A3 (dig X).length c3) := by rw [hb5.cell (cell_lt hx3c)]; exact hx3c
      have H35 := H3.ext hb5
      clear hc00 hx4 hx3 hb4 hbelow hb5 H4
      go_upto_region 5 with fail
      have HB1 : Below w5.heap.size w5 w5.drew := drew_ext w5
      have held : ∀ {W' : World}, Below w5.heap.size w5 W' → W'.cell? ⟨w.heap.size, 0, none⟩ = some (.bool true) ∧ W'.cell? ⟨w3.heap.size, 0, none⟩ = some (.slice A3 (dig X).length c3) :=
        fun hb => ⟨(HX5.ext hb).cell 0 0 rfl rfl, by rw [hb.cell (cell_lt hx5c)]; exact hx5c⟩
      go_region_held3 (fun W' => W'.cell? ⟨w.heap.size, 0, none⟩ = some (.bool true) ∧ W'.cell? ⟨w3.heap.size, 0, none⟩ = some (.slice A3 (dig X).length c3))
        (first | exact held (Below.refl _ _) | exact held HB1 | exact held HB8 | exact held HB9 | (rw [cell_set3 _ _ _ (by simp), cell_set3 _ _ _ (by simp; omega)]; exact held HB9))
        (first
          | (go_at_call 59; refine (qone_any _).mono ?_; rintro e w8 ⟨A8, c8, rfl, H8, hb8⟩; have HB8 := bel_trans HB1 hb8)
          | (go_at_call 53; refine (qmade_fr (Fr.of2 (k := 268435456) (H35.ext HB8) H8 (by omega) (by omega)) (Nat.le_refl _)).mono ?_; rw [← hfl.out]; rintro e w9 ⟨A9, c9, B9, d9, rfl, H9, H10, hb9⟩; have HB9 := bel_trans HB8 hb9; have HX9 := HX5.ext HB9; have hc20 := HX9.cell 1 0 rfl rfl; have hf20 := HX9.free 1 0 rfl; have hc21 := HX9.cell 1 1 rfl rfl; have hf21 := HX9.free 1 1 rfl; have hc22 := HX9.cell 1 2 rfl rfl; have hf22 := HX9.free 1 2 rfl))
      go_wp2
      obtain ⟨hq0, hq1, hq2, hq, hkeep, hbel⟩ := set3 (w := w) (HX9.blk 1 rfl) rfl rfl rfl HX9.below (by omega) (.bool (sg (flo q))) (.slice A9 (dig (nu (flo q))).length c9) (.slice B9 (dig (flo q).den).length d9)
      exact bodyPost_ret (v := .agg #[.bool (sg (flo q)), .slice A9 (dig (nu (flo q))).length c9, .slice B9 (dig (flo q).den).length d9]) (by simp [results, Tryd.results29, go_sem, hq0, hq1, hq2]) rfl ⟨A9, c9, B9, d9, rfl, H9.stay hkeep, H10.stay hkeep, hbel⟩
    · have hfl := Lib.hid (show flo q = rv true (X + 1) 1 by rw [hflo.out, hs]; simp [Nat.pos_of_ne_zero hy])
      have hz := decide_eq_false hy
      have hs := Lib.hid hs
      clear hy
      go_wp2_with fail
      refine (qzero_any A4 _ c4 (dig Y) _ H4 rfl (by omega)).mono ?_
      rw [val_dig, hz]
      rintro e w5 ⟨rfl, hb5⟩
      have HX5 := HX4.ext hb5
      have hx5 : w5.heap[w3.heap.size]? = some (.cells #[.slice A3 (dig X).length c3] 24 (0, 0)) := by rw [hb5.block _ (cell_lt hx3c)]; exact hx3
      have H35 := H3.ext hb5
      clear hc00 hx4 hx3 hx3c hb4 hbelow hb5 H4 HX4 H3
      have hx5c : w5.cell? ⟨w3.heap.size, 0, none⟩ = some (.slice A3 (dig X).length c3) := cell_of hx5 0
      have hx5f : w5.frozen? ⟨w3.heap.size, 0, none⟩ = false := frozen_of hx5 0
      go_upto_region 4 with fail
      have HB1 : Below w5.heap.size w5 w5.drew := drew_ext w5
      go_region_with (first
        | (go_at_call 59; refine (qone_any _).mono ?_; rintro e w6 ⟨A6, c6, rfl, H6, hb6⟩; have HB6 := bel_trans HB1 hb6; have hx6 : w6.cell? ⟨w3.heap.size, 0, none⟩ = some (.slice A3 (dig X).length c3) := by rw [HB6.cell (cell_lt hx5c)]; exact hx5c)
        | (go_at_call 58; refine (radd_any A3 A6 _ _ c3 c6 (dig X) (dig 1) _ (H35.ext HB6) H6 rfl rfl (by omega) (by omega)).mono ?_; rw [val_dig, val_dig]; rintro e w7 ⟨A7, c7, rfl, H7, hb7⟩; have HB7 := bel_trans HB6 hb7; have hx7 : w7.heap[w3.heap.size]? = some (.cells #[.slice A3 (dig X).length c3] 24 (0, 0)) := (by rw [HB7.block _ (cell_lt hx5c)]; exact hx5); have hx7c : w7.cell? ⟨w3.heap.size, 0, none⟩ = some (.slice A3 (dig X).length c3) := cell_of hx7 0; have hx7f : w7.frozen? ⟨w3.heap.size, 0, none⟩ = false := frozen_of hx7 0))
      all_goals (
        go_upto_region 5 with fail
        have HX7 := (HX5.ext HB7).set_far (p := ⟨w3.heap.size, 0, none⟩) (by simp; omega) (.slice A7 (dig (X + 1)).length c7)
        have H7 := H7.stay ((Keep.refl w7).box hx7c rfl (.slice A7 (dig (X + 1)).length c7))
        have hx8 : (w7.setCell ⟨w3.heap.size, 0, none⟩ (.slice A7 (dig (X + 1)).length c7)).cell? ⟨w3.heap.size, 0, none⟩ = some (.slice A7 (dig (X + 1)).length c7) := set_same hx7c
        obtain ⟨W8, hW8⟩ : ∃ W8, W8 = w7.setCell ⟨w3.heap.size, 0, none⟩ (.slice A7 (dig (X + 1)).length c7) := ⟨_, rfl⟩
        rw [← hW8] at HX7 H7 hx8
        rw [← hW8]
        clear hW8 hx7f hx7c hx7 hx5f hx5c hx5 hx6 HB1 HB6 HB7
        have HB1 : Below W8.heap.size W8 W8.drew := drew_ext W8
        have held : ∀ {W' : World}, Below W8.heap.size W8 W' → W'.cell? ⟨w.heap.size, 0, none⟩ = some (.bool true) ∧ W'.cell? ⟨w3.heap.size, 0, none⟩ = some (.slice A7 (dig (X + 1)).length c7) :=
          fun hb => ⟨(HX7.ext hb).cell 0 0 rfl rfl, by rw [hb.cell (cell_lt hx8)]; exact hx8⟩
        go_region_held3 (fun W' => W'.cell? ⟨w.heap.size, 0, none⟩ = some (.bool true) ∧ W'.cell? ⟨w3.heap.size, 0, none⟩ = some (.slice A7 (dig (X + 1)).length c7))
          (first | exact held (Below.refl _ _) | exact held HB1 | exact held HB8 | exact held HB9 | (rw [cell_set3 _ _ _ (by simp), cell_set3 _ _ _ (by simp; omega)]; exact held HB9))
          (first
            | (go_at_call 59; refine (qone_any _).mono ?_; rintro e w8 ⟨A8, c8, rfl, H8, hb8⟩; have HB8 := bel_trans HB1 hb8)
            | (go_at_call 53; refine (qmade_fr (Fr.of2 (k := 268435456) (H7.ext HB8) H8 (by omega) (by omega)) (Nat.le_refl _)).mono ?_; rw [← hfl.out]; rintro e w9 ⟨A9, c9, B9, d9, rfl, H9, H10, hb9⟩; have HB9 := bel_trans HB8 hb9; have HX9 := HX7.ext HB9; have hc20 := HX9.cell 1 0 rfl rfl; have hf20 := HX9.free 1 0 rfl; have hc21 := HX9.cell 1 1 rfl rfl; have hf21 := HX9.free 1 1 rfl; have hc22 := HX9.cell 1 2 rfl rfl; have hf22 := HX9.free 1 2 rfl))
        go_wp2
        obtain ⟨hq0, hq1, hq2, hq, hkeep, hbel⟩ := set3 (w := w) (HX9.blk 1 rfl) rfl rfl rfl HX9.below (by omega) (.bool (sg (flo q))) (.slice A9 (dig (nu (flo q))).length c9) (.slice B9 (dig (flo q).den).length d9)
        exact bodyPost_ret (v := .agg #[.bool (sg (flo q)), .slice A9 (dig (nu (flo q))).length c9, .slice B9 (dig (flo q).den).length d9]) (by simp [results, Tryd.results29, go_sem, hq0, hq1, hq2]) rfl ⟨A9, c9, B9, d9, rfl, H9.stay hkeep, H10.stay hkeep, hbel⟩)
end Go.Proofs.YtfndbmflllmpgaaDoor
