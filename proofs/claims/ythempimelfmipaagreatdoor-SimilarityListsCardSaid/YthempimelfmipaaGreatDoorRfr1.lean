/- The reference's fractions, first part: of, zero, New, Norm, Neg, Mul, Of. -/
import Derived.Test.YthempimelfmipaaGreatDoorRef4
import Derived.Test.YthempimelfmipaaGreatDoorFrac6
namespace Go.Proofs.YthempimelfmipaaGreatDoor
open Go.RowKit Go.Proofs Go

set_option maxRecDepth 100000 in
theorem qone_any (w : World) : Calls Tryz.prog 116 #[.int .i64 1] w (RetN w 1) := by
  go_enter Tryz.func116, Tryz.ntmps116
  go_wp2_with fail
  refine (rof_any 1 _ (by omega)).mono ?_
  rintro e w1 ⟨A1, c1, rfl, H1, hb1⟩
  have HX := (Bx.one w #[.slice none 0 0] 31).ext hb1
  have hc := HX.cell0 0 rfl rfl
  have hf := HX.free0 0 rfl
  go_wp2
  have hav := H1.avoid_blk (HX.blk0 rfl) (by simp [Value.noInt])
  have hq := set_same (v := .slice A1 (dig 1).length c1) hc
  exact bodyPost_ret (v := .agg #[.slice A1 (dig 1).length c1]) (by simp [results, Tryz.results116, go_sem, hq]) rfl ⟨A1, c1, rfl, H1.setCell hav _, HX.below.setCell (by simp) _⟩

theorem qzero_any (A : Option Addr) (n c : Nat) (l : List Nat) (w : World) (H : Lim w A c l) (hn : n = l.length) (hl : n ≤ 536870910) :
    Calls Tryz.prog 100 #[.agg #[.slice A n c]] w fun e w' => e = .returned (.bool (decide (val l = 0))) ∧ Below w.heap.size w w' := by
  have HN := Lib.hid hn
  clear hn
  have hz : (cmpI (val l) 0 == 0) = decide (val l = 0) := by
    by_cases h : val l = 0
    · rw [cmpI_eq h, decide_eq_true h]; rfl
    · rw [cmpI_gt (by omega), decide_eq_false h]; rfl
  have HZ := Lib.hid hz
  clear hz
  go_enter Tryz.func100, Tryz.ntmps100
  go_wp2_with fail
  have HX := Bx.one w #[.slice A n c] 31
  refine (rcmp_any A none n 0 c 0 l [] _ (H.ext HX.below) (Lim.nil _ _ _) HN.out rfl (by omega) (by omega)).mono ?_
  rintro e w1 ⟨rfl, hb1⟩
  rw [val_nil]
  have HX1 := HX.ext hb1
  go_wp2
  go_ret
  exact ⟨ret_bool HZ.out, HX1.below⟩



theorem qmade_num (s : Bool) (A B : Option Addr) (n m c d : Nat) (l r : List Nat) (w : World) (HA : Lim w A c l) (_ : Lim w B d r) (hn : n = l.length) (hm : m = r.length) (hl : n ≤ 268435456) (_ : m ≤ 268435456) (h0 : val l = 0) :
    Calls Tryz.prog 94 #[.bool s, .agg #[.slice A n c], .agg #[.slice B m d]] w (RetQ w 0) := by
  have hz : decide (val l = 0) = true := decide_eq_true h0
  clear h0
  have HN := Lib.hid hn
  have HM := Lib.hid hm
  clear hn hm
  go_enter Tryz.func94, Tryz.ntmps94
  go_wp2_with fail
  have HX := Bx.three w #[.slice A n c] #[.slice B m d] #[.bool false, .slice none 0 0, .slice none 0 0] 31 31 33
  refine (qzero_any A n c l _ (HA.ext HX.below) HN.out (by omega)).mono ?_
  rintro e w1 ⟨rfl, hb1⟩
  have HX := HX.ext hb1
  clear hb1
  go_wp2_with fail
  refine (qone_any _).mono ?_
  rintro e w2 ⟨A2, c2, rfl, H2, hb2⟩
  have HX := HX.ext hb2
  have hc20 := HX.cell 2 0 rfl rfl
  have hf20 := HX.free 2 0 rfl
  have hc21 := HX.cell 2 1 rfl rfl
  have hf21 := HX.free 2 1 rfl
  have hc22 := HX.cell 2 2 rfl rfl
  have hf22 := HX.free 2 2 rfl
  go_wp2
  obtain ⟨hq0, hq1, hq2, hq, hkeep, hbel⟩ := set3 (w := w) (HX.blk 2 rfl) rfl rfl rfl HX.below (by omega) (.bool false) (.slice none 0 0) (.slice A2 (dig 1).length c2)
  exact bodyPost_ret (v := .agg #[.bool false, .slice none 0 0, .slice A2 (dig 1).length c2]) (by simp [results, Tryz.results94, go_sem, hq0, hq1, hq2]) rfl ⟨none, 0, A2, c2, rfl, Lim.nil _ _ _, H2.stay hkeep, hbel⟩


theorem qmade_den (s : Bool) (A B : Option Addr) (n m c d : Nat) (l r : List Nat) (w : World) (HA : Lim w A c l) (HB : Lim w B d r) (hn : n = l.length) (hm : m = r.length) (hl : n ≤ 268435456) (hl2 : m ≤ 268435456) (h0 : 0 < val l) (h1 : val r = 0) :
    Calls Tryz.prog 94 #[.bool s, .agg #[.slice A n c], .agg #[.slice B m d]] w (RetQ w 0) := by
  have hz : decide (val l = 0) = false := decide_eq_false (by omega)
  have hz2 : decide (val r = 0) = true := decide_eq_true h1
  clear h0 h1
  have HN := Lib.hid hn
  have HM := Lib.hid hm
  clear hn hm
  go_enter Tryz.func94, Tryz.ntmps94
  go_wp2_with fail
  have HX := Bx.three w #[.slice A n c] #[.slice B m d] #[.bool false, .slice none 0 0, .slice none 0 0] 31 31 33
  refine (qzero_any A n c l _ (HA.ext HX.below) HN.out (by omega)).mono ?_
  rintro e w1 ⟨rfl, hb1⟩
  have HX := HX.ext hb1
  clear hb1
  have hc1 : w1.cell? ⟨w.heap.size + 1, 0, none⟩ = some (.slice B m d) := HX.cell 1 0 rfl rfl
  go_wp2_with fail
  refine (qzero_any B m d r _ (HB.ext HX.below) HM.out (by omega)).mono ?_
  rintro e w2 ⟨rfl, hb2⟩
  have HX := HX.ext hb2
  clear hb2
  go_wp2_with fail
  refine (qone_any _).mono ?_
  rintro e w2 ⟨A2, c2, rfl, H2, hb2⟩
  have HX := HX.ext hb2
  have hc20 := HX.cell 2 0 rfl rfl
  have hf20 := HX.free 2 0 rfl
  have hc21 := HX.cell 2 1 rfl rfl
  have hf21 := HX.free 2 1 rfl
  have hc22 := HX.cell 2 2 rfl rfl
  have hf22 := HX.free 2 2 rfl
  go_wp2
  obtain ⟨hq0, hq1, hq2, hq, hkeep, hbel⟩ := set3 (w := w) (HX.blk 2 rfl) rfl rfl rfl HX.below (by omega) (.bool false) (.slice none 0 0) (.slice A2 (dig 1).length c2)
  exact bodyPost_ret (v := .agg #[.bool false, .slice none 0 0, .slice A2 (dig 1).length c2]) (by simp [results, Tryz.results94, go_sem, hq0, hq1, hq2]) rfl ⟨none, 0, A2, c2, rfl, Lim.nil _ _ _, H2.stay hkeep, hbel⟩


theorem qmade_pos (s : Bool) (A B : Option Addr) (n m c d : Nat) (l r : List Nat) (w : World) (HA : Lim w A c l) (HB : Lim w B d r) (hn : n = l.length) (hm : m = r.length) (hl : n ≤ 268435456) (hl2 : m ≤ 268435456) (h0 : 0 < val l) (h1 : 0 < val r) :
    Calls Tryz.prog 94 #[.bool s, .agg #[.slice A n c], .agg #[.slice B m d]] w (RetQ w (rv s (val l) (val r))) := by
  have hz : decide (val l = 0) = false := decide_eq_false (by omega)
  have hz2 : decide (val r = 0) = false := decide_eq_false (by omega)
  have hs := Lib.hid (sg_rv s h0 h1)
  have hu := Lib.hid (nu_rv s (a := val l) h1)
  have hd := Lib.hid (den_rv s (a := val l) h1)
  have hg0 : 0 < Nat.gcd (val l) (val r) := Nat.gcd_pos_of_pos_left _ h0
  have hgl : (dig (Nat.gcd (val l) (val r))).length ≤ (dig (val l)).length := dig_mono (Nat.gcd_le_left _ h0)
  have hdl := dig_len_of HA.small hn
  have HN := Lib.hid hn
  have HM := Lib.hid hm
  clear hn hm
  go_enter Tryz.func94, Tryz.ntmps94
  go_wp2_with fail
  have HX := Bx.three w #[.slice A n c] #[.slice B m d] #[.bool false, .slice none 0 0, .slice none 0 0] 31 31 33
  refine (qzero_any A n c l _ (HA.ext HX.below) HN.out (by omega)).mono ?_
  rintro e w1 ⟨rfl, hb1⟩
  have HX := HX.ext hb1
  clear hb1
  have hc1 : w1.cell? ⟨w.heap.size + 1, 0, none⟩ = some (.slice B m d) := HX.cell 1 0 rfl rfl
  go_wp2_with fail
  refine (qzero_any B m d r _ (HB.ext HX.below) HM.out (by omega)).mono ?_
  rintro e w2 ⟨rfl, hb2⟩
  have HX := HX.ext hb2
  clear hb2
  clear hc1
  have hc0 : w2.cell? ⟨w.heap.size, 0, none⟩ = some (.slice A n c) := HX.cell 0 0 rfl rfl
  have hc1 : w2.cell? ⟨w.heap.size + 1, 0, none⟩ = some (.slice B m d) := HX.cell 1 0 rfl rfl
  go_wp2_with fail
  refine (rgcd_any A B n m c d l r _ (HA.ext HX.below) (HB.ext HX.below) HN.out HM.out (by omega) (by omega)).mono ?_
  rintro e w3 ⟨A3, c3, rfl, H3, hb3⟩
  generalize Nat.gcd (val l) (val r) = g at *
  have HX := HX.ext hb3
  clear hb3 hc0 hc1
  have HX4 := HX.ext (below_alloc w3 (.cells #[.slice A3 (dig g).length c3] 31))
  have hc0 := HX4.cell0 0 rfl rfl
  go_wp2_with fail
  refine (rdivmod_any A A3 n _ c c3 l (dig g) _ (HA.ext HX4.below) (H3.ext (below_alloc _ _)) HN.out rfl (by omega) (by omega) (by rw [val_dig]; exact hg0)).mono ?_
  rintro e w4 ⟨A4, c4, A5, c5, rfl, H4, H5, hb4⟩
  rw [val_dig] at H4 H5
  rw [val_dig]
  have HX := HX4.ext hb4
  have hb34 := (below_alloc w3 (.cells #[.slice A3 (dig g).length c3] 31)).trans (hb4.mono (Nat.le_of_lt (by simp)))
  have H3 := H3.ext hb34
  have hg4 : w4.heap[w3.heap.size]? = some (.cells #[.slice A3 (dig g).length c3] 31 (0, 0)) := by rw [hb4.block _ (by simp)]; exact heap_alloc_new w3 _
  clear hb34 HX4 hc0 hb4
  have hgs : w3.heap.size < w4.heap.size := by
    rcases Nat.lt_or_ge w3.heap.size w4.heap.size with h | h
    · exact h
    · rw [Array.getElem?_eq_none h] at hg4; cases hg4
  go_upto_region 5 with fail
  obtain ⟨W5, hW5⟩ : ∃ W5, W5 = (w4.alloc (.cells #[.slice A4 (dig (val l / g)).length c4] 31)).alloc (.cells #[.slice A5 (dig (val l % g)).length c5] 31) := ⟨_, rfl⟩
  have hb5 : Below w4.heap.size w4 W5 := by rw [hW5]; exact (below_alloc _ _).trans ((below_alloc _ _).mono (by simp))
  have HX5 := HX.ext hb5
  have H35 := H3.ext hb5
  have H45 := H4.ext hb5
  have hq5 : W5.cell? ⟨w4.heap.size, 0, none⟩ = some (.slice A4 (dig (val l / g)).length c4) := by rw [hW5]; simp
  have hc1 := HX5.cell 1 0 rfl rfl
  have hc3 := cell_of (hb5.block _ hgs |>.trans hg4) 0
  rw [← hW5]
  clear hW5 hb5 HX H3 H4 H5 hg4 hgs
  go_wp2_with fail
  refine (rdivmod_any B A3 m _ d c3 r (dig g) _ (HB.ext HX5.below) H35 HM.out rfl (by omega) (by omega) (by rw [val_dig]; exact hg0)).mono ?_
  rintro e w6 ⟨A6, c6, A7, c7, rfl, H6, H7, hb6⟩
  rw [val_dig] at H6 H7
  rw [val_dig]
  have HX6 := HX5.ext hb6
  have H46 := H45.ext hb6
  have hq6 : w6.cell? ⟨w4.heap.size, 0, none⟩ = some (.slice A4 (dig (val l / g)).length c4) := by rw [hb6.cell (cell_lt hq5)]; exact hq5
  clear hc1 hc3 HX5 hq5 hb6 H35 H45 H7
  go_upto_region 6 with fail
  obtain ⟨W7, hW7⟩ : ∃ W7, W7 = (w6.alloc (.cells #[.slice A6 (dig (val r / g)).length c6] 31)).alloc (.cells #[.slice A7 (dig (val r % g)).length c7] 31) := ⟨_, rfl⟩
  have hb7 : Below w6.heap.size w6 W7 := by rw [hW7]; exact (below_alloc _ _).trans ((below_alloc _ _).mono (by simp))
  have HX := HX6.ext hb7
  have H4 := H46.ext hb7
  have H6 := H6.ext hb7
  have hq7 : W7.cell? ⟨w6.heap.size, 0, none⟩ = some (.slice A6 (dig (val r / g)).length c6) := by rw [hW7]; simp
  have hq8 : W7.cell? ⟨w4.heap.size, 0, none⟩ = some (.slice A4 (dig (val l / g)).length c4) := by rw [hb7.cell (cell_lt hq6)]; exact hq6
  rw [← hW7]
  clear hW7 hb7 HX6 H46 hq6
  have hc20 := HX.cell 2 0 rfl rfl
  have hf20 := HX.free 2 0 rfl
  have hc21 := HX.cell 2 1 rfl rfl
  have hf21 := HX.free 2 1 rfl
  have hc22 := HX.cell 2 2 rfl rfl
  have hf22 := HX.free 2 2 rfl
  go_wp2
  obtain ⟨hq0, hq1, hq2, hq, hkeep, hbel⟩ := set3 (w := w) (HX.blk 2 rfl) rfl rfl rfl HX.below (by omega) (.bool s) (.slice A4 (dig (val l / g)).length c4) (.slice A6 (dig (val r / g)).length c6)
  exact bodyPost_ret (v := .agg #[.bool s, .slice A4 (dig (val l / g)).length c4, .slice A6 (dig (val r / g)).length c6]) (by simp [results, Tryz.results94, go_sem, hq0, hq1, hq2]) rfl ⟨A4, c4, A6, c6, by rw [hs.out, hu.out, hd.out], by rw [hu.out]; exact H4.stay hkeep, by rw [hd.out]; exact H6.stay hkeep, hbel⟩

theorem qmade_any (s : Bool) (A B : Option Addr) (n m c d : Nat) (l r : List Nat) (w : World) (HA : Lim w A c l) (HB : Lim w B d r) (hn : n = l.length) (hm : m = r.length) (hl : n ≤ 268435456) (hl2 : m ≤ 268435456) :
    Calls Tryz.prog 94 #[.bool s, .agg #[.slice A n c], .agg #[.slice B m d]] w (RetQ w (rv s (val l) (val r))) := by
  rcases Nat.eq_zero_or_pos (val l) with h | h
  · rw [h, rv_num0]; exact qmade_num s A B n m c d l r w HA HB hn hm hl hl2 h
  · rcases Nat.eq_zero_or_pos (val r) with h2 | h2
    · rw [h2, rv_den0]; exact qmade_den s A B n m c d l r w HA HB hn hm hl hl2 h h2
    · exact qmade_pos s A B n m c d l r w HA HB hn hm hl hl2 h h2

theorem qmade_fr {w : World} {s : Bool} {A B : Option Addr} {n c m d : Nat} {q : Rat} {k : Nat} (h : Fr w s A n c B m d q k) (hk : k ≤ 268435456) :
    Calls Tryz.prog 94 #[.bool s, .agg #[.slice A n c], .agg #[.slice B m d]] w (RetQ w q) := by
  obtain ⟨⟨l, r, h1, h2, h3, h4, rfl⟩, h6, h7⟩ := h
  exact qmade_any s A B n m c d l r w h1 h2 h3 h4 (by omega) (by omega)


theorem qnorm_any {s : Bool} {A B : Option Addr} {n c m d : Nat} {q : Rat} {k : Nat} (w : World) (h : Fr w s A n c B m d q k) (hk : k ≤ 268435456) :
    Calls Tryz.prog 99 #[.agg #[.bool s, .slice A n c, .slice B m d]] w (RetQ w q) := by
  go_enter Tryz.func99, Tryz.ntmps99
  go_wp2_with fail
  have HX := Bx.two w #[.bool s, .slice A n c, .slice B m d] #[.bool false, .slice none 0 0, .slice none 0 0] 33 33
  refine (qmade_fr (h.ext HX.below) hk).mono ?_
  rintro e w1 ⟨A1, c1, B1, d1, rfl, H1, H2, hb⟩
  have HX := HX.ext hb
  have hc10 := HX.cell 1 0 rfl rfl
  have hf10 := HX.free 1 0 rfl
  have hc11 := HX.cell 1 1 rfl rfl
  have hf11 := HX.free 1 1 rfl
  have hc12 := HX.cell 1 2 rfl rfl
  have hf12 := HX.free 1 2 rfl
  go_wp2
  obtain ⟨hq0, hq1, hq2, hq, hkeep, hbel⟩ := set3 (w := w) (HX.blk 1 rfl) rfl rfl rfl HX.below (by omega) (.bool (sg q)) (.slice A1 (dig (nu q)).length c1) (.slice B1 (dig q.den).length d1)
  exact bodyPost_ret (v := .agg #[.bool (sg q), .slice A1 (dig (nu q)).length c1, .slice B1 (dig q.den).length d1]) (by simp [results, Tryz.results99, go_sem, hq0, hq1, hq2]) rfl ⟨A1, c1, B1, d1, rfl, H1.stay hkeep, H2.stay hkeep, hbel⟩


theorem qmul_any {s t : Bool} {A B A' B' : Option Addr} {n c m d n' c' m' d' : Nat} {p q : Rat} {k k' : Nat} (w : World) (h : Fr w s A n c B m d p k) (h' : Fr w t A' n' c' B' m' d' q k') (hk : k ≤ 134217720) (hk' : k' ≤ 134217720) :
    Calls Tryz.prog 68 #[.agg #[.bool s, .slice A n c, .slice B m d], .agg #[.bool t, .slice A' n' c', .slice B' m' d']] w (RetQ w (p * q)) := by
  obtain ⟨⟨l, r, HA, HB, hn, hm, hp⟩, hnk, hmk⟩ := h
  obtain ⟨⟨l', r', HA', HB', hn', hm', hq⟩, hnk', hmk'⟩ := h'
  have e1 := len_mul (dig_len_of HA.small hn) (dig_len_of HA'.small hn')
  have e2 := len_mul (dig_len_of HB.small hm) (dig_len_of HB'.small hm')
  have hpq : p * q = rv (!(s == t)) (val l * val l') (val r * val r') := by rw [hp, hq, rv_mul]; rfl
  rw [hpq]
  have HN := Lib.hid hn
  have HM := Lib.hid hm
  have HN' := Lib.hid hn'
  have HM' := Lib.hid hm'
  clear hn hm hn' hm' hpq hp hq
  go_enter Tryz.func68, Tryz.ntmps68
  go_wp2_with fail
  obtain ⟨W, hW⟩ : ∃ W, W = ((w.alloc (.cells #[.bool s, .slice A n c, .slice B m d] 33)).alloc (.cells #[.bool t, .slice A' n' c', .slice B' m' d'] 33)).alloc (.cells #[.bool false, .slice none 0 0, .slice none 0 0] 33) := ⟨_, rfl⟩
  have HX := Bx.three w #[.bool s, .slice A n c, .slice B m d] #[.bool t, .slice A' n' c', .slice B' m' d'] #[.bool false, .slice none 0 0, .slice none 0 0] 33 33 33
  rw [← hW] at HX
  rw [← hW]
  clear hW
  have HX1 := HX.ext (drew_ext W)
  have held : ∀ {W' : World}, Bx w W' [(#[.bool s, .slice A n c, .slice B m d], 33), (#[.bool t, .slice A' n' c', .slice B' m' d'], 33), (#[.bool false, .slice none 0 0, .slice none 0 0], 33)] → W'.cell? ⟨w.heap.size, 0, none⟩ = some (.bool s) ∧ W'.cell? ⟨w.heap.size, 1, none⟩ = some (.slice A n c) ∧ W'.cell? ⟨w.heap.size, 2, none⟩ = some (.slice B m d) ∧ W'.cell? ⟨w.heap.size + 1, 0, none⟩ = some (.bool t) ∧ W'.cell? ⟨w.heap.size + 1, 1, none⟩ = some (.slice A' n' c') ∧ W'.cell? ⟨w.heap.size + 1, 2, none⟩ = some (.slice B' m' d') :=
    fun h => ⟨h.cell 0 0 rfl rfl, h.cell 0 1 rfl rfl, h.cell 0 2 rfl rfl, h.cell 1 0 rfl rfl, h.cell 1 1 rfl rfl, h.cell 1 2 rfl rfl⟩
  go_region_held3 (fun W' => W'.cell? ⟨w.heap.size, 0, none⟩ = some (.bool s) ∧ W'.cell? ⟨w.heap.size, 1, none⟩ = some (.slice A n c) ∧ W'.cell? ⟨w.heap.size, 2, none⟩ = some (.slice B m d) ∧ W'.cell? ⟨w.heap.size + 1, 0, none⟩ = some (.bool t) ∧ W'.cell? ⟨w.heap.size + 1, 1, none⟩ = some (.slice A' n' c') ∧ W'.cell? ⟨w.heap.size + 1, 2, none⟩ = some (.slice B' m' d'))
    (first | exact held HX | exact held HX1 | exact held HX2 | exact held HX3 | exact held HX4 | (rw [cell_set3 _ _ _ (by simp; omega), cell_set3 _ _ _ (by simp; omega), cell_set3 _ _ _ (by simp; omega), cell_set3 _ _ _ (by simp), cell_set3 _ _ _ (by simp), cell_set3 _ _ _ (by simp)]; exact held HX4))
    (first
      | (go_at_call_of 101 (Value.agg #[.slice A n c]); refine (rmul_any A A' n n' c c' l l' _ (HA.ext HX1.below) (HA'.ext HX1.below) HN.out HN'.out (by omega) (by omega)).mono ?_; rintro e w1 ⟨A1, c1, rfl, H1, hb1⟩; have HX2 := HX1.ext hb1)
      | (go_at_call_of 101 (Value.agg #[.slice B m d]); refine (rmul_any B B' m m' d d' r r' _ (HB.ext HX2.below) (HB'.ext HX2.below) HM.out HM'.out (by omega) (by omega)).mono ?_; rintro e w2 ⟨A2, c2, rfl, H2, hb2⟩; have HX3 := HX2.ext hb2; have H1 := H1.ext hb2)
      | (go_at_call 94; refine (qmade_fr (Fr.of2 (k := 268435456) H1 H2 (by omega) (by omega)) (Nat.le_refl _)).mono ?_; rintro e w3 ⟨A3, c3, B3, d3, rfl, H3, H4, hb3⟩; have HX4 := HX3.ext hb3; have hc20 := HX4.cell 2 0 rfl rfl; have hf20 := HX4.free 2 0 rfl; have hc21 := HX4.cell 2 1 rfl rfl; have hf21 := HX4.free 2 1 rfl; have hc22 := HX4.cell 2 2 rfl rfl; have hf22 := HX4.free 2 2 rfl))
  go_wp2
  obtain ⟨hq0, hq1, hq2, hq, hkeep, hbel⟩ := set3 (w := w) (HX4.blk 2 rfl) rfl rfl rfl HX4.below (by omega) (.bool (sg (rv (!(s == t)) (val l * val l') (val r * val r')))) (.slice A3 (dig (nu (rv (!(s == t)) (val l * val l') (val r * val r')))).length c3) (.slice B3 (dig (rv (!(s == t)) (val l * val l') (val r * val r')).den).length d3)
  exact bodyPost_ret (v := .agg #[.bool (sg (rv (!(s == t)) (val l * val l') (val r * val r'))), .slice A3 (dig (nu (rv (!(s == t)) (val l * val l') (val r * val r')))).length c3, .slice B3 (dig (rv (!(s == t)) (val l * val l') (val r * val r')).den).length d3]) (by simp [results, Tryz.results68, go_sem, hq0, hq1, hq2]) rfl ⟨A3, c3, B3, d3, rfl, H3.stay hkeep, H4.stay hkeep, hbel⟩

theorem qmagnitude_any (n : Int) (hlo : -9223372036854775808 ≤ n) (hhi : n ≤ 9223372036854775807) (w : World) :
    Calls Tryz.prog 95 #[.int .i64 n] w (RetN w n.natAbs) := by
  obtain ⟨u, hu⟩ : ∃ u, n.natAbs = u := ⟨_, rfl⟩
  rw [hu]
  have hu2 : u ≤ 9223372036854775808 := by omega
  by_cases h0 : n < 0
  · have hw : IntKind.u64.wrap (-IntKind.u64.wrap n) = (u : Int) := by
      unfold IntKind.wrap; simp only [IntKind.signed, IntKind.bits]; simp; omega
    clear hu
    go_enter Tryz.func95, Tryz.ntmps95
    go_wp2_with fail
    refine (rof_any u _ (by omega)).mono ?_
    rintro e w1 ⟨A1, c1, rfl, H1, hb1⟩
    have HX := (Bx.one w #[.slice none 0 0] 31).ext hb1
    have hc := HX.cell0 0 rfl rfl
    have hf := HX.free0 0 rfl
    go_wp2
    have hav := H1.avoid_blk (HX.blk0 rfl) (by simp [Value.noInt])
    have hq := set_same (v := .slice A1 (dig u).length c1) hc
    exact bodyPost_ret (v := .agg #[.slice A1 (dig u).length c1]) (by simp [results, Tryz.results95, go_sem, hq]) rfl ⟨A1, c1, rfl, H1.setCell hav _, HX.below.setCell (by simp) _⟩
  · obtain rfl : n = (u : Int) := by omega
    clear hu
    go_enter Tryz.func95, Tryz.ntmps95
    go_wp2_with fail
    refine (rof_any u _ (by omega)).mono ?_
    rintro e w1 ⟨A1, c1, rfl, H1, hb1⟩
    have HX := (Bx.one w #[.slice none 0 0] 31).ext hb1
    have hc := HX.cell0 0 rfl rfl
    have hf := HX.free0 0 rfl
    go_wp2
    have hav := H1.avoid_blk (HX.blk0 rfl) (by simp [Value.noInt])
    have hq := set_same (v := .slice A1 (dig u).length c1) hc
    exact bodyPost_ret (v := .agg #[.slice A1 (dig u).length c1]) (by simp [results, Tryz.results95, go_sem, hq]) rfl ⟨A1, c1, rfl, H1.setCell hav _, HX.below.setCell (by simp) _⟩


theorem qof_any (n d : Int) (hlo : -9223372036854775808 ≤ n) (hhi : n ≤ 9223372036854775807) (hlo2 : -9223372036854775808 ≤ d) (hhi2 : d ≤ 9223372036854775807) (w : World) :
    Calls Tryz.prog 63 #[.int .i64 n, .int .i64 d] w (RetQ w (rv (!(decide (n < 0) == decide (d < 0))) n.natAbs d.natAbs)) := by
  obtain ⟨x, hx⟩ : ∃ x, n.natAbs = x := ⟨_, rfl⟩
  obtain ⟨y, hy⟩ : ∃ y, d.natAbs = y := ⟨_, rfl⟩
  have e1 : (dig x).length ≤ 3 := dig_len_le (Nat.lt_of_le_of_lt (show x ≤ 9223372036854775808 by omega) (by decide))
  have e2 : (dig y).length ≤ 3 := dig_len_le (Nat.lt_of_le_of_lt (show y ≤ 9223372036854775808 by omega) (by decide))
  rw [hx, hy]
  have hx := Lib.hid hx
  have hy := Lib.hid hy
  go_enter Tryz.func63, Tryz.ntmps63
  go_wp2_with fail
  have HX := Bx.one w #[.bool false, .slice none 0 0, .slice none 0 0] 33
  refine (qmagnitude_any n hlo hhi _).mono ?_
  rw [hx.out]
  rintro e w1 ⟨A1, c1, rfl, H1, hb1⟩
  have HX := HX.ext hb1
  go_wp2_with fail
  refine (qmagnitude_any d hlo2 hhi2 _).mono ?_
  rw [hy.out]
  rintro e w2 ⟨A2, c2, rfl, H2, hb2⟩
  have HX := HX.ext hb2
  have H1 := H1.ext hb2
  go_wp2_with fail
  refine (qmade_fr (Fr.of2 (k := 3) H1 H2 e1 e2) (by omega)).mono ?_
  rintro e w3 ⟨A3, c3, B3, d3, rfl, H3, H4, hb3⟩
  have HX := HX.ext hb3
  generalize rv (!(decide (n < 0) == decide (d < 0))) x y = q at *
  have hc10 := HX.cell0 0 rfl rfl
  have hf10 := HX.free0 0 rfl
  have hc11 := HX.cell0 1 rfl rfl
  have hf11 := HX.free0 1 rfl
  have hc12 := HX.cell0 2 rfl rfl
  have hf12 := HX.free0 2 rfl
  go_wp2
  obtain ⟨hq0, hq1, hq2, hq, hkeep, hbel⟩ := set3 (w := w) (HX.blk0 rfl) rfl rfl rfl HX.below (by omega) (.bool (sg q)) (.slice A3 (dig (nu q)).length c3) (.slice B3 (dig q.den).length d3)
  exact bodyPost_ret (v := .agg #[.bool (sg q), .slice A3 (dig (nu q)).length c3, .slice B3 (dig q.den).length d3]) (by simp [results, Tryz.results63, go_sem, hq0, hq1, hq2]) rfl ⟨A3, c3, B3, d3, rfl, H3.stay hkeep, H4.stay hkeep, hbel⟩

end Go.Proofs.YthempimelfmipaaGreatDoor
