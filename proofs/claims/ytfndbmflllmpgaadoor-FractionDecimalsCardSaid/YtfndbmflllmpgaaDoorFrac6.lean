/- The package fraction, sixth part: Floor. -/
import Derived.Test.YtfndbmflllmpgaaDoorFrac5
namespace Go.Proofs.YtfndbmflllmpgaaDoor
open Go.RowKit Go.Proofs

theorem Bx.set_far {w W : World} {os : List (Array Value × TypeId)} {p : Addr} (h : Bx w W os) (hp : w.heap.size + os.length ≤ p.block) (v : Value) : Bx w (W.setCell p v) os :=
  ⟨h.below.setCell (by omega) v, fun i q hq => by
    have hi := (List.getElem?_eq_some_iff.1 hq).1
    rw [Below.heap_setCell _ _ _ _ (by omega)]
    exact h.at_ i q hq⟩
theorem frozen_of {W : World} {g : Nat} {cs : Array Value} {T : TypeId} (h : W.heap[g]? = some (.cells cs T (0, 0))) (j : Nat) : W.frozen? ⟨g, j, none⟩ = false := by simp [World.frozen?, h]

set_option maxHeartbeats 1600000 in
set_option maxRecDepth 100000 in
theorem ffloor_any {s : Bool} {A B : Option Addr} {n c m d : Nat} {q : Rat} {k : Nat} (w : World) (h : Fr w s A n c B m d q k) (hk : k ≤ 134217726) :
    Calls Tryd.prog 28 #[.agg #[.bool s, .slice A n c, .slice B m d]] w (RetQ w (flo q)) := by
  have hsz := h.sz
  have hsz1 := hsz.1
  have hsz2 := hsz.2
  have hd0 := q.den_pos
  have hflo := Lib.hid (flo_rv q)
  obtain ⟨X, hX⟩ : ∃ X, nu q / q.den = X := ⟨_, rfl⟩
  obtain ⟨Y, hY⟩ : ∃ Y, nu q % q.den = Y := ⟨_, rfl⟩
  rw [hX, hY] at hflo
  have hlX : (dig X).length ≤ k + 1 := by rw [← hX]; exact Nat.le_trans (dig_mono (Nat.div_le_self _ _)) hsz1
  have hlY : (dig Y).length ≤ k + 1 := by rw [← hY]; exact Nat.le_trans (dig_mono (Nat.mod_le _ _)) hsz1
  have hlX1 := len_succ hlX
  have hl1 : (dig 1).length ≤ 1 := dig_len_le (by decide)
  have HXX := Lib.hid hX
  have HYY := Lib.hid hY
  clear hX hY
  go_enter Tryd.func28, Tryd.ntmps28
  go_wp2_with fail
  have HX := Bx.two w #[.bool s, .slice A n c, .slice B m d] #[.bool false, .slice none 0 0, .slice none 0 0] 26 26
  have hc00 := HX.cell0 0 rfl rfl
  have hc01 := HX.cell0 1 rfl rfl
  have hc02 := HX.cell0 2 rfl rfl
  refine (fnorm_any _ (h.ext HX.below) (by omega)).mono ?_
  rintro e w1 ⟨A1, c1, B1, d1, rfl, H1, H2, hb1⟩
  clear hc00 hc01 hc02
  have HX1 := HX.ext hb1
  have hc00 := HX1.cell0 0 rfl rfl
  have hc01 := HX1.cell0 1 rfl rfl
  have hc02 := HX1.cell0 2 rfl rfl
  have hf00 := HX1.free0 0 rfl
  have hf01 := HX1.free0 1 rfl
  have hf02 := HX1.free0 2 rfl
  go_upto_region 2 with fail
  have HX2 := HX1.put3 0 rfl (.bool (sg q)) (.slice A1 (dig (nu q)).length c1) (.slice B1 (dig q.den).length d1)
  have hk2 := HX1.put3_keep 0 rfl rfl rfl rfl (.bool (sg q)) (.slice A1 (dig (nu q)).length c1) (.slice B1 (dig q.den).length d1)
  obtain ⟨W2, hW2⟩ : ∃ W2, W2 = ((w1.setCell ⟨w.heap.size, 0, none⟩ (.bool (sg q))).setCell ⟨w.heap.size, 1, none⟩ (.slice A1 (dig (nu q)).length c1)).setCell ⟨w.heap.size, 2, none⟩ (.slice B1 (dig q.den).length d1) := ⟨_, rfl⟩
  simp only [Nat.add_zero] at HX2 hk2
  rw [← hW2] at HX2 hk2
  rw [← hW2]
  clear hW2 hc00 hc01 hc02 hf00 hf01 hf02
  have H1 := H1.stay hk2
  have H2 := H2.stay hk2
  clear hk2
  have hc00 := HX2.cell0 0 rfl rfl
  have hc01 := HX2.cell0 1 rfl rfl
  have hc02 := HX2.cell0 2 rfl rfl
  go_wp2_with fail
  refine (ndivmod_any A1 B1 _ _ c1 d1 (dig (nu q)) (dig q.den) _ H1 H2 rfl rfl (by omega) (by omega) (by rw [val_dig]; exact hd0)).mono ?_
  rw [val_dig, val_dig, HXX.out, HYY.out]
  rintro e w3 ⟨A3, c3, A4, c4, rfl, H3, H4, hb3⟩
  have HX3 := HX2.ext hb3
  clear hc00 hc01 hc02 H1 H2
  go_upto_region 3 with fail
  obtain ⟨W4, hW4⟩ : ∃ W4, W4 = (w3.alloc (.cells #[.slice A3 (dig X).length c3] 24)).alloc (.cells #[.slice A4 (dig Y).length c4] 24) := ⟨_, rfl⟩
  have hb4 : Below w3.heap.size w3 W4 := by rw [hW4]; exact bel_al (bel_al (Below.refl _ _) _) _
  have hx3 : W4.heap[w3.heap.size]? = some (.cells #[.slice A3 (dig X).length c3] 24 (0, 0)) := by rw [hW4, (below_alloc _ _).block _ (by simp)]; exact heap_alloc_new w3 _
  have hx4 : W4.cell? ⟨w3.heap.size + 1, 0, none⟩ = some (.slice A4 (dig Y).length c4) := by rw [hW4]; exact al_new (by simp) _ _
  have hsz3 := HX3.size
  simp only [List.length_cons, List.length_nil, List.length_set] at hsz3
  rw [← hW4]
  clear hW4
  have HX4 := HX3.ext hb4
  have H3 := H3.ext hb4
  have H4 := H4.ext hb4
  have hx3c : W4.cell? ⟨w3.heap.size, 0, none⟩ = some (.slice A3 (dig X).length c3) := cell_of hx3 0
  have hc00 := HX4.cell0 0 rfl rfl
  have hbelow := HX4.below
  cases hs : sg q
  · have hfl := Lib.hid (show flo q = rv false X 1 by rw [hflo.out, hs]; rfl)
    rw [hs] at hc00 HX4
    have hs := Lib.hid hs
    go_upto_region 5 with fail
    have HB1 : Below W4.heap.size W4 W4.drew := drew_ext W4
    have held : ∀ {W' : World}, Below W4.heap.size W4 W' → W'.cell? ⟨w.heap.size, 0, none⟩ = some (.bool false) ∧ W'.cell? ⟨w3.heap.size, 0, none⟩ = some (.slice A3 (dig X).length c3) :=
      fun hb => ⟨(HX4.ext hb).cell 0 0 rfl rfl, by rw [hb.cell (cell_lt hx3c)]; exact hx3c⟩
    go_region_held3 (fun W' => W'.cell? ⟨w.heap.size, 0, none⟩ = some (.bool false) ∧ W'.cell? ⟨w3.heap.size, 0, none⟩ = some (.slice A3 (dig X).length c3))
      (first | exact held (Below.refl _ _) | exact held HB1 | exact held HB8 | exact held HB9 | (rw [cell_set3 _ _ _ (by simp), cell_set3 _ _ _ (by simp; omega)]; exact held HB9))
      (first
        | (go_at_call 41; refine (nof_any 1 _ (by omega)).mono ?_; rintro e w8 ⟨A8, c8, rfl, H8, hb8⟩; have HB8 := bel_trans HB1 hb8)
        | (go_at_call 51; refine (made_fr (Fr.of2 (k := 536870912) (H3.ext HB8) H8 (by omega) (by omega)) (Nat.le_refl _)).mono ?_; rw [← hfl.out]; rintro e w9 ⟨A9, c9, B9, d9, rfl, H9, H10, hb9⟩; have HB9 := bel_trans HB8 hb9; have HX9 := HX4.ext HB9; have hc20 := HX9.cell 1 0 rfl rfl; have hf20 := HX9.free 1 0 rfl; have hc21 := HX9.cell 1 1 rfl rfl; have hf21 := HX9.free 1 1 rfl; have hc22 := HX9.cell 1 2 rfl rfl; have hf22 := HX9.free 1 2 rfl))
    go_wp2
    obtain ⟨hq0, hq1, hq2, hq, hkeep, hbel⟩ := set3 (w := w) (HX9.blk 1 rfl) rfl rfl rfl HX9.below (by omega) (.bool (sg (flo q))) (.slice A9 (dig (nu (flo q))).length c9) (.slice B9 (dig (flo q).den).length d9)
    exact bodyPost_ret (v := .agg #[.bool (sg (flo q)), .slice A9 (dig (nu (flo q))).length c9, .slice B9 (dig (flo q).den).length d9]) (by simp [results, Tryd.results28, go_sem, hq0, hq1, hq2]) rfl ⟨A9, c9, B9, d9, rfl, H9.stay hkeep, H10.stay hkeep, hbel⟩
  · rw [hs] at hc00 HX4
    by_cases hy : Y = 0
    · have hfl := Lib.hid (show flo q = rv true X 1 by rw [hflo.out, hs, hy]; rfl)
      have hz := decide_eq_true hy
      have hs := Lib.hid hs
      clear hy
      go_wp2_with fail
      refine (zero_any A4 _ c4 (dig Y) _ H4 rfl (by omega)).mono ?_
      rw [val_dig, hz]
      rintro e w5 ⟨rfl, hb5⟩
      have HX5 := HX4.ext hb5
      have hx5c : w5.cell? ⟨w3.heap.size, 0, none⟩ = some (.slice A3 (dig X).length c3) := by rw [hb5.cell (cell_lt hx3c)]; exact hx3c
      have H35 := H3.ext hb5
      clear hc00 hx4 hx3 hb4 hbelow hb5 H4
      go_upto_region 5 with fail
      have HB1 : Below w5.heap.size w5 w5.drew := drew_ext w5
      have held : ∀ {W' : World}, Below w5.heap.size w5 W' → W'.cell? ⟨w.heap.size, 0, none⟩ = some (.bool true) ∧ W'.cell? ⟨w3.heap.size, 0, none⟩ = some (.slice A3 (dig X).length c3) :=
        fun hb => ⟨(HX5.ext hb).cell 0 0 rfl rfl, by rw [hb.cell (cell_lt hx5c)]; exact hx5c⟩
      go_region_held3 (fun W' => W'.cell? ⟨w.heap.size, 0, none⟩ = some (.bool true) ∧ W'.cell? ⟨w3.heap.size, 0, none⟩ = some (.slice A3 (dig X).length c3))
        (first | exact held (Below.refl _ _) | exact held HB1 | exact held HB8 | exact held HB9 | (rw [cell_set3 _ _ _ (by simp), cell_set3 _ _ _ (by simp; omega)]; exact held HB9))
        (first
          | (go_at_call 41; refine (nof_any 1 _ (by omega)).mono ?_; rintro e w8 ⟨A8, c8, rfl, H8, hb8⟩; have HB8 := bel_trans HB1 hb8)
          | (go_at_call 51; refine (made_fr (Fr.of2 (k := 536870912) (H35.ext HB8) H8 (by omega) (by omega)) (Nat.le_refl _)).mono ?_; rw [← hfl.out]; rintro e w9 ⟨A9, c9, B9, d9, rfl, H9, H10, hb9⟩; have HB9 := bel_trans HB8 hb9; have HX9 := HX5.ext HB9; have hc20 := HX9.cell 1 0 rfl rfl; have hf20 := HX9.free 1 0 rfl; have hc21 := HX9.cell 1 1 rfl rfl; have hf21 := HX9.free 1 1 rfl; have hc22 := HX9.cell 1 2 rfl rfl; have hf22 := HX9.free 1 2 rfl))
      go_wp2
      obtain ⟨hq0, hq1, hq2, hq, hkeep, hbel⟩ := set3 (w := w) (HX9.blk 1 rfl) rfl rfl rfl HX9.below (by omega) (.bool (sg (flo q))) (.slice A9 (dig (nu (flo q))).length c9) (.slice B9 (dig (flo q).den).length d9)
      exact bodyPost_ret (v := .agg #[.bool (sg (flo q)), .slice A9 (dig (nu (flo q))).length c9, .slice B9 (dig (flo q).den).length d9]) (by simp [results, Tryd.results28, go_sem, hq0, hq1, hq2]) rfl ⟨A9, c9, B9, d9, rfl, H9.stay hkeep, H10.stay hkeep, hbel⟩
    · have hfl := Lib.hid (show flo q = rv true (X + 1) 1 by rw [hflo.out, hs]; simp [Nat.pos_of_ne_zero hy])
      have hz := decide_eq_false hy
      have hs := Lib.hid hs
      clear hy
      go_wp2_with fail
      refine (zero_any A4 _ c4 (dig Y) _ H4 rfl (by omega)).mono ?_
      rw [val_dig, hz]
      rintro e w5 ⟨rfl, hb5⟩
      have HX5 := HX4.ext hb5
      have hx5 : w5.heap[w3.heap.size]? = some (.cells #[.slice A3 (dig X).length c3] 24 (0, 0)) := by rw [hb5.block _ (cell_lt hx3c)]; exact hx3
      have H35 := H3.ext hb5
      clear hc00 hx4 hx3 hx3c hb4 hbelow hb5 H4 HX4 H3
      have hx5c : w5.cell? ⟨w3.heap.size, 0, none⟩ = some (.slice A3 (dig X).length c3) := cell_of hx5 0
      have hx5f : w5.frozen? ⟨w3.heap.size, 0, none⟩ = false := frozen_of hx5 0
      go_upto_region 4 with fail
      have HB1 : Below w5.heap.size w5 w5.drew := drew_ext w5
      go_region_with (first
        | (go_at_call 41; refine (nof_any 1 _ (by omega)).mono ?_; rintro e w6 ⟨A6, c6, rfl, H6, hb6⟩; have HB6 := bel_trans HB1 hb6; have hx6 : w6.cell? ⟨w3.heap.size, 0, none⟩ = some (.slice A3 (dig X).length c3) := by rw [HB6.cell (cell_lt hx5c)]; exact hx5c)
        | (go_at_call 42; refine (nadd_any A3 A6 _ _ c3 c6 (dig X) (dig 1) _ (H35.ext HB6) H6 rfl rfl (by omega) (by omega)).mono ?_; rw [val_dig, val_dig]; rintro e w7 ⟨A7, c7, rfl, H7, hb7⟩; have HB7 := bel_trans HB6 hb7; have hx7 : w7.heap[w3.heap.size]? = some (.cells #[.slice A3 (dig X).length c3] 24 (0, 0)) := (by rw [HB7.block _ (cell_lt hx5c)]; exact hx5); have hx7c : w7.cell? ⟨w3.heap.size, 0, none⟩ = some (.slice A3 (dig X).length c3) := cell_of hx7 0; have hx7f : w7.frozen? ⟨w3.heap.size, 0, none⟩ = false := frozen_of hx7 0))
      all_goals (
        go_upto_region 5 with fail
        have HX7 := (HX5.ext HB7).set_far (p := ⟨w3.heap.size, 0, none⟩) (by simp; omega) (.slice A7 (dig (X + 1)).length c7)
        have H7 := H7.stay ((Keep.refl w7).box hx7c rfl (.slice A7 (dig (X + 1)).length c7))
        have hx8 : (w7.setCell ⟨w3.heap.size, 0, none⟩ (.slice A7 (dig (X + 1)).length c7)).cell? ⟨w3.heap.size, 0, none⟩ = some (.slice A7 (dig (X + 1)).length c7) := set_same hx7c
        obtain ⟨W8, hW8⟩ : ∃ W8, W8 = w7.setCell ⟨w3.heap.size, 0, none⟩ (.slice A7 (dig (X + 1)).length c7) := ⟨_, rfl⟩
        rw [← hW8] at HX7 H7 hx8
        rw [← hW8]
        clear hW8 hx7f hx7c hx7 hx5f hx5c hx5 hx6 HB1 HB6 HB7
        have HB1 : Below W8.heap.size W8 W8.drew := drew_ext W8
        have held : ∀ {W' : World}, Below W8.heap.size W8 W' → W'.cell? ⟨w.heap.size, 0, none⟩ = some (.bool true) ∧ W'.cell? ⟨w3.heap.size, 0, none⟩ = some (.slice A7 (dig (X + 1)).length c7) :=
          fun hb => ⟨(HX7.ext hb).cell 0 0 rfl rfl, by rw [hb.cell (cell_lt hx8)]; exact hx8⟩
        go_region_held3 (fun W' => W'.cell? ⟨w.heap.size, 0, none⟩ = some (.bool true) ∧ W'.cell? ⟨w3.heap.size, 0, none⟩ = some (.slice A7 (dig (X + 1)).length c7))
          (first | exact held (Below.refl _ _) | exact held HB1 | exact held HB8 | exact held HB9 | (rw [cell_set3 _ _ _ (by simp), cell_set3 _ _ _ (by simp; omega)]; exact held HB9))
          (first
            | (go_at_call 41; refine (nof_any 1 _ (by omega)).mono ?_; rintro e w8 ⟨A8, c8, rfl, H8, hb8⟩; have HB8 := bel_trans HB1 hb8)
            | (go_at_call 51; refine (made_fr (Fr.of2 (k := 536870912) (H7.ext HB8) H8 (by omega) (by omega)) (Nat.le_refl _)).mono ?_; rw [← hfl.out]; rintro e w9 ⟨A9, c9, B9, d9, rfl, H9, H10, hb9⟩; have HB9 := bel_trans HB8 hb9; have HX9 := HX7.ext HB9; have hc20 := HX9.cell 1 0 rfl rfl; have hf20 := HX9.free 1 0 rfl; have hc21 := HX9.cell 1 1 rfl rfl; have hf21 := HX9.free 1 1 rfl; have hc22 := HX9.cell 1 2 rfl rfl; have hf22 := HX9.free 1 2 rfl))
        go_wp2
        obtain ⟨hq0, hq1, hq2, hq, hkeep, hbel⟩ := set3 (w := w) (HX9.blk 1 rfl) rfl rfl rfl HX9.below (by omega) (.bool (sg (flo q))) (.slice A9 (dig (nu (flo q))).length c9) (.slice B9 (dig (flo q).den).length d9)
        exact bodyPost_ret (v := .agg #[.bool (sg (flo q)), .slice A9 (dig (nu (flo q))).length c9, .slice B9 (dig (flo q).den).length d9]) (by simp [results, Tryd.results28, go_sem, hq0, hq1, hq2]) rfl ⟨A9, c9, B9, d9, rfl, H9.stay hkeep, H10.stay hkeep, hbel⟩)
end Go.Proofs.YtfndbmflllmpgaaDoor
