/- The package fraction, eighth part: Decimal. -/
import Derived.Test.YtajddhkepbnilaaGreatDoorFrac7
namespace Go.Proofs.YtajddhkepbnilaaGreatDoor
open Go.RowKit Go.Proofs Go

structure DecS (w W : World) (q : Rat) (X D U : Nat) (A1 : Option Addr) (c1 : Nat) (B1 : Option Addr) (d1 : Nat) (g6 : Nat) (A6 : Option Addr) (c6 : Nat) (g8 : Nat) (A8 : Option Addr) (c8 : Nat) : Prop where
  bx : Bx w W [(#[.bool (sg q), .slice A1 (dig X).length c1, .slice B1 (dig D).length d1], 27)]
  num : Lim W A1 c1 (dig X)
  den : Lim W B1 d1 (dig D)
  x6 : W.cell? ⟨g6, 0, none⟩ = some (.slice A6 (dig U).length c6)
  l6 : Lim W A6 c6 (dig U)
  x8 : W.cell? ⟨g8, 0, none⟩ = some (.slice A8 (dig 2).length c8)
  l8 : Lim W A8 c8 (dig 2)
theorem DecS.ext {w W W' : World} {q : Rat} {X D U : Nat} {A1 B1 A6 A8 : Option Addr} {c1 d1 g6 c6 g8 c8 : Nat} (h : DecS w W q X D U A1 c1 B1 d1 g6 A6 c6 g8 A8 c8) (hb : Below W.heap.size W W') : DecS w W' q X D U A1 c1 B1 d1 g6 A6 c6 g8 A8 c8 :=
  ⟨h.bx.ext hb, h.num.ext hb, h.den.ext hb, by rw [hb.cell (cell_lt h.x6)]; exact h.x6, h.l6.ext hb, by rw [hb.cell (cell_lt h.x8)]; exact h.x8, h.l8.ext hb⟩
def RetSE (w : World) (s : List UInt8) (err : Int) (e : Ending) (w' : World) : Prop := e = .returned (.tuple #[.string (str s), .int .i64 err]) ∧ Below w.heap.size w w'

set_option maxHeartbeats 400000 in
set_option maxRecDepth 100000 in
theorem fdecimal_range {s : Bool} {A B : Option Addr} {n c m d : Nat} (k : Int) (w : World) (hk : k < 0 ∨ 20 < k) :
    Calls Tryz.prog 21 #[.agg #[.bool s, .slice A n c, .slice B m d], .int .i64 k] w (RetSE w [] 2) := by
  by_cases h0 : k < 0
  · clear hk
    go_enter Tryz.func21, Tryz.ntmps21
    go_wp2
    go_ret2
    exact ⟨rfl, below_alloc _ _⟩
  · have h1 : 20 < k := by omega
    clear hk
    go_enter Tryz.func21, Tryz.ntmps21
    go_wp2
    go_ret2
    exact ⟨rfl, below_alloc _ _⟩

set_option maxHeartbeats 4000000 in
set_option maxRecDepth 100000 in
theorem fdecimal_any {s : Bool} {A B : Option Addr} {n c m d : Nat} {q : Rat} {k0 : Nat} (k : Nat) (w : World) (h : Fr w s A n c B m d q k0) (hk0 : k0 ≤ 134217726) (hk : k ≤ 20) (hT : Tab w) :
    Calls Tryz.prog 21 #[.agg #[.bool s, .slice A n c, .slice B m d], .int .i64 (k : Int)] w (RetSE w (decText (sg q) (half (nu q) q.den k) k) 0) := by
  have hsz := h.sz
  have hsz1 := hsz.1
  have hsz2 := hsz.2
  have hd0 := q.den_pos
  obtain ⟨U, hU⟩ : ∃ U, 10 ^ k = U := ⟨_, rfl⟩
  obtain ⟨Q, hQ⟩ : ∃ Q, half (nu q) q.den k = Q := ⟨_, rfl⟩
  have hQ2 := hQ
  rw [half, hU] at hQ2
  rw [hQ]
  obtain ⟨X, hX⟩ : ∃ X, nu q = X := ⟨_, rfl⟩
  obtain ⟨D, hD⟩ : ∃ D, q.den = D := ⟨_, rfl⟩
  rw [hX, hD] at hQ2
  rw [hX] at hsz1
  rw [hD] at hsz2 hd0
  obtain ⟨T, hT2⟩ : ∃ T, 2 * (X * U) + D = T := ⟨_, rfl⟩
  rw [hT2] at hQ2
  have hl10 : (dig 10).length ≤ 1 := dig_len_le (by decide)
  have hl2 : (dig 2).length ≤ 1 := dig_len_le (by decide)
  have hlU : (dig U).length ≤ 3 := by
    have h1 : 10 ^ k ≤ 10 ^ 20 := Nat.pow_le_pow_right (by omega) hk
    rw [← hU]
    exact dig_len_le (Nat.lt_of_le_of_lt h1 (by decide))
  have hlXU := len_mul hsz1 hlU
  have hl2XU := len_mul hl2 hlXU
  have hlT := len_add (k := k0 + 5) (Nat.le_trans hl2XU (by omega)) (Nat.le_trans hsz2 (by omega))
  rw [hT2] at hlT
  have hl2D := len_mul hl2 hsz2
  have hlQ : (dig Q).length ≤ k0 + 6 := by rw [← hQ2]; exact Nat.le_trans (dig_mono (Nat.div_le_self _ _)) hlT
  have hlR : (dig (T % (2 * D))).length ≤ k0 + 6 := Nat.le_trans (dig_mono (Nat.mod_le _ _)) hlT
  have hnU : Lib.nDigits (val (dig 10)) * k ≤ 4000 := by
    have h1 := nDigits_le (x := 10) (k := 2) (by omega) (by decide)
    rw [val_dig]
    have := Nat.mul_le_mul h1 hk
    omega
  have hXX := Lib.hid hX
  have hDD := Lib.hid hD
  have hUU := Lib.hid hU
  have hTT := Lib.hid hT2
  have hQQ := Lib.hid hQ2
  clear hX hD hU hT2 hQ2 hQ
  go_enter Tryz.func21, Tryz.ntmps21
  go_wp2_with fail
  have HX := Bx.one w #[.bool s, .slice A n c, .slice B m d] 27
  have hc00 := HX.cell0 0 rfl rfl
  have hc01 := HX.cell0 1 rfl rfl
  have hc02 := HX.cell0 2 rfl rfl
  refine (fnorm_any _ (h.ext HX.below) (by omega)).mono ?_
  rintro e w1 ⟨A1, c1, B1, d1, rfl, H1, H2, hb1⟩
  rw [hXX.out] at H1
  rw [hDD.out] at H2
  rw [hXX.out, hDD.out]
  clear hc00 hc01 hc02
  have HX1 := HX.ext hb1
  have hc00 := HX1.cell0 0 rfl rfl
  have hc01 := HX1.cell0 1 rfl rfl
  have hc02 := HX1.cell0 2 rfl rfl
  have hf00 := HX1.free0 0 rfl
  have hf01 := HX1.free0 1 rfl
  have hf02 := HX1.free0 2 rfl
  go_upto_region 4 with fail
  have HX2 := HX1.put3 0 rfl (.bool (sg q)) (.slice A1 (dig X).length c1) (.slice B1 (dig D).length d1)
  have hk2 := HX1.put3_keep 0 rfl rfl rfl rfl (.bool (sg q)) (.slice A1 (dig X).length c1) (.slice B1 (dig D).length d1)
  obtain ⟨W2, hW2⟩ : ∃ W2, W2 = ((w1.setCell ⟨w.heap.size, 0, none⟩ (.bool (sg q))).setCell ⟨w.heap.size, 1, none⟩ (.slice A1 (dig X).length c1)).setCell ⟨w.heap.size, 2, none⟩ (.slice B1 (dig D).length d1) := ⟨_, rfl⟩
  simp only [Nat.add_zero] at HX2 hk2
  rw [← hW2] at HX2 hk2
  rw [← hW2]
  clear hW2 hc00 hc01 hc02 hf00 hf01 hf02
  have H1 := H1.stay hk2
  have H2 := H2.stay hk2
  clear hk2
  go_wp2_with fail
  refine (nof_any 10 _ (by omega)).mono ?_
  rintro e w3 ⟨A3, c3, rfl, H3, hb3⟩
  have HX3 := HX2.ext hb3
  go_wp2_with fail
  refine (npow_any A3 _ c3 (dig 10) k _ H3 rfl (by omega) (hT.ext HX3.below) (by omega) hnU).mono ?_
  rw [val_dig, hUU.out]
  rintro e w4 ⟨A6, c6, rfl, H6, hb4⟩
  have HX4 := HX3.ext hb4
  have H1 := (H1.ext hb3).ext hb4
  have H2 := (H2.ext hb3).ext hb4
  clear H3
  go_upto_region 5 with fail
  obtain ⟨W5, hW5⟩ : ∃ W5, W5 = w4.alloc (.cells #[.slice A6 (dig U).length c6] 25) := ⟨_, rfl⟩
  have hb5 : Below w4.heap.size w4 W5 := by rw [hW5]; exact below_alloc _ _
  have hx6 : W5.cell? ⟨w4.heap.size, 0, none⟩ = some (.slice A6 (dig U).length c6) := by rw [hW5]; exact al_new rfl _ _
  have HX5 := HX4.ext hb5
  have H1 := H1.ext hb5
  have H2 := H2.ext hb5
  have H6 := H6.ext hb5
  have hg6 := HX4.size
  rw [← hW5]
  clear hW5 hb5
  generalize w4.heap.size = g6 at *
  go_wp2_with fail
  refine (nof_any 2 _ (by omega)).mono ?_
  rintro e w6 ⟨A8, c8, rfl, H8, hb6⟩
  have HX6 := HX5.ext hb6
  have H1 := H1.ext hb6
  have H2 := H2.ext hb6
  have H6 := H6.ext hb6
  have hx6 : w6.cell? ⟨g6, 0, none⟩ = some (.slice A6 (dig U).length c6) := by rw [hb6.cell (cell_lt hx6)]; exact hx6
  go_upto_region 6 with fail
  obtain ⟨W7, hW7⟩ : ∃ W7, W7 = w6.alloc (.cells #[.slice A8 (dig 2).length c8] 25) := ⟨_, rfl⟩
  have hb7 : Below w6.heap.size w6 W7 := by rw [hW7]; exact below_alloc _ _
  have hx8 : W7.cell? ⟨w6.heap.size, 0, none⟩ = some (.slice A8 (dig 2).length c8) := by rw [hW7]; exact al_new rfl _ _
  rw [← hW7]
  clear hW7
  have HD : DecS w W7 q X D U A1 c1 B1 d1 g6 A6 c6 w6.heap.size A8 c8 :=
    ⟨HX6.ext hb7, H1.ext hb7, H2.ext hb7, by rw [hb7.cell (cell_lt hx6)]; exact hx6, H6.ext hb7, hx8, H8.ext hb7⟩
  clear hb7 hx8 hx6 H1 H2 H6 H8 HX6 HX5 hb6 HX4 hb4 hb3 HX2 HX1 HX hb1 h
  generalize w6.heap.size = g8 at *
  have hwW := HD.bx.size
  simp only [List.length_cons, List.length_nil] at hwW
  go_cut [9] (fun x wx => ∃ g9 A9 c9, x = .pointer (some ⟨g9, 0, none⟩) ∧ DecS w wx q X D U A1 c1 B1 d1 g6 A6 c6 g8 A8 c8 ∧ wx.cell? ⟨g9, 0, none⟩ = some (.slice A9 (dig T).length c9) ∧ Lim wx A9 c9 (dig T))
  case first =>
    have HB0 : Below W7.heap.size W7 W7.drew := drew_ext W7
    have held : ∀ {W' : World}, Below W7.heap.size W7 W' → W'.cell? ⟨w.heap.size, 1, none⟩ = some (.slice A1 (dig X).length c1) ∧ W'.cell? ⟨w.heap.size, 2, none⟩ = some (.slice B1 (dig D).length d1) ∧ W'.cell? ⟨g6, 0, none⟩ = some (.slice A6 (dig U).length c6) ∧ W'.cell? ⟨g8, 0, none⟩ = some (.slice A8 (dig 2).length c8) :=
      fun hb => ⟨(HD.ext hb).bx.cell 0 1 rfl rfl, (HD.ext hb).bx.cell 0 2 rfl rfl, (HD.ext hb).x6, (HD.ext hb).x8⟩
    go_region_held3 (fun W' => W'.cell? ⟨w.heap.size, 1, none⟩ = some (.slice A1 (dig X).length c1) ∧ W'.cell? ⟨w.heap.size, 2, none⟩ = some (.slice B1 (dig D).length d1) ∧ W'.cell? ⟨g6, 0, none⟩ = some (.slice A6 (dig U).length c6) ∧ W'.cell? ⟨g8, 0, none⟩ = some (.slice A8 (dig 2).length c8))
        ((refine held ?_; repeat' first | exact HB3 | exact HB2 | exact HB1 | exact HB0 | exact Below.refl _ _ | refine bel_al ?_ _ | refine bel_dr ?_ | refine bel_set ?_ ?_ _ | omega | (simp <;> omega)))
        (first
          | (go_at_call_of 51 (Value.agg #[.slice A1 (dig X).length c1]); refine (nmul_any A1 A6 _ _ c1 c6 (dig X) (dig U) _ (HD.num.ext (by repeat' first | exact HB0 | exact Below.refl _ _ | refine bel_al ?_ _ | refine bel_dr ?_)) (HD.l6.ext (by repeat' first | exact HB0 | exact Below.refl _ _ | refine bel_al ?_ _ | refine bel_dr ?_)) rfl rfl (by omega) (by omega)).mono ?_; rintro e w1 ⟨A11, c11, rfl, H11, hb1⟩; rw [val_dig, val_dig] at H11; rw [val_dig, val_dig]; have HB1 := bel_trans (a := W7) (by repeat' first | exact HB0 | exact Below.refl _ _ | refine bel_al ?_ _ | refine bel_dr ?_) hb1; have HC1 := bel_trans (a := W7) (by repeat' first | exact HB0 | exact Below.refl _ _ | refine bel_al ?_ _ | refine bel_dr ?_) hb1; have hs1 := HB1.size; have ht1 := HC1.size; (try have f100c : w1.cell? ⟨W7.heap.size, 0, none⟩ = some (.slice none 0 0) := by rw [hb1.cell (by first | omega | (simp <;> omega))]; simp [*]); (try have f100f : w1.frozen? ⟨W7.heap.size, 0, none⟩ = false := by rw [hb1.frozen (by first | omega | (simp <;> omega))]; simp [*]); (try have f100x : W7.heap.size < w1.heap.size := cell_lt f100c); (try have f1001 : W7.heap.size ≠ w1.heap.size := Nat.ne_of_lt (cell_lt f100c)); (try have f1002 : w1.heap.size ≠ W7.heap.size := Nat.ne_of_gt (cell_lt f100c)))
          | (go_at_call_of 51 (Value.agg #[.slice A8 (dig 2).length c8]); refine (nmul_any A8 A11 _ _ c8 c11 (dig 2) (dig (X * U)) _ (HD.l8.ext (by repeat' first | exact HB1 | refine bel_al ?_ _ | refine bel_dr ?_)) (H11.ext (by repeat' first | exact Below.refl _ _ | refine bel_al ?_ _ | refine bel_dr ?_)) rfl rfl (by omega) (by omega)).mono ?_; rintro e w2 ⟨A12, c12, rfl, H12, hb2⟩; rw [val_dig, val_dig] at H12; rw [val_dig, val_dig]; have HB2 := bel_trans (a := W7) (by repeat' first | exact HB1 | refine bel_al ?_ _ | refine bel_dr ?_) hb2; have HC2 := bel_trans (a := w1) (by repeat' first | exact Below.refl _ _ | refine bel_al ?_ _ | refine bel_dr ?_) hb2; have hs2 := HB2.size; have ht2 := HC2.size; (try have f200c : w2.cell? ⟨W7.heap.size, 0, none⟩ = some (.slice none 0 0) := by rw [HC2.cell (cell_lt f100c)]; exact f100c); (try have f200f : w2.frozen? ⟨W7.heap.size, 0, none⟩ = false := by rw [HC2.frozen (cell_lt f100c)]; exact f100f); (try have f210c : w2.cell? ⟨w1.heap.size, 0, none⟩ = some (.slice none 0 0) := by rw [hb2.cell (by first | omega | (simp <;> omega))]; simp [*]); (try have f210f : w2.frozen? ⟨w1.heap.size, 0, none⟩ = false := by rw [hb2.frozen (by first | omega | (simp <;> omega))]; simp [*]); (try have f200x : W7.heap.size < w2.heap.size := cell_lt f200c); (try have f2001 : W7.heap.size ≠ w2.heap.size := Nat.ne_of_lt (cell_lt f200c)); (try have f2002 : w2.heap.size ≠ W7.heap.size := Nat.ne_of_gt (cell_lt f200c)); (try have f210x : w1.heap.size < w2.heap.size := cell_lt f210c); (try have f2101 : w1.heap.size ≠ w2.heap.size := Nat.ne_of_lt (cell_lt f210c)); (try have f2102 : w2.heap.size ≠ w1.heap.size := Nat.ne_of_gt (cell_lt f210c)))
          | (go_at_call 59; refine (nadd_any A12 B1 _ _ c12 d1 (dig (2 * (X * U))) (dig D) _ (H12.ext (by repeat' first | exact Below.refl _ _ | refine bel_al ?_ _ | refine bel_dr ?_)) (HD.den.ext (by repeat' first | exact HB2 | refine bel_al ?_ _ | refine bel_dr ?_)) rfl rfl (by omega) (by omega)).mono ?_; rintro e w3 ⟨A13, c13, rfl, H13, hb3⟩; rw [val_dig, val_dig, hTT.out] at H13; rw [val_dig, val_dig, hTT.out]; have HB3 := bel_trans (a := W7) (by repeat' first | exact HB2 | refine bel_al ?_ _ | refine bel_dr ?_) hb3; have HC3 := bel_trans (a := w2) (by repeat' first | exact Below.refl _ _ | refine bel_al ?_ _ | refine bel_dr ?_) hb3; have hs3 := HB3.size; have ht3 := HC3.size; (try have f300c : w3.cell? ⟨W7.heap.size, 0, none⟩ = some (.slice none 0 0) := by rw [HC3.cell (cell_lt f200c)]; exact f200c); (try have f300f : w3.frozen? ⟨W7.heap.size, 0, none⟩ = false := by rw [HC3.frozen (cell_lt f200c)]; exact f200f); (try have f310c : w3.cell? ⟨w1.heap.size, 0, none⟩ = some (.slice none 0 0) := by rw [HC3.cell (cell_lt f210c)]; exact f210c); (try have f310f : w3.frozen? ⟨w1.heap.size, 0, none⟩ = false := by rw [HC3.frozen (cell_lt f210c)]; exact f210f); (try have f320c : w3.cell? ⟨w2.heap.size, 0, none⟩ = some (.slice none 0 0) := by rw [hb3.cell (by first | omega | (simp <;> omega))]; simp [*]); (try have f320f : w3.frozen? ⟨w2.heap.size, 0, none⟩ = false := by rw [hb3.frozen (by first | omega | (simp <;> omega))]; simp [*]); (try have f300d : ∀ o, (w3.alloc o).cell? ⟨W7.heap.size, 0, none⟩ = some (.slice none 0 0) := fun o => by rw [(below_alloc w3 o).cell (cell_lt f300c)]; exact f300c); (try have f300g : ∀ o, (w3.alloc o).frozen? ⟨W7.heap.size, 0, none⟩ = false := fun o => by rw [(below_alloc w3 o).frozen (cell_lt f300c)]; exact f300f); (try have f300x : W7.heap.size < w3.heap.size := cell_lt f300c); (try have f3001 : W7.heap.size ≠ w3.heap.size := Nat.ne_of_lt (cell_lt f300c)); (try have f3002 : w3.heap.size ≠ W7.heap.size := Nat.ne_of_gt (cell_lt f300c)); (try have f310d : ∀ o, (w3.alloc o).cell? ⟨w1.heap.size, 0, none⟩ = some (.slice none 0 0) := fun o => by rw [(below_alloc w3 o).cell (cell_lt f310c)]; exact f310c); (try have f310g : ∀ o, (w3.alloc o).frozen? ⟨w1.heap.size, 0, none⟩ = false := fun o => by rw [(below_alloc w3 o).frozen (cell_lt f310c)]; exact f310f); (try have f310x : w1.heap.size < w3.heap.size := cell_lt f310c); (try have f3101 : w1.heap.size ≠ w3.heap.size := Nat.ne_of_lt (cell_lt f310c)); (try have f3102 : w3.heap.size ≠ w1.heap.size := Nat.ne_of_gt (cell_lt f310c)); (try have f320d : ∀ o, (w3.alloc o).cell? ⟨w2.heap.size, 0, none⟩ = some (.slice none 0 0) := fun o => by rw [(below_alloc w3 o).cell (cell_lt f320c)]; exact f320c); (try have f320g : ∀ o, (w3.alloc o).frozen? ⟨w2.heap.size, 0, none⟩ = false := fun o => by rw [(below_alloc w3 o).frozen (cell_lt f320c)]; exact f320f); (try have f320x : w2.heap.size < w3.heap.size := cell_lt f320c); (try have f3201 : w2.heap.size ≠ w3.heap.size := Nat.ne_of_lt (cell_lt f320c)); (try have f3202 : w3.heap.size ≠ w2.heap.size := Nat.ne_of_gt (cell_lt f320c))))
    all_goals (
      go_wp2_with fail
      go_meet
      case rel =>
        clear held
        refine ⟨_, A13, c13, rfl, HD.ext ?_, ?_, ?_⟩
        · repeat' first | with_reducible exact HB3 | with_reducible refine bel_al ?_ _ | with_reducible refine bel_set ?_ ?_ _ | omega | (simp <;> omega)
        · repeat' first | with_reducible assumption | with_reducible exact al_new (by simp) _ _ | with_reducible refine set_same (u := .slice none 0 0) ?_ | with_reducible refine set_ne ?_ ?_ | with_reducible refine al_old ?_ | omega | (simp <;> omega)
        · repeat' first | with_reducible exact H13 | with_reducible refine lim_al ?_ _ | with_reducible refine lim_set ?_ ?_ _ | (repeat' first | with_reducible assumption | with_reducible exact al_new (by simp) _ _ | with_reducible refine set_same (u := .slice none 0 0) ?_ | with_reducible refine set_ne ?_ ?_ | with_reducible refine al_old ?_ | omega | (simp <;> omega); done))
  case rest =>
    clear HD hwW
    obtain ⟨g9, A9, c9, rfl, HD, hx9, H9⟩ := hcut
    have hwW := HD.bx.size
    simp only [List.length_cons, List.length_nil] at hwW
    go_upto_region 7 with fail
    go_cut [10] (fun x wx => ∃ g10 A10 c10, x = .pointer (some ⟨g10, 0, none⟩) ∧ Bx w wx [(#[.bool (sg q), .slice A1 (dig X).length c1, .slice B1 (dig D).length d1], 27)] ∧ wx.cell? ⟨g10, 0, none⟩ = some (.slice A10 (dig Q).length c10) ∧ Lim wx A10 c10 (dig Q))
    case first =>
      have HB0 : Below wc.heap.size wc wc.drew := drew_ext wc
      have held : ∀ {W' : World}, Below wc.heap.size wc W' → W'.cell? ⟨w.heap.size, 1, none⟩ = some (.slice A1 (dig X).length c1) ∧ W'.cell? ⟨w.heap.size, 2, none⟩ = some (.slice B1 (dig D).length d1) ∧ W'.cell? ⟨g6, 0, none⟩ = some (.slice A6 (dig U).length c6) ∧ W'.cell? ⟨g8, 0, none⟩ = some (.slice A8 (dig 2).length c8) ∧ W'.cell? ⟨g9, 0, none⟩ = some (.slice A9 (dig T).length c9) :=
        fun hb => ⟨(HD.ext hb).bx.cell 0 1 rfl rfl, (HD.ext hb).bx.cell 0 2 rfl rfl, (HD.ext hb).x6, (HD.ext hb).x8, by rw [hb.cell (cell_lt hx9)]; exact hx9⟩
      go_region_held3 (fun W' => W'.cell? ⟨w.heap.size, 1, none⟩ = some (.slice A1 (dig X).length c1) ∧ W'.cell? ⟨w.heap.size, 2, none⟩ = some (.slice B1 (dig D).length d1) ∧ W'.cell? ⟨g6, 0, none⟩ = some (.slice A6 (dig U).length c6) ∧ W'.cell? ⟨g8, 0, none⟩ = some (.slice A8 (dig 2).length c8) ∧ W'.cell? ⟨g9, 0, none⟩ = some (.slice A9 (dig T).length c9))
        ((refine held ?_; repeat' first | exact HB2 | exact HB1 | exact HB0 | exact Below.refl _ _ | refine bel_al ?_ _ | refine bel_dr ?_ | refine bel_set ?_ ?_ _ | omega | (simp <;> omega)))
        (first
          | (go_at_call 51; refine (nmul_any A8 B1 _ _ c8 d1 (dig 2) (dig D) _ (HD.l8.ext (by repeat' first | exact HB0 | exact Below.refl _ _ | refine bel_al ?_ _ | refine bel_dr ?_)) (HD.den.ext (by repeat' first | exact HB0 | exact Below.refl _ _ | refine bel_al ?_ _ | refine bel_dr ?_)) rfl rfl (by omega) (by omega)).mono ?_; rintro e w1 ⟨A11, c11, rfl, H11, hb1⟩; rw [val_dig, val_dig] at H11; rw [val_dig, val_dig]; have HB1 := bel_trans (a := wc) (by repeat' first | exact HB0 | exact Below.refl _ _ | refine bel_al ?_ _ | refine bel_dr ?_) hb1; have HC1 := bel_trans (a := wc) (by repeat' first | exact HB0 | exact Below.refl _ _ | refine bel_al ?_ _ | refine bel_dr ?_) hb1; have hs1 := HB1.size; have ht1 := HC1.size; (try have f100c : w1.cell? ⟨wc.heap.size, 0, none⟩ = some (.slice none 0 0) := by rw [hb1.cell (by first | omega | (simp <;> omega))]; simp [*]); (try have f100f : w1.frozen? ⟨wc.heap.size, 0, none⟩ = false := by rw [hb1.frozen (by first | omega | (simp <;> omega))]; simp [*]); (try have f101c : w1.cell? ⟨wc.heap.size + 1, 0, none⟩ = some (.slice none 0 0) := by rw [hb1.cell (by first | omega | (simp <;> omega))]; simp [*]); (try have f101f : w1.frozen? ⟨wc.heap.size + 1, 0, none⟩ = false := by rw [hb1.frozen (by first | omega | (simp <;> omega))]; simp [*]); (try have f100x : wc.heap.size < w1.heap.size := cell_lt f100c); (try have f1001 : wc.heap.size ≠ w1.heap.size := Nat.ne_of_lt (cell_lt f100c)); (try have f1002 : w1.heap.size ≠ wc.heap.size := Nat.ne_of_gt (cell_lt f100c)); (try have f101x : wc.heap.size + 1 < w1.heap.size := cell_lt f101c); (try have f1011 : wc.heap.size + 1 ≠ w1.heap.size := Nat.ne_of_lt (cell_lt f101c)); (try have f1012 : w1.heap.size ≠ wc.heap.size + 1 := Nat.ne_of_gt (cell_lt f101c)))
          | (go_at_call 60; refine (ndivmod_any A9 A11 _ _ c9 c11 (dig T) (dig (2 * D)) _ (H9.ext (by repeat' first | exact HB1 | refine bel_al ?_ _ | refine bel_dr ?_)) (H11.ext (by repeat' first | exact Below.refl _ _ | refine bel_al ?_ _ | refine bel_dr ?_)) rfl rfl (by omega) (by omega) (by rw [val_dig]; omega)).mono ?_; rintro e w2 ⟨A12, c12, A14, c14, rfl, H12, H14, hb2⟩; rw [val_dig, val_dig, hQQ.out] at H12; rw [val_dig, val_dig] at H14; rw [val_dig, val_dig, hQQ.out]; have HB2 := bel_trans (a := wc) (by repeat' first | exact HB1 | refine bel_al ?_ _ | refine bel_dr ?_) hb2; have HC2 := bel_trans (a := w1) (by repeat' first | exact Below.refl _ _ | refine bel_al ?_ _ | refine bel_dr ?_) hb2; have hs2 := HB2.size; have ht2 := HC2.size; (try have f200c : w2.cell? ⟨wc.heap.size, 0, none⟩ = some (.slice none 0 0) := by rw [HC2.cell (cell_lt f100c)]; exact f100c); (try have f200f : w2.frozen? ⟨wc.heap.size, 0, none⟩ = false := by rw [HC2.frozen (cell_lt f100c)]; exact f100f); (try have f201c : w2.cell? ⟨wc.heap.size + 1, 0, none⟩ = some (.slice none 0 0) := by rw [HC2.cell (cell_lt f101c)]; exact f101c); (try have f201f : w2.frozen? ⟨wc.heap.size + 1, 0, none⟩ = false := by rw [HC2.frozen (cell_lt f101c)]; exact f101f); (try have f210c : w2.cell? ⟨w1.heap.size, 0, none⟩ = some (.slice none 0 0) := by rw [hb2.cell (by first | omega | (simp <;> omega))]; simp [*]); (try have f210f : w2.frozen? ⟨w1.heap.size, 0, none⟩ = false := by rw [hb2.frozen (by first | omega | (simp <;> omega))]; simp [*]); (try have f211c : w2.cell? ⟨w1.heap.size + 1, 0, none⟩ = some (.slice none 0 0) := by rw [hb2.cell (by first | omega | (simp <;> omega))]; simp [*]); (try have f211f : w2.frozen? ⟨w1.heap.size + 1, 0, none⟩ = false := by rw [hb2.frozen (by first | omega | (simp <;> omega))]; simp [*]); (try have f200d : ∀ o, (w2.alloc o).cell? ⟨wc.heap.size, 0, none⟩ = some (.slice none 0 0) := fun o => by rw [(below_alloc w2 o).cell (cell_lt f200c)]; exact f200c); (try have f200g : ∀ o, (w2.alloc o).frozen? ⟨wc.heap.size, 0, none⟩ = false := fun o => by rw [(below_alloc w2 o).frozen (cell_lt f200c)]; exact f200f); (try have f200x : wc.heap.size < w2.heap.size := cell_lt f200c); (try have f2001 : wc.heap.size ≠ w2.heap.size := Nat.ne_of_lt (cell_lt f200c)); (try have f2002 : w2.heap.size ≠ wc.heap.size := Nat.ne_of_gt (cell_lt f200c)); (try have f201d : ∀ o, (w2.alloc o).cell? ⟨wc.heap.size + 1, 0, none⟩ = some (.slice none 0 0) := fun o => by rw [(below_alloc w2 o).cell (cell_lt f201c)]; exact f201c); (try have f201g : ∀ o, (w2.alloc o).frozen? ⟨wc.heap.size + 1, 0, none⟩ = false := fun o => by rw [(below_alloc w2 o).frozen (cell_lt f201c)]; exact f201f); (try have f201x : wc.heap.size + 1 < w2.heap.size := cell_lt f201c); (try have f2011 : wc.heap.size + 1 ≠ w2.heap.size := Nat.ne_of_lt (cell_lt f201c)); (try have f2012 : w2.heap.size ≠ wc.heap.size + 1 := Nat.ne_of_gt (cell_lt f201c)); (try have f210d : ∀ o, (w2.alloc o).cell? ⟨w1.heap.size, 0, none⟩ = some (.slice none 0 0) := fun o => by rw [(below_alloc w2 o).cell (cell_lt f210c)]; exact f210c); (try have f210g : ∀ o, (w2.alloc o).frozen? ⟨w1.heap.size, 0, none⟩ = false := fun o => by rw [(below_alloc w2 o).frozen (cell_lt f210c)]; exact f210f); (try have f210x : w1.heap.size < w2.heap.size := cell_lt f210c); (try have f2101 : w1.heap.size ≠ w2.heap.size := Nat.ne_of_lt (cell_lt f210c)); (try have f2102 : w2.heap.size ≠ w1.heap.size := Nat.ne_of_gt (cell_lt f210c)); (try have f211d : ∀ o, (w2.alloc o).cell? ⟨w1.heap.size + 1, 0, none⟩ = some (.slice none 0 0) := fun o => by rw [(below_alloc w2 o).cell (cell_lt f211c)]; exact f211c); (try have f211g : ∀ o, (w2.alloc o).frozen? ⟨w1.heap.size + 1, 0, none⟩ = false := fun o => by rw [(below_alloc w2 o).frozen (cell_lt f211c)]; exact f211f); (try have f211x : w1.heap.size + 1 < w2.heap.size := cell_lt f211c); (try have f2111 : w1.heap.size + 1 ≠ w2.heap.size := Nat.ne_of_lt (cell_lt f211c)); (try have f2112 : w2.heap.size ≠ w1.heap.size + 1 := Nat.ne_of_gt (cell_lt f211c))))
      all_goals (
        go_wp2_with fail
        go_meet
        case rel =>
          clear held
          refine ⟨_, A12, c12, rfl, HD.bx.ext ?_, ?_, ?_⟩
          · repeat' first | with_reducible exact HB2 | with_reducible refine bel_al ?_ _ | with_reducible refine bel_set ?_ ?_ _ | omega | (simp <;> omega)
          · repeat' first | with_reducible assumption | with_reducible exact al_new (by simp) _ _ | with_reducible refine set_same (u := .slice none 0 0) ?_ | with_reducible refine set_ne ?_ ?_ | with_reducible refine al_old ?_ | omega | (simp <;> omega)
          · repeat' first | with_reducible exact H12 | with_reducible refine lim_al ?_ _ | with_reducible refine lim_set ?_ ?_ _ | (repeat' first | with_reducible assumption | with_reducible exact al_new (by simp) _ _ | with_reducible refine set_same (u := .slice none 0 0) ?_ | with_reducible refine set_ne ?_ ?_ | with_reducible refine al_old ?_ | omega | (simp <;> omega); done))
    case rest =>
      clear HD hwW hx9 H9
      obtain ⟨g10, A10, c10, rfl, HX, hx10, H10⟩ := hcut
      have hx10c := hx10
      go_wp2_with fail
      refine (ntext_any A10 _ c10 (dig Q) _ H10 rfl (by omega) (hT.ext HX.below)).mono ?_
      rw [val_dig]
      rintro e w8 ⟨rfl, hb8⟩
      have HX8 := HX.ext hb8
      have H10 := H10.ext hb8
      have hx10 : w8.cell? ⟨g10, 0, none⟩ = some (.slice A10 (dig Q).length c10) := by rw [hb8.cell (cell_lt hx10)]; exact hx10
      clear hx10c HX hb8
      have hnQ := nDigits_dig hlQ
      have hnQ1 := Lib.nDigits_pos Q
      have hsQ : ((str (Lib.decDigits Q)).size : Int) = (Lib.nDigits Q : Int) := by rw [str_size, Lib.decDigits_length]
      go_upto_if 53 with fail
      go_cut [13] (fun x wx => x = .string (str (zeros (k + 1 - Lib.nDigits Q) ++ Lib.decDigits Q)) ∧ Below w8.heap.size w8 wx)
      case first =>
        by_cases hle : Lib.nDigits Q ≤ k
        · obtain ⟨z, hz, hz9⟩ : ∃ z : Nat, (k : Int) + 1 - (Lib.nDigits Q : Int) = (z : Int) ∧ z = k + 1 - Lib.nDigits Q := ⟨k + 1 - Lib.nDigits Q, by omega, rfl⟩
          have hz11 := Lib.hid hz9
          have hz10 : z ≤ 21 := by omega
          clear hz9
          go_wp2_with fail
          refine (Tryz.strings_Repeat ⟨#[48]⟩ z w8 (by omega) (by simp [ByteArray.size]; omega)).mono ?_
          rintro e w9 ⟨rfl, hb9⟩
          rw [show (⟨#[48]⟩ : ByteArray).data.toList = [48] from rfl, repeatL_zero]
          have hsz : (str (zeros z)).size = z := by rw [str_size, zeros_len]
          have hszl := zeros_len z
          have hsq : (str (Lib.decDigits Q)).size = Lib.nDigits Q := by rw [str_size, Lib.decDigits_length]
          have happ := Lib.hid (str_append (zeros z) (Lib.decDigits Q))
          go_wp2
          go_meet
          case rel => exact ⟨by rw [← hz11.out, ← happ.out]; rfl, hb9⟩
        · have hz : k + 1 - Lib.nDigits Q = 0 := by omega
          have hz12 := Lib.hid hz
          clear hz
          go_wp2
          go_meet
          case rel => exact ⟨by rw [hz12.out]; rfl, Below.refl _ _⟩
      case rest =>
        obtain ⟨rfl, hb9⟩ := hcut
        clear hsQ
        have hdt : decText (sg q) Q k = (if (sg q && decide (0 < Q)) = true then 45 :: (if k = 0 then zeros (k + 1 - Lib.nDigits Q) ++ Lib.decDigits Q else (zeros (k + 1 - Lib.nDigits Q) ++ Lib.decDigits Q).take ((zeros (k + 1 - Lib.nDigits Q) ++ Lib.decDigits Q).length - k) ++ 46 :: (zeros (k + 1 - Lib.nDigits Q) ++ Lib.decDigits Q).drop ((zeros (k + 1 - Lib.nDigits Q) ++ Lib.decDigits Q).length - k)) else (if k = 0 then zeros (k + 1 - Lib.nDigits Q) ++ Lib.decDigits Q else (zeros (k + 1 - Lib.nDigits Q) ++ Lib.decDigits Q).take ((zeros (k + 1 - Lib.nDigits Q) ++ Lib.decDigits Q).length - k) ++ 46 :: (zeros (k + 1 - Lib.nDigits Q) ++ Lib.decDigits Q).drop ((zeros (k + 1 - Lib.nDigits Q) ++ Lib.decDigits Q).length - k))) := rfl
        have hsl : k + 1 ≤ (zeros (k + 1 - Lib.nDigits Q) ++ Lib.decDigits Q).length ∧ (zeros (k + 1 - Lib.nDigits Q) ++ Lib.decDigits Q).length ≤ 2000000000 := by rw [List.length_append, zeros_len, Lib.decDigits_length]; omega
        generalize zeros (k + 1 - Lib.nDigits Q) ++ Lib.decDigits Q = S0 at *
        obtain ⟨S1, hS1⟩ : ∃ S1, (if k = 0 then S0 else S0.take (S0.length - k) ++ 46 :: S0.drop (S0.length - k)) = S1 := ⟨_, rfl⟩
        rw [hS1] at hdt
        obtain ⟨n0, hn0⟩ : ∃ n0, S0.length = n0 := ⟨_, rfl⟩
        rw [hn0] at hsl hS1
        have HX9 := HX8.ext hb9
        have hx10 : wc.cell? ⟨g10, 0, none⟩ = some (.slice A10 (dig Q).length c10) := by rw [hb9.cell (cell_lt hx10)]; exact hx10
        have H10 := H10.ext hb9
        clear hb9 HX8
        have hS1l : S1.length ≤ 2000000001 := by rw [← hS1]; split; exact Nat.le_trans (Nat.le_of_eq hn0) (by omega); simp; omega
        have hdt := Lib.hid hdt
        have hSn : ((str S0).size : Int) = (n0 : Int) := by rw [str_size, hn0]
        go_upto_if 63 with fail
        go_cut [13] (fun x wx => x = .string (str S1) ∧ Below wc.heap.size wc wx)
        case first =>
          by_cases hk0 : k = 0
          · rw [if_pos hk0] at hS1
            subst hS1 hk0
            go_wp2
            go_meet
            case rel => exact ⟨rfl, Below.refl _ _⟩
          · rw [if_neg hk0] at hS1
            have hS1 := Lib.hid hS1
            obtain ⟨j, hj, hj1, hj2⟩ : ∃ j : Nat, (n0 : Int) - (k : Int) = (j : Int) ∧ j ≤ n0 ∧ j = n0 - k := ⟨n0 - k, by omega, by omega, rfl⟩
            have hj3 := Lib.hid hj2
            clear hj2
            have hSn2 : (str S0).size = n0 := by rw [str_size, hn0]
            have hex1 : (str S0).extract 0 j = str (S0.take j) := str_take S0 j
            have hex2 : (str S0).extract j n0 = str (S0.drop j) := by rw [← hn0]; exact str_drop S0 j
            have hex1s : (str (S0.take j)).size ≤ 2000000000 := by rw [str_size, List.length_take]; omega
            have hex2s : (str (S0.drop j)).size ≤ 2000000000 := by rw [str_size, List.length_drop]; omega
            go_upto_region 12 with fail
            go_quiet (fail)
            go_wp2_with fail
            go_meet
            case rel => exact ⟨by rw [← hS1.out, show (S0.take (n0 - k) ++ 46 :: S0.drop (n0 - k)) = (S0.take (n0 - k) ++ [46]) ++ S0.drop (n0 - k) by simp, ← hj3.out, ← str_append, ← str_append]; rfl, drew_below (Below.refl _ _) _⟩
        case rest =>
          obtain ⟨rfl, hb11⟩ := hcut
          have HX9 := HX9.ext hb11
          have H10 := H10.ext hb11
          have hx10 := (hb11.cell (cell_lt hx10)).trans hx10
          have h45 := Lib.hid (str_append [45] S1)
          have hs1s : (str S1).size ≤ 2000000001 := by rw [str_size]; exact hS1l
          have hc00 := HX9.cell0 0 rfl rfl
          cases hs : sg q
          · have hfin := Lib.hid (show decText (sg q) Q k = S1 by rw [hdt.out, hs]; rfl)
            have hfin2 := Lib.hid (show decText false Q k = S1 by rw [← hs, hdt.out, hs]; rfl)
            rw [hs] at hc00
            have hs := Lib.hid hs
            go_wp2
            go_ret2
            exact ⟨by first | (rw [hfin.out]; rfl) | (rw [hfin2.out]; rfl), HX9.below⟩
          · rw [hs] at hc00
            have hs := Lib.hid hs
            go_wp2_with fail
            refine (zero_any A10 _ c10 (dig Q) _ H10 rfl (by omega)).mono ?_
            rw [val_dig]
            rintro e w10 ⟨rfl, hb10⟩
            by_cases hQ0 : Q = 0
            · have hz := decide_eq_true hQ0
              have hfin := Lib.hid (show decText (sg q) Q k = S1 by rw [hdt.out, hQ0]; simp)
              clear hQ0
              rw [hz]
              go_wp2
              go_ret2
              exact ⟨by rw [hfin.out]; rfl, (HX9.ext hb10).below⟩
            · have hz := decide_eq_false hQ0
              have hfin := Lib.hid (show decText (sg q) Q k = 45 :: S1 by rw [hdt.out, hs.out, if_pos (by simp; omega)])
              clear hQ0
              rw [hz]
              go_wp2
              go_ret2
              exact ⟨by rw [hfin.out]; rw [show (45 :: S1) = [45] ++ S1 from rfl, ← h45.out]; rfl, (HX9.ext hb10).below⟩
end Go.Proofs.YtajddhkepbnilaaGreatDoor
