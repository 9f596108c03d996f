/- The package fraction, fourth part: Add, Sub. -/
import Derived.Test.YthempimelfmipaaGreatDoorFrac3
namespace Go.Proofs.YthempimelfmipaaGreatDoor
open Go.RowKit Go.Proofs

/-- two lowest terms lie in memory -/
structure Q2 (W : World) (p : Rat) (A : Option Addr) (c : Nat) (B : Option Addr) (d : Nat) : Prop where
  num : Lim W A c (dig (nu p))
  den : Lim W B d (dig p.den)
theorem Q2.stay {W W' : World} {p : Rat} {A B : Option Addr} {c d : Nat} (h : Q2 W p A c B d) (hk : Keep W W') : Q2 W' p A c B d := ⟨h.num.stay hk, h.den.stay hk⟩
theorem Q2.ext {W W' : World} {p : Rat} {A B : Option Addr} {c d : Nat} (h : Q2 W p A c B d) (hk : Below W.heap.size W W') : Q2 W' p A c B d := ⟨h.num.ext hk, h.den.ext hk⟩
theorem rest2 {w W W' : World} {os : List (Array Value × TypeId)} {p q : Rat} {A B A' B' : Option Addr} {c d c' d' : Nat} {R : Prop} (HX : Bx w W os) (HP : Q2 W p A c B d) (HQ : Q2 W q A' c' B' d') (hb : Below W.heap.size W W') (h : R) :
    Bx w W' os ∧ Q2 W' p A c B d ∧ Q2 W' q A' c' B' d' ∧ R := ⟨HX.ext hb, HP.ext hb, HQ.ext hb, h⟩

set_option maxHeartbeats 4000000 in
set_option maxRecDepth 100000 in
theorem fadd_any {s t : Bool} {A B A' B' : Option Addr} {n c m d n' c' m' d' : Nat} {p q : Rat} {k k' : Nat} (w : World) (h : Fr w s A n c B m d p k) (h' : Fr w t A' n' c' B' m' d' q k') (hk : k ≤ 134217727) (hk' : k' ≤ 134217727) :
    Calls Tryz.prog 37 #[.agg #[.bool s, .slice A n c, .slice B m d], .agg #[.bool t, .slice A' n' c', .slice B' m' d']] w (RetQ w (p + q)) := by
  have hsp := h.sz
  have hsq := h'.sz
  have hsp1 := hsp.1
  have hsp2 := hsp.2
  have hsq1 := hsq.1
  have hsq2 := hsq.2
  go_enter Tryz.func37, Tryz.ntmps37
  go_wp2_with fail
  obtain ⟨W, hW⟩ : ∃ W, W = ((w.alloc (.cells #[.bool s, .slice A n c, .slice B m d] 33)).alloc (.cells #[.bool t, .slice A' n' c', .slice B' m' d'] 33)).alloc (.cells #[.bool false, .slice none 0 0, .slice none 0 0] 33) := ⟨_, rfl⟩
  have HX := Bx.three w #[.bool s, .slice A n c, .slice B m d] #[.bool t, .slice A' n' c', .slice B' m' d'] #[.bool false, .slice none 0 0, .slice none 0 0] 33 33 33
  rw [← hW] at HX
  rw [← hW]
  clear hW
  have HX1 := HX.ext (drew_ext W)
  go_upto_region 1 with fail
  go_cut [] (fun wx => ∃ A1 c1 B1 d1 A2 c2 B2 d2, Bx w wx [(#[.bool (sg p), .slice A1 (dig (nu p)).length c1, .slice B1 (dig p.den).length d1], 33), (#[.bool (sg q), .slice A2 (dig (nu q)).length c2, .slice B2 (dig q.den).length d2], 33), (#[.bool false, .slice none 0 0, .slice none 0 0], 33)] ∧ Q2 wx p A1 c1 B1 d1 ∧ Q2 wx q A2 c2 B2 d2)
  case first =>
    have h00 := HX1.cell0 0 rfl rfl
    have h01 := HX1.cell0 1 rfl rfl
    have h02 := HX1.cell0 2 rfl rfl
    have h10 := HX1.cell 1 0 rfl rfl
    have h11 := HX1.cell 1 1 rfl rfl
    have h12 := HX1.cell 1 2 rfl rfl
    go_region_with (first
      | (go_at_call_of 74 (Value.agg #[.bool s, .slice A n c, .slice B m d]); refine (fnorm_any _ (h.ext HX1.below) (by omega)).mono ?_; rintro e w1 ⟨A1, c1, B1, d1, rfl, H1, H2, hb1⟩; have HX2 := HX1.ext hb1; have h20 := HX2.cell 1 0 rfl rfl; have h21 := HX2.cell 1 1 rfl rfl; have h22 := HX2.cell 1 2 rfl rfl)
      | (go_at_call_of 74 (Value.agg #[.bool t, .slice A' n' c', .slice B' m' d']); refine (fnorm_any _ (h'.ext HX2.below) (by omega)).mono ?_; rintro e w2 ⟨A2, c2, B2, d2, rfl, H3, H4, hb2⟩; have HX3 := HX2.ext hb2; have i00 := HX3.cell0 0 rfl rfl; have i01 := HX3.cell0 1 rfl rfl; have i02 := HX3.cell0 2 rfl rfl; have i10 := HX3.cell 1 0 rfl rfl; have i11 := HX3.cell 1 1 rfl rfl; have i12 := HX3.cell 1 2 rfl rfl; have f00 := HX3.free0 0 rfl; have f01 := HX3.free0 1 rfl; have f02 := HX3.free0 2 rfl; have f10 := HX3.free 1 0 rfl; have f11 := HX3.free 1 1 rfl; have f12 := HX3.free 1 2 rfl))
    all_goals (
      go_wp2_with fail
      go_meet
      case rel =>
        refine ⟨A1, c1, B1, d1, A2, c2, B2, d2, ?_, ?_, ?_⟩
        · first | exact (HX3.put3 0 rfl _ _ _).put3 1 rfl _ _ _ | exact (HX3.put3 1 rfl _ _ _).put3 0 rfl _ _ _
        · first | exact (Q2.mk (H1.ext hb2) (H2.ext hb2)).stay ((HX3.put3_keep 0 rfl rfl rfl rfl _ _ _).trans ((HX3.put3 0 rfl _ _ _).put3_keep 1 rfl rfl rfl rfl _ _ _)) | exact (Q2.mk (H1.ext hb2) (H2.ext hb2)).stay ((HX3.put3_keep 1 rfl rfl rfl rfl _ _ _).trans ((HX3.put3 1 rfl _ _ _).put3_keep 0 rfl rfl rfl rfl _ _ _))
        · first | exact (Q2.mk H3 H4).stay ((HX3.put3_keep 0 rfl rfl rfl rfl _ _ _).trans ((HX3.put3 0 rfl _ _ _).put3_keep 1 rfl rfl rfl rfl _ _ _)) | exact (Q2.mk H3 H4).stay ((HX3.put3_keep 1 rfl rfl rfl rfl _ _ _).trans ((HX3.put3 1 rfl _ _ _).put3_keep 0 rfl rfl rfl rfl _ _ _)))
  case rest =>
    clear HX HX1
    obtain ⟨A1, c1, B1, d1, A2, c2, B2, d2, HX, HP, HQ⟩ := hcut
    have hx := len_mul hsp.1 hsq.2
    have hy := len_mul hsq.1 hsp.2
    have hz := len_mul hsp.2 hsq.2
    have HX1 := HX.ext (drew_ext wc)
    have HX1a := fun o => HX1.ext (below_alloc wc.drew o)
    have HX1b := fun o o' => (HX1a o).ext (below_alloc (wc.drew.alloc o) o')
    go_upto_region 2 with fail
    go_cut [5, 6] (fun x y wx => ∃ g1 g2 A3 c3 A4 c4, x = .pointer (some ⟨g1, 0, none⟩) ∧ y = .pointer (some ⟨g2, 0, none⟩) ∧ w.heap.size + 3 ≤ g1 ∧ w.heap.size + 3 ≤ g2 ∧ Bx w wx [(#[.bool (sg p), .slice A1 (dig (nu p)).length c1, .slice B1 (dig p.den).length d1], 33), (#[.bool (sg q), .slice A2 (dig (nu q)).length c2, .slice B2 (dig q.den).length d2], 33), (#[.bool false, .slice none 0 0, .slice none 0 0], 33)] ∧ Q2 wx p A1 c1 B1 d1 ∧ Q2 wx q A2 c2 B2 d2 ∧ wx.cell? ⟨g1, 0, none⟩ = some (.slice A3 (dig (nu p * q.den)).length c3) ∧ wx.cell? ⟨g2, 0, none⟩ = some (.slice A4 (dig (nu q * p.den)).length c4) ∧ Lim wx A3 c3 (dig (nu p * q.den)) ∧ Lim wx A4 c4 (dig (nu q * p.den)))
    case first =>
      have hwc := HX.size
      simp only [List.length_cons, List.length_nil] at hwc
      have HB1 : Below wc.heap.size wc wc.drew := drew_ext wc
      have held : ∀ {W' : World}, Bx w W' [(#[.bool (sg p), .slice A1 (dig (nu p)).length c1, .slice B1 (dig p.den).length d1], 33), (#[.bool (sg q), .slice A2 (dig (nu q)).length c2, .slice B2 (dig q.den).length d2], 33), (#[.bool false, .slice none 0 0, .slice none 0 0], 33)] → W'.cell? ⟨w.heap.size, 0, none⟩ = some (.bool (sg p)) ∧ W'.cell? ⟨w.heap.size, 1, none⟩ = some (.slice A1 (dig (nu p)).length c1) ∧ W'.cell? ⟨w.heap.size, 2, none⟩ = some (.slice B1 (dig p.den).length d1) ∧ W'.cell? ⟨w.heap.size + 1, 0, none⟩ = some (.bool (sg q)) ∧ W'.cell? ⟨w.heap.size + 1, 1, none⟩ = some (.slice A2 (dig (nu q)).length c2) ∧ W'.cell? ⟨w.heap.size + 1, 2, none⟩ = some (.slice B2 (dig q.den).length d2) :=
        fun h => ⟨h.cell 0 0 rfl rfl, h.cell 0 1 rfl rfl, h.cell 0 2 rfl rfl, h.cell 1 0 rfl rfl, h.cell 1 1 rfl rfl, h.cell 1 2 rfl rfl⟩
      go_region_held3 (fun W' => W'.cell? ⟨w.heap.size, 0, none⟩ = some (.bool (sg p)) ∧ W'.cell? ⟨w.heap.size, 1, none⟩ = some (.slice A1 (dig (nu p)).length c1) ∧ W'.cell? ⟨w.heap.size, 2, none⟩ = some (.slice B1 (dig p.den).length d1) ∧ W'.cell? ⟨w.heap.size + 1, 0, none⟩ = some (.bool (sg q)) ∧ W'.cell? ⟨w.heap.size + 1, 1, none⟩ = some (.slice A2 (dig (nu q)).length c2) ∧ W'.cell? ⟨w.heap.size + 1, 2, none⟩ = some (.slice B2 (dig q.den).length d2))
        ((refine held (HX.ext ?_); repeat' first | exact HB3 | exact HB2 | exact HB1 | exact Below.refl _ _ | refine bel_al ?_ _ | refine bel_dr ?_ | refine bel_set ?_ ?_ _ | omega | (simp <;> omega)))
        (first
          | (go_at_call_of 49 (Value.agg #[.slice A1 (dig (nu p)).length c1]); refine (nmul_any A1 B2 _ _ c1 d2 (dig (nu p)) (dig q.den) _ (HP.num.ext (by repeat' first | exact HB1 | exact Below.refl _ _ | refine bel_al ?_ _ | refine bel_dr ?_)) (HQ.den.ext (by repeat' first | exact HB1 | exact Below.refl _ _ | refine bel_al ?_ _ | refine bel_dr ?_)) rfl rfl (by omega) (by omega)).mono ?_; rintro e w1 ⟨A3, c3, rfl, H3, hb1⟩; rw [val_dig, val_dig] at H3; rw [val_dig, val_dig]; have HB2 := bel_trans (a := wc) (by repeat' first | exact HB1 | exact Below.refl _ _ | refine bel_al ?_ _ | refine bel_dr ?_) hb1; have hs1 := HB2.size; (try have ha1c : w1.cell? ⟨wc.heap.size, 0, none⟩ = some (.slice none 0 0) := by rw [hb1.cell (by first | omega | (simp <;> omega))]; simp [*]); (try have ha1f : w1.frozen? ⟨wc.heap.size, 0, none⟩ = false := by rw [hb1.frozen (by first | omega | (simp <;> omega))]; simp [*]); (try have ha2c : w1.cell? ⟨wc.heap.size + 1, 0, none⟩ = some (.slice none 0 0) := by rw [hb1.cell (by first | omega | (simp <;> omega))]; simp [*]); (try have ha2f : w1.frozen? ⟨wc.heap.size + 1, 0, none⟩ = false := by rw [hb1.frozen (by first | omega | (simp <;> omega))]; simp [*]))
          | (go_at_call_of 49 (Value.agg #[.slice A2 (dig (nu q)).length c2]); refine (nmul_any A2 B1 _ _ c2 d1 (dig (nu q)) (dig p.den) _ (HQ.num.ext (by repeat' first | exact HB2 | refine bel_al ?_ _ | refine bel_dr ?_)) (HP.den.ext (by repeat' first | exact HB2 | refine bel_al ?_ _ | refine bel_dr ?_)) rfl rfl (by omega) (by omega)).mono ?_; rintro e w2 ⟨A4, c4, rfl, H4, hb2⟩; rw [val_dig, val_dig] at H4; rw [val_dig, val_dig]; have HB3 := bel_trans (a := wc) (by repeat' first | exact HB2 | refine bel_al ?_ _ | refine bel_dr ?_) hb2; have HC := bel_trans (a := w1) (by repeat' first | exact Below.refl _ _ | refine bel_al ?_ _ | refine bel_dr ?_) hb2; have hs2 := HB3.size; have hs3 := HC.size; (try have he1c : w2.cell? ⟨wc.heap.size, 0, none⟩ = some (.slice none 0 0) := by rw [HC.cell (cell_lt ha1c)]; exact ha1c); (try have he1f : w2.frozen? ⟨wc.heap.size, 0, none⟩ = false := by rw [HC.frozen (cell_lt ha1c)]; exact ha1f); (try have he2c : w2.cell? ⟨wc.heap.size + 1, 0, none⟩ = some (.slice none 0 0) := by rw [HC.cell (cell_lt ha2c)]; exact ha2c); (try have he2f : w2.frozen? ⟨wc.heap.size + 1, 0, none⟩ = false := by rw [HC.frozen (cell_lt ha2c)]; exact ha2f); (try have he3c : w2.cell? ⟨w1.heap.size, 0, none⟩ = some (.slice none 0 0) := by rw [hb2.cell (by first | omega | (simp <;> omega))]; simp [*]); (try have he3f : w2.frozen? ⟨w1.heap.size, 0, none⟩ = false := by rw [hb2.frozen (by first | omega | (simp <;> omega))]; simp [*]); (try have he4c : w2.cell? ⟨w1.heap.size + 1, 0, none⟩ = some (.slice none 0 0) := by rw [hb2.cell (by first | omega | (simp <;> omega))]; simp [*]); (try have he4f : w2.frozen? ⟨w1.heap.size + 1, 0, none⟩ = false := by rw [hb2.frozen (by first | omega | (simp <;> omega))]; simp [*]); (try have he1l := cell_lt he1c); (try have he1d : ∀ o, (w2.alloc o).cell? ⟨wc.heap.size, 0, none⟩ = some (.slice none 0 0) := fun o => by rw [(below_alloc w2 o).cell (cell_lt he1c)]; exact he1c); (try have he1g : ∀ o, (w2.alloc o).frozen? ⟨wc.heap.size, 0, none⟩ = false := fun o => by rw [(below_alloc w2 o).frozen (cell_lt he1c)]; exact he1f); (try have he2l := cell_lt he2c); (try have he2d : ∀ o, (w2.alloc o).cell? ⟨wc.heap.size + 1, 0, none⟩ = some (.slice none 0 0) := fun o => by rw [(below_alloc w2 o).cell (cell_lt he2c)]; exact he2c); (try have he2g : ∀ o, (w2.alloc o).frozen? ⟨wc.heap.size + 1, 0, none⟩ = false := fun o => by rw [(below_alloc w2 o).frozen (cell_lt he2c)]; exact he2f); (try have he3l := cell_lt he3c); (try have he3d : ∀ o, (w2.alloc o).cell? ⟨w1.heap.size, 0, none⟩ = some (.slice none 0 0) := fun o => by rw [(below_alloc w2 o).cell (cell_lt he3c)]; exact he3c); (try have he3g : ∀ o, (w2.alloc o).frozen? ⟨w1.heap.size, 0, none⟩ = false := fun o => by rw [(below_alloc w2 o).frozen (cell_lt he3c)]; exact he3f); (try have he4l := cell_lt he4c); (try have he4d : ∀ o, (w2.alloc o).cell? ⟨w1.heap.size + 1, 0, none⟩ = some (.slice none 0 0) := fun o => by rw [(below_alloc w2 o).cell (cell_lt he4c)]; exact he4c); (try have he4g : ∀ o, (w2.alloc o).frozen? ⟨w1.heap.size + 1, 0, none⟩ = false := fun o => by rw [(below_alloc w2 o).frozen (cell_lt he4c)]; exact he4f); (try have ha1x : wc.heap.size < w1.heap.size := cell_lt ha1c); (try have ha1x1 : wc.heap.size ≠ w1.heap.size := Nat.ne_of_lt (cell_lt ha1c)); (try have ha1x2 : w1.heap.size ≠ wc.heap.size := Nat.ne_of_gt (cell_lt ha1c)); (try have ha2x : wc.heap.size + 1 < w1.heap.size := cell_lt ha2c); (try have ha2x1 : wc.heap.size + 1 ≠ w1.heap.size := Nat.ne_of_lt (cell_lt ha2c)); (try have ha2x2 : w1.heap.size ≠ wc.heap.size + 1 := Nat.ne_of_gt (cell_lt ha2c)); (try have he1y : wc.heap.size < w2.heap.size := cell_lt he1c); (try have he1y1 : wc.heap.size ≠ w2.heap.size := Nat.ne_of_lt (cell_lt he1c)); (try have he1y2 : w2.heap.size ≠ wc.heap.size := Nat.ne_of_gt (cell_lt he1c)); (try have he2y : wc.heap.size + 1 < w2.heap.size := cell_lt he2c); (try have he2y1 : wc.heap.size + 1 ≠ w2.heap.size := Nat.ne_of_lt (cell_lt he2c)); (try have he2y2 : w2.heap.size ≠ wc.heap.size + 1 := Nat.ne_of_gt (cell_lt he2c)); (try have he3y : w1.heap.size < w2.heap.size := cell_lt he3c); (try have he3y1 : w1.heap.size ≠ w2.heap.size := Nat.ne_of_lt (cell_lt he3c)); (try have he3y2 : w2.heap.size ≠ w1.heap.size := Nat.ne_of_gt (cell_lt he3c)); (try have he4y : w1.heap.size + 1 < w2.heap.size := cell_lt he4c); (try have he4y1 : w1.heap.size + 1 ≠ w2.heap.size := Nat.ne_of_lt (cell_lt he4c)); (try have he4y2 : w2.heap.size ≠ w1.heap.size + 1 := Nat.ne_of_gt (cell_lt he4c))))
      all_goals (
        go_wp2_with fail
        go_meet
        case rel =>
          clear held
          refine ⟨_, _, A3, c3, A4, c4, rfl, rfl, ?_, ?_, rest2 HX HP HQ ?_ ⟨?_, ?_, ?_, ?_⟩⟩
          · omega
          · omega
          · repeat' first | with_reducible exact HB3 | with_reducible refine bel_al ?_ _ | with_reducible refine bel_set ?_ ?_ _ | omega | (simp <;> omega)
          · repeat' first | with_reducible assumption | with_reducible exact al_new (by simp) _ _ | with_reducible refine set_same (u := .slice none 0 0) ?_ | with_reducible refine set_ne ?_ ?_ | with_reducible refine al_old ?_ | omega | (simp <;> omega)
          · repeat' first | with_reducible assumption | with_reducible exact al_new (by simp) _ _ | with_reducible refine set_same (u := .slice none 0 0) ?_ | with_reducible refine set_ne ?_ ?_ | with_reducible refine al_old ?_ | omega | (simp <;> omega)
          · repeat' first | with_reducible exact H3.ext HC | with_reducible refine lim_al ?_ _ | with_reducible refine lim_set ?_ ?_ _ | (repeat' first | with_reducible assumption | with_reducible exact al_new (by simp) _ _ | with_reducible refine set_same (u := .slice none 0 0) ?_ | with_reducible refine set_ne ?_ ?_ | with_reducible refine al_old ?_ | omega | (simp <;> omega); done)
          · repeat' first | with_reducible exact H4 | with_reducible refine lim_al ?_ _ | with_reducible refine lim_set ?_ ?_ _ | (repeat' first | with_reducible assumption | with_reducible exact al_new (by simp) _ _ | with_reducible refine set_same (u := .slice none 0 0) ?_ | with_reducible refine set_ne ?_ ?_ | with_reducible refine al_old ?_ | omega | (simp <;> omega); done))
    case rest =>
      rename_i wd
      clear HX HX1 HX1a HX1b HP HQ
      obtain ⟨g1, g2, A3, c3, A4, c4, rfl, rfl, hg1, hg2, HX, HP, HQ, hx1, hx2, H3, H4⟩ := hcut
      obtain ⟨X, hX⟩ : ∃ X, nu p * q.den = X := ⟨_, rfl⟩
      obtain ⟨Y, hY⟩ : ∃ Y, nu q * p.den = Y := ⟨_, rfl⟩
      obtain ⟨Z, hZ⟩ : ∃ Z, p.den * q.den = Z := ⟨_, rfl⟩
      rw [hX] at hx hx1 H3
      rw [hY] at hy hx2 H4
      rw [hZ] at hz
      have hsum : sg p = sg q → p + q = rv (sg p) (X + Y) Z := fun hs => by
        have e := rv_add_same (sg p) (nu p) p.den (nu q) q.den p.den_pos q.den_pos
        rw [hX, hY, hZ, rv_self] at e
        rw [← e, hs, rv_self]
      have hdif1 : sg q = !sg p → Y ≤ X → p + q = rv (sg p) (X - Y) Z := fun hs hle => by
        have e := rv_add_le (sg p) (nu p) p.den (nu q) q.den p.den_pos q.den_pos (by rw [hX, hY]; exact hle)
        rw [hX, hY, hZ, rv_self, ← hs, rv_self] at e
        exact e
      have hdif2 : sg q = !sg p → X ≤ Y → p + q = rv (sg q) (Y - X) Z := fun hs hle => by
        have e := rv_add_le (sg q) (nu q) q.den (nu p) p.den q.den_pos p.den_pos (by rw [hX, hY]; exact hle)
        rw [hX, hY, Nat.mul_comm q.den p.den, hZ, rv_self, hs, Bool.not_not, rv_self] at e
        rw [Rat.add_comm, hs]
        exact e
      have hlx := len_add (k := k + k' + 2) (a := X) (b := Y) (by omega) (by omega)
      have hlxy := dig_mono (Nat.sub_le X Y)
      have hlyx := dig_mono (Nat.sub_le Y X)
      have HSUM := Lib.hid hsum
      have HDIF1 := Lib.hid hdif1
      have HDIF2 := Lib.hid hdif2
      have HZ := Lib.hid hZ
      clear hX hY hsum hdif1 hdif2 hZ
      have hc02 := HX.cell0 2 rfl rfl
      have hc12 := HX.cell 1 2 rfl rfl
      go_wp2_with fail
      refine (nmul_any B1 B2 _ _ d1 d2 (dig p.den) (dig q.den) _ HP.den HQ.den rfl rfl (by omega) (by omega)).mono ?_
      rintro e w5 ⟨A5, c5, rfl, H5, hb5⟩
      rw [val_dig, val_dig, HZ.out] at H5
      rw [val_dig, val_dig, HZ.out]
      clear hc02 hc12 HZ HP HQ
      have HX := HX.ext hb5
      have H3 := H3.ext hb5
      have H4 := H4.ext hb5
      have hx1 : w5.cell? ⟨g1, 0, none⟩ = some (.slice A3 (dig X).length c3) := by rw [hb5.cell (cell_lt hx1)]; exact hx1
      have hx2 : w5.cell? ⟨g2, 0, none⟩ = some (.slice A4 (dig Y).length c4) := by rw [hb5.cell (cell_lt hx2)]; exact hx2
      clear hb5
      go_upto_region 4 with fail
      obtain ⟨W, hW⟩ : ∃ W, W = w5.alloc (.cells #[.slice A5 (dig Z).length c5] 31) := ⟨_, rfl⟩
      have hb5 : Below w5.heap.size w5 W := by rw [hW]; exact below_alloc _ _
      have hx3 : W.cell? ⟨w5.heap.size, 0, none⟩ = some (.slice A5 (dig Z).length c5) := by rw [hW]; simp
      have hg3 := HX.size
      rw [← hW]
      clear hW
      simp only [List.length_cons, List.length_nil] at hg3
      have HX := HX.ext hb5
      have H3 := H3.ext hb5
      have H4 := H4.ext hb5
      have H5 := H5.ext hb5
      have hx1 : W.cell? ⟨g1, 0, none⟩ = some (.slice A3 (dig X).length c3) := by rw [hb5.cell (cell_lt hx1)]; exact hx1
      have hx2 : W.cell? ⟨g2, 0, none⟩ = some (.slice A4 (dig Y).length c4) := by rw [hb5.cell (cell_lt hx2)]; exact hx2
      clear hb5
      generalize w5.heap.size = g3 at *
      have held : ∀ {W' : World}, Bx w W' [(#[.bool (sg p), .slice A1 (dig (nu p)).length c1, .slice B1 (dig p.den).length d1], 33), (#[.bool (sg q), .slice A2 (dig (nu q)).length c2, .slice B2 (dig q.den).length d2], 33), (#[.bool false, .slice none 0 0, .slice none 0 0], 33)] → Below W.heap.size W W' → W'.cell? ⟨w.heap.size, 0, none⟩ = some (.bool (sg p)) ∧ W'.cell? ⟨g1, 0, none⟩ = some (.slice A3 (dig X).length c3) ∧ W'.cell? ⟨g2, 0, none⟩ = some (.slice A4 (dig Y).length c4) ∧ W'.cell? ⟨g3, 0, none⟩ = some (.slice A5 (dig Z).length c5) :=
        fun h hb => ⟨h.cell 0 0 rfl rfl, by rw [hb.cell (cell_lt hx1)]; exact hx1, by rw [hb.cell (cell_lt hx2)]; exact hx2, by rw [hb.cell (cell_lt hx3)]; exact hx3⟩
      by_cases hs : sg p = sg q
      · have hd : (sg p == sg q) = true := by simp [hs]
        have hpq := Lib.hid (HSUM.out hs)
        have hc00 := HX.cell0 0 rfl rfl
        have hc10 := HX.cell 1 0 rfl rfl
        clear hs
        go_upto_region 5 with fail
        have HB1 : Below W.heap.size W W.drew := drew_ext W
        have HX1 := HX.ext HB1
        have HX0 := HX
        clear hc00 hc10
        go_region_held3 (fun W' => W'.cell? ⟨w.heap.size, 0, none⟩ = some (.bool (sg p)) ∧ W'.cell? ⟨g1, 0, none⟩ = some (.slice A3 (dig X).length c3) ∧ W'.cell? ⟨g2, 0, none⟩ = some (.slice A4 (dig Y).length c4) ∧ W'.cell? ⟨g3, 0, none⟩ = some (.slice A5 (dig Z).length c5))
          (first | exact held HX (Below.refl _ _) | exact held HX1 HB1 | exact held HX8 HB8 | exact held HX9 HB9 | (rw [cell_set3 _ _ _ (by simp; omega), cell_set3 _ _ _ (by simp; omega), cell_set3 _ _ _ (by simp; omega), cell_set3 _ _ _ (by simp; omega)]; exact held HX9 HB9))
          (first
            | (go_at_call 75; refine (nadd_any A3 A4 _ _ c3 c4 (dig X) (dig Y) _ (H3.ext HB1) (H4.ext HB1) rfl rfl (by omega) (by omega)).mono ?_; rintro e w6 ⟨A6, c6, rfl, H6, hb6⟩; rw [val_dig, val_dig] at H6; rw [val_dig, val_dig]; have HB8 := bel_trans HB1 hb6; have HX8 := HX.ext HB8)
            | (go_at_call 51; refine (made_fr (Fr.of2 (k := 536870912) H6 (H5.ext HB8) (by omega) (by omega)) (Nat.le_refl _)).mono ?_; rw [← hpq.out]; rintro e w7 ⟨A9, c9, B9, d9, rfl, H9, H10, hb7⟩; have HB9 := bel_trans HB8 hb7; have HX9 := HX.ext HB9; have hc20 := HX9.cell 2 0 rfl rfl; have hf20 := HX9.free 2 0 rfl; have hc21 := HX9.cell 2 1 rfl rfl; have hf21 := HX9.free 2 1 rfl; have hc22 := HX9.cell 2 2 rfl rfl; have hf22 := HX9.free 2 2 rfl))
        go_wp2
        obtain ⟨hq0, hq1, hq2, hq, hkeep, hbel⟩ := set3 (w := w) (HX9.blk 2 rfl) rfl rfl rfl HX9.below (by omega) (.bool (sg (p + q))) (.slice A9 (dig (nu (p + q))).length c9) (.slice B9 (dig (p + q).den).length d9)
        exact bodyPost_ret (v := .agg #[.bool (sg (p + q)), .slice A9 (dig (nu (p + q))).length c9, .slice B9 (dig (p + q).den).length d9]) (by simp [results, Tryz.results37, go_sem, hq0, hq1, hq2]) rfl ⟨A9, c9, B9, d9, rfl, H9.stay hkeep, H10.stay hkeep, hbel⟩
      · have hd : (sg p == sg q) = false := by simp [hs]
        have hs2 : sg q = !sg p := by cases hsp3 : sg p <;> cases hsq3 : sg q <;> simp_all
        have hc00 := HX.cell0 0 rfl rfl
        have hc10 := HX.cell 1 0 rfl rfl
        have HS2 := Lib.hid hs2
        clear hs hs2
        go_wp2_with fail
        refine (nsub_any A3 A4 _ _ c3 c4 (dig X) (dig Y) _ H3 H4 rfl rfl (by omega) (by omega)).mono ?_
        rw [val_dig, val_dig]
        rintro e w6 ⟨A6, c6, rfl, H6, hb6⟩
        clear hc00 hc10
        obtain ⟨err, herr⟩ : ∃ err : Int, (if X < Y then 2 else 0) = err := ⟨_, rfl⟩
        rw [herr]
        by_cases hXY : X < Y
        · rw [if_pos hXY] at herr
          subst herr
          have hpq := Lib.hid (HDIF2.out HS2.out (Nat.le_of_lt hXY))
          go_upto_region 9 with fail
          obtain ⟨W2, hW2⟩ : ∃ W2, W2 = w6.alloc (.cells #[.slice A6 (dig (X - Y)).length c6] 31) := ⟨_, rfl⟩
          have hb8 : Below W.heap.size W W2 := by rw [hW2]; exact bel_al hb6 _
          obtain ⟨hc00, hy1, hy2, hy3⟩ := held (HX.ext hb8) hb8
          rw [← hW2]
          clear hW2
          go_wp2_with fail
          refine (nsub_any A4 A3 _ _ c4 c3 (dig Y) (dig X) _ (H4.ext hb8) (H3.ext hb8) rfl rfl (by omega) (by omega)).mono ?_
          rw [val_dig, val_dig]
          rintro e w7 ⟨A7, c7, rfl, H7, hb7⟩
          clear hc00 hy1 hy2 hy3
          go_upto_region 10 with fail
          obtain ⟨W3, hW3⟩ : ∃ W3, W3 = w7.alloc (.cells #[.slice A7 (dig (Y - X)).length c7] 31) := ⟨_, rfl⟩
          have hb9 := bel_trans hb8 hb7
          have hb10 : Below W.heap.size W W3 := by rw [hW3]; exact bel_al hb9 _
          have hy4 : W3.cell? ⟨w7.heap.size, 0, none⟩ = some (.slice A7 (dig (Y - X)).length c7) := by rw [hW3]; exact al_new rfl _ _
          have H7 : Lim W3 A7 c7 (dig (Y - X)) := by rw [hW3]; exact lim_al H7 _
          obtain ⟨hc00, hy1, hy2, hy3⟩ := held (HX.ext hb10) hb10
          have hc10 := (HX.ext hb10).cell 1 0 rfl rfl
          rw [← hW3]
          clear hW3
          go_wp2_with fail
          refine (made_fr (Fr.of2 (k := 536870912) H7 (H5.ext hb10) (by omega) (by omega)) (Nat.le_refl _)).mono ?_
          rw [← hpq.out]
          rintro e w8 ⟨A9, c9, B9, d9, rfl, H9, H10, hb11⟩
          have HX9 := HX.ext (bel_trans hb10 hb11)
          have hc20 := HX9.cell 2 0 rfl rfl
          have hf20 := HX9.free 2 0 rfl
          have hc21 := HX9.cell 2 1 rfl rfl
          have hf21 := HX9.free 2 1 rfl
          have hc22 := HX9.cell 2 2 rfl rfl
          have hf22 := HX9.free 2 2 rfl
          go_wp2
          obtain ⟨hq0, hq1, hq2, hq, hkeep, hbel⟩ := set3 (w := w) (HX9.blk 2 rfl) rfl rfl rfl HX9.below (by omega) (.bool (sg (p + q))) (.slice A9 (dig (nu (p + q))).length c9) (.slice B9 (dig (p + q).den).length d9)
          exact bodyPost_ret (v := .agg #[.bool (sg (p + q)), .slice A9 (dig (nu (p + q))).length c9, .slice B9 (dig (p + q).den).length d9]) (by simp [results, Tryz.results37, go_sem, hq0, hq1, hq2]) rfl ⟨A9, c9, B9, d9, rfl, H9.stay hkeep, H10.stay hkeep, hbel⟩
        · rw [if_neg hXY] at herr
          subst herr
          have hpq := Lib.hid (HDIF1.out HS2.out (Nat.le_of_not_lt hXY))
          go_upto_region 8 with fail
          obtain ⟨W2, hW2⟩ : ∃ W2, W2 = w6.alloc (.cells #[.slice A6 (dig (X - Y)).length c6] 31) := ⟨_, rfl⟩
          have hb8 : Below W.heap.size W W2 := by rw [hW2]; exact bel_al hb6 _
          have hy4 : W2.cell? ⟨w6.heap.size, 0, none⟩ = some (.slice A6 (dig (X - Y)).length c6) := by rw [hW2]; exact al_new rfl _ _
          have H6 : Lim W2 A6 c6 (dig (X - Y)) := by rw [hW2]; exact lim_al H6 _
          obtain ⟨hc00, hy1, hy2, hy3⟩ := held (HX.ext hb8) hb8
          rw [← hW2]
          clear hW2
          go_wp2_with fail
          refine (made_fr (Fr.of2 (k := 536870912) H6 (H5.ext hb8) (by omega) (by omega)) (Nat.le_refl _)).mono ?_
          rw [← hpq.out]
          rintro e w8 ⟨A9, c9, B9, d9, rfl, H9, H10, hb11⟩
          have HX9 := HX.ext (bel_trans hb8 hb11)
          have hc20 := HX9.cell 2 0 rfl rfl
          have hf20 := HX9.free 2 0 rfl
          have hc21 := HX9.cell 2 1 rfl rfl
          have hf21 := HX9.free 2 1 rfl
          have hc22 := HX9.cell 2 2 rfl rfl
          have hf22 := HX9.free 2 2 rfl
          go_wp2
          obtain ⟨hq0, hq1, hq2, hq, hkeep, hbel⟩ := set3 (w := w) (HX9.blk 2 rfl) rfl rfl rfl HX9.below (by omega) (.bool (sg (p + q))) (.slice A9 (dig (nu (p + q))).length c9) (.slice B9 (dig (p + q).den).length d9)
          exact bodyPost_ret (v := .agg #[.bool (sg (p + q)), .slice A9 (dig (nu (p + q))).length c9, .slice B9 (dig (p + q).den).length d9]) (by simp [results, Tryz.results37, go_sem, hq0, hq1, hq2]) rfl ⟨A9, c9, B9, d9, rfl, H9.stay hkeep, H10.stay hkeep, hbel⟩
end Go.Proofs.YthempimelfmipaaGreatDoor
