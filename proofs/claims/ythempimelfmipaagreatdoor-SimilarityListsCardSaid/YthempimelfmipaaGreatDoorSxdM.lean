/- Coefficients and distances of hoards that are not valid. -/
import Derived.Test.YthempimelfmipaaGreatDoorSxbM
import Derived.Deep.RegionWith
namespace Go.Proofs.YthempimelfmipaaGreatDoor
open Go.RowKit Go.Proofs Go

def fewS (hs : List HR) : Bool := (hs.take 12).all (fun x => decide (x.l.length ≤ 40)) && decide (hs.length ≤ 10)
theorem fewS_len {hs : List HR} (h : fewS hs = true) : hs.length ≤ 10 := by
  rw [fewS, Bool.and_eq_true] at h
  exact of_decide_eq_true h.2
set_option maxHeartbeats 1000000 in
set_option maxRecDepth 100000 in
theorem few_any (A : Option Addr) (c : Nat) (hs : List HR) (w : World) (H : HL w A hs) (hl : hs.length ≤ 9223372036854775807) :
    Calls Tryz.prog 12 #[.slice A hs.length c] w (RetB w (fewS hs)) := by
  go_enter Tryz.func12, Tryz.ntmps12
  go_upto_block 1 with fail
  go_wp2
  go_loopg [3] hs.length (fun g i wr => ∃ k : Nat, k + g = hs.length ∧ k ≤ 12 ∧ i = .int .i64 (k : Int) ∧ Hid ((hs.take k).all (fun x => decide (x.l.length ≤ 40)) = true) ∧ Below w.heap.size w wr)
  case atStart => exact ⟨0, by omega, by omega, rfl, Lib.hid rfl, Below.refl _ _⟩
  case round =>
    obtain ⟨k, hk, hk12, rfl, he, hbw⟩ := hrel
    by_cases hk0 : k < hs.length
    · by_cases hk1 : k < 12
      · have hx := Lib.hid (List.getElem?_eq_getElem hk0)
        obtain ⟨ad, rfl, hb, _, c1, _, _, _, hxl⟩ := (H.ext hbw).at_ hx.out
        have hsu := Lib.hid (show (hs.take (k + 1)).all (fun x => decide (x.l.length ≤ 40)) = ((hs.take k).all (fun x => decide (x.l.length ≤ 40)) && decide ((hs[k]).l.length ≤ 40)) by
          rw [List.take_succ_eq_append_getElem hk0, List.all_append]; simp)
        have hal := Lib.hid (show ¬ (hs[k]).l.length ≤ 40 → fewS hs = false from fun h => by
          have h2 : (hs.take 12).all (fun x => decide (x.l.length ≤ 40)) = false := by
            rw [List.all_eq_false]
            refine ⟨hs[k], List.mem_take_iff_getElem.2 ⟨k, by omega, rfl⟩, by simpa using h⟩
          rw [fewS, h2]; rfl)
        generalize hs[k] = x at *
        by_cases h1 : x.l.length ≤ 40
        · have t1 : decide ((40 : Int) < (x.l.length : Int)) = false := decide_eq_false (by omega)
          have hnx := Lib.hid (show (hs.take (k + 1)).all (fun x => decide (x.l.length ≤ 40)) = true by rw [hsu.out, he.out, decide_eq_true h1]; rfl)
          go_wp2
          go_roundg (hs.length - (k + 1))
          case measure => omega
          case rel => exact ⟨k + 1, by omega, by omega, by go_num, hnx, hbw⟩
        · have t1 : decide ((40 : Int) < (x.l.length : Int)) = true := decide_eq_true (by omega)
          have hfin := Lib.hid (hal.out h1)
          go_wp2
          go_ret
          exact ⟨by rw [hfin.out]; rfl, hbw⟩
      · have hfin := Lib.hid (show fewS hs = false by
          have : decide (hs.length ≤ 10) = false := decide_eq_false (by omega)
          rw [fewS, this, Bool.and_false])
        have t1 : decide ((hs.length : Int) ≤ 10) = false := decide_eq_false (by omega)
        have t2 : decide ((k : Int) < 12) = false := decide_eq_false (by omega)
        go_wp2
        go_ret
        exact ⟨by rw [hfin.out]; first | rfl | simp [*], hbw⟩
    · have hfin := Lib.hid (show fewS hs = decide ((hs.length : Int) ≤ 10) by
        have h2 : (hs.take 12).all (fun x => decide (x.l.length ≤ 40)) = true := by
          have := he.out
          rw [List.take_of_length_le (show hs.length ≤ k by omega)] at this
          rw [List.take_of_length_le (show hs.length ≤ 12 by omega)]; exact this
        rw [fewS, h2, Bool.true_and]
        exact decide_eq_decide.2 (by omega))
      go_wp2
      go_ret
      exact ⟨by rw [hfin.out]; first | rfl | simp, hbw⟩
theorem Es.lit1 (W : World) (a b : Int) : Es (W.alloc (.cells #[.int .i64 a, .int .i64 b] 46)) (some ⟨W.heap.size, 0, none⟩) [(a, b)] := by
  intro _
  refine ⟨_, rfl, by simp, fun i x hx => ?_⟩
  rw [Addr.add_lit, Nat.zero_add]
  match i, hx with
  | 0, hx => simp at hx; subst hx; exact ⟨al_at rfl _ rfl, al_at rfl _ rfl⟩
  | i + 1, hx => simp at hx
set_option maxHeartbeats 1000000 in
set_option maxRecDepth 100000 in
theorem three_any (w : World) :
    Calls Tryz.prog 39 #[] w fun e w' => ∃ (g : Nat) (A1 A2 A3 : Option Addr), e = .returned (.slice (some ⟨g, 0, none⟩) 3 3) ∧ HL w' (some ⟨g, 0, none⟩) (h3 A1 A2 A3) ∧ Below w.heap.size w w' := by
  obtain ⟨W1, hW1⟩ : ∃ W, W = w.alloc (.cells #[.int .i64 1, .int .i64 1] 24) := ⟨_, rfl⟩
  have s1 : W1.heap.size = w.heap.size + 1 := by rw [hW1]; simp
  obtain ⟨W2, hW2⟩ : ∃ W, W = W1.alloc (.cells #[.int .i64 1, .int .i64 5] 46) := ⟨_, rfl⟩
  have s2 : W2.heap.size = w.heap.size + 1 + 1 := by rw [hW2]; simp [s1]
  obtain ⟨W3, hW3⟩ : ∃ W, W = W2.alloc (.cells #[.int .i64 1, .int .i64 1, .int .i64 2, .int .i64 1] 46) := ⟨_, rfl⟩
  have s3 : W3.heap.size = w.heap.size + 1 + 1 + 1 := by rw [hW3]; simp [s2]
  obtain ⟨W4, hW4⟩ : ∃ W, W = W3.alloc (.cells #[.int .i64 2, .int .i64 7] 46) := ⟨_, rfl⟩
  have s4 : W4.heap.size = w.heap.size + 1 + 1 + 1 + 1 := by rw [hW4]; simp [s3]
  have E1 := Es.lit1 W1 1 5
  have E2 := Es.lit2 W2 1 1 2 1
  have E3 := Es.lit1 W3 2 7
  rw [← hW2, s1] at E1
  rw [← hW3, s2] at E2
  rw [← hW4, s3] at E3
  have b2 : Below W2.heap.size W2 W3 := by rw [hW3]; exact below_alloc _ _
  have b3 : Below W3.heap.size W3 W4 := by rw [hW4]; exact below_alloc _ _
  have b1 : Below w.heap.size w W1 := by rw [hW1]; exact below_alloc _ _
  have b12 : Below W1.heap.size W1 W2 := by rw [hW2]; exact below_alloc _ _
  replace E1 := (E1.ext b2).ext b3
  replace E2 := E2.ext b3
  have K := HL.lit W4 26 (h3 (some ⟨w.heap.size + 1, 0, none⟩) (some ⟨w.heap.size + 1 + 1, 0, none⟩) (some ⟨w.heap.size + 1 + 1 + 1, 0, none⟩)) #[.int .i64 1, .slice (some ⟨w.heap.size + 1, 0, none⟩) 1 1, .int .i64 1, .int .i64 1, .int .i64 2, .slice (some ⟨w.heap.size + 1 + 1, 0, none⟩) 2 2, .int .i64 1, .int .i64 1, .int .i64 3, .slice (some ⟨w.heap.size + 1 + 1 + 1, 0, none⟩) 1 1, .int .i64 1, .int .i64 1] rfl (fun i x hx => by
    match i, hx with
    | 0, hx => simp [h3] at hx; subst hx; exact ⟨E1, by simp⟩
    | 1, hx => simp [h3] at hx; subst hx; exact ⟨E2, by simp⟩
    | 2, hx => simp [h3] at hx; subst hx; exact ⟨E3, by simp⟩
    | i + 3, hx => simp [h3] at hx)
  rw [s4] at K
  have b4 := bel_trans (bel_trans (bel_trans b1 b12) b2) b3
  have b5 : Below w.heap.size w (W4.alloc (.cells #[.int .i64 1, .slice (some ⟨w.heap.size + 1, 0, none⟩) 1 1, .int .i64 1, .int .i64 1, .int .i64 2, .slice (some ⟨w.heap.size + 1 + 1, 0, none⟩) 2 2, .int .i64 1, .int .i64 1, .int .i64 3, .slice (some ⟨w.heap.size + 1 + 1 + 1, 0, none⟩) 1 1, .int .i64 1, .int .i64 1] 26)) := bel_al b4 _
  rw [hW4, hW3, hW2, hW1] at K b5
  clear E1 E2 E3 b1 b12 b2 b3 b4 s1 s2 s3 s4 hW1 hW2 hW3 hW4
  go_enter Tryz.func39, Tryz.ntmps39
  go_wp2
  go_ret
  exact ⟨_, _, _, _, rfl, K, b5⟩
theorem fin3s {w W : World} {g : Nat} {A B : Option Addr} {c d : Nat} {q : Rat} {k : Nat} (hk : Keep w W) (h0 : W.cell? ⟨g, 0, none⟩ = some (.bool false)) (h1 : W.cell? ⟨g, 1, none⟩ = some (.slice none 0 0)) (h2 : W.cell? ⟨g, 2, none⟩ = some (.slice none 0 0)) (F : Fc w A c B d q k) (v0 v1 v2 : Value) :
    CB (((W.setCell ⟨g, 0, none⟩ v0).setCell ⟨g, 1, none⟩ v1).setCell ⟨g, 2, none⟩ v2) g v0 v1 v2 ∧ Fc (((W.setCell ⟨g, 0, none⟩ v0).setCell ⟨g, 1, none⟩ v1).setCell ⟨g, 2, none⟩ v2) A c B d q k := by
  have e1 : (W.setCell ⟨g, 0, none⟩ v0).cell? ⟨g, 1, none⟩ = some (.slice none 0 0) := set_off h1 (by omega)
  have e2 : ((W.setCell ⟨g, 0, none⟩ v0).setCell ⟨g, 1, none⟩ v1).cell? ⟨g, 2, none⟩ = some (.slice none 0 0) := set_off (set_off h2 (by omega)) (by omega)
  have s0 : (W.setCell ⟨g, 0, none⟩ v0).cell? ⟨g, 0, none⟩ = some v0 := set_same h0
  have s1 : ((W.setCell ⟨g, 0, none⟩ v0).setCell ⟨g, 1, none⟩ v1).cell? ⟨g, 1, none⟩ = some v1 := set_same e1
  have s2 : (((W.setCell ⟨g, 0, none⟩ v0).setCell ⟨g, 1, none⟩ v1).setCell ⟨g, 2, none⟩ v2).cell? ⟨g, 2, none⟩ = some v2 := set_same e2
  refine ⟨⟨set_off (set_off s0 (by omega)) (by omega), set_off s1 (by omega), s2⟩, F.stay ?_⟩
  exact ((hk.box h0 rfl v0).box e1 rfl v1).box e2 rfl v2
theorem ftext_s {w : World} {A B : Option Addr} {c d k : Nat} {q : Rat} {L : List UInt8} (hL : Hid (fracText q = L)) (h : Fc w A c B d q k) (hk : k ≤ 1000000) (hT : Tab w) :
    Calls Tryz.prog 40 #[.agg #[.bool (sg q), .slice A (dig (nu q)).length c, .slice B (dig q.den).length d]] w fun e w' => e = .returned (.string (str L)) ∧ Below w.heap.size w w' := by
  rw [← hL.out]
  exact ftext_any w h.fr (by omega) hT
theorem mxv_of {hs : List HR} {rs : List RR} (h6 : hs.length ≤ 6) (hs1 : Sqr rs hs.length) (hq : qOf rs = matQ hs) : MxV rs := by
  refine ⟨by rw [hs1.1]; exact h6, by rw [hs1.1]; exact hs1, fun i j h1 h2 => ?_⟩
  rw [hs1.1] at h2
  rw [hq]; exact mq_sym ⟨by omega, by omega⟩ ⟨by omega, by omega⟩
theorem best3I (A1 A2 A3 : Option Addr) : BestIs (h3 A1 A2 A3) [0, 1, 2] 0 0 :=
  ⟨0, ChkIs.of (by simp [h3]) (good3 A1 A2 A3), .inr (.inr ⟨rfl, by simp [h3], ⟨0, by rw [mat3]; exact best3, rfl⟩, rfl⟩)⟩
theorem ev3I {rs : List RR} {A1 A2 A3 : Option Addr} (hs1 : Sqr rs 3) (hq : qOf rs = matQ (h3 A1 A2 A3)) : EvIs rs [0, 2, 1] 1 0 := by
  refine .inr (.inr ⟨mxv_of (hs := h3 A1 A2 A3) (by simp [h3]) hs1 hq, ?_, ?_, rfl⟩)
  · rw [hs1.1, IsOrd]; decide
  · rw [hq, mat3, evs3]; rfl
theorem qt100 : fracText (coD [(1, 1), (2, 1)] [(2, 7)] 99) = [49, 48, 48] := by rw [c23, t100]
set_option maxHeartbeats 4000000 in
set_option maxRecDepth 100000 in
theorem awake_any (w : World) (hT : Tab w) :
    Calls Tryz.prog 11 #[] w (RetB w true) := by
  obtain ⟨u, hu⟩ : ∃ u, Hid (coD [(1, 1), (2, 1)] [(2, 7)] 99 = u) := ⟨_, Lib.hid rfl⟩
  have HU := hu
  obtain ⟨L, HL0⟩ : ∃ L, Hid (fracText u = L) := ⟨_, Lib.hid rfl⟩
  have ht : ((str L).toList == [49, 48, 48]) = true := by
    rw [str_toList, ← HL0.out, ← hu.out, qt100]; rfl
  go_enter Tryz.func11, Tryz.ntmps11
  go_wp2_with fail
  refine (three_any _).mono ?_
  rintro e V1 ⟨gt, A1, A2, A3, rfl, HX3, hb0⟩
  replace hT := hT.ext hb0
  go_upto_region 2 with fail
  obtain ⟨ad', hade, hbk, p0, p1, p2, p3, E2, _⟩ := HX3.at_ (i := 1) (x := ⟨2, A2, 2, [(1, 1), (2, 1)], 1, 1⟩) rfl
  obtain rfl := Option.some.inj hade
  obtain ⟨ad', hade2, hbk2, q0, q1, q2, q3, E3, _⟩ := HX3.at_ (i := 2) (x := ⟨3, A3, 1, [(2, 7)], 1, 1⟩) rfl
  obtain rfl := Option.some.inj hade2
  simp only [Addr.add_lit, Nat.zero_add, Nat.reduceMul, List.length_cons, List.length_nil, Nat.reduceAdd] at p0 p1 p2 p3 q0 q1 q2 q3
  clear hade hade2 hbk hbk2
  go_cut [2, 3] (fun x z wx => ∃ (g : Nat) (A : Option Addr) (c : Nat) (B : Option Addr) (d : Nat), x = .pointer (some ⟨g, 0, none⟩) ∧ V1.heap.size ≤ g ∧ z = .int .i64 0 ∧ Below V1.heap.size V1 wx ∧ CB wx g (.bool (sg u)) (.slice A (dig (nu u)).length c) (.slice B (dig u.den).length d) ∧ Fc wx A c B d u 2)
  case first =>
    have HB0 : Below V1.heap.size V1 V1.drew := drew_ext V1
    have held : ∀ {W' : World}, Below V1.heap.size V1 W' → W'.cell? ⟨gt, 4, none⟩ = some (.int .i64 2) ∧ W'.cell? ⟨gt, 5, none⟩ = some (.slice A2 2 2) ∧ W'.cell? ⟨gt, 6, none⟩ = some (.int .i64 1) ∧ W'.cell? ⟨gt, 7, none⟩ = some (.int .i64 1) ∧ W'.cell? ⟨gt, 8, none⟩ = some (.int .i64 3) ∧ W'.cell? ⟨gt, 9, none⟩ = some (.slice A3 1 1) ∧ W'.cell? ⟨gt, 10, none⟩ = some (.int .i64 1) ∧ W'.cell? ⟨gt, 11, none⟩ = some (.int .i64 1) := fun hb => ⟨below_up hb p0, below_up hb p1, below_up hb p2, below_up hb p3, below_up hb q0, below_up hb q1, below_up hb q2, below_up hb q3⟩
    go_region_held3 (fun W' => W'.cell? ⟨gt, 4, none⟩ = some (.int .i64 2) ∧ W'.cell? ⟨gt, 5, none⟩ = some (.slice A2 2 2) ∧ W'.cell? ⟨gt, 6, none⟩ = some (.int .i64 1) ∧ W'.cell? ⟨gt, 7, none⟩ = some (.int .i64 1) ∧ W'.cell? ⟨gt, 8, none⟩ = some (.int .i64 3) ∧ W'.cell? ⟨gt, 9, none⟩ = some (.slice A3 1 1) ∧ W'.cell? ⟨gt, 10, none⟩ = some (.int .i64 1) ∧ W'.cell? ⟨gt, 11, none⟩ = some (.int .i64 1))
      ((refine held ?_; repeat' first | exact HB1 | exact HB0 | exact Below.refl _ _ | refine bel_al ?_ _ | refine bel_dr ?_ | refine bel_set ?_ ?_ _ | omega | (simp <;> omega)))
      (first
          | (go_at_call 13; refine (coeff_any A2 A3 2 1 _ _ _ (E2.ext (by repeat' first | exact HB0 | exact Below.refl _ _ | refine bel_al ?_ _ | refine bel_dr ?_)) (E3.ext (by repeat' first | exact HB0 | exact Below.refl _ _ | refine bel_al ?_ _ | refine bel_dr ?_)) (by simp) (by simp) v2 v3 HU).mono ?_; rintro e w1 ⟨A5, c5, B5, d5, rfl, F5, hb1⟩; have HB1 := bel_trans (a := V1) (by repeat' first | exact HB0 | exact Below.refl _ _ | refine bel_al ?_ _ | refine bel_dr ?_) hb1; have HC1 := bel_trans (a := V1) (by repeat' first | exact HB0 | exact Below.refl _ _ | refine bel_al ?_ _ | refine bel_dr ?_) hb1; have hs1 := HB1.size; have ht1 := HC1.size; (try have f100c : w1.cell? ⟨V1.heap.size, 0, none⟩ = some (.bool false) := by rw [hb1.cell (by first | omega | (simp <;> omega))]; simp [*]); (try have f100f : w1.frozen? ⟨V1.heap.size, 0, none⟩ = false := by rw [hb1.frozen (by first | omega | (simp <;> omega))]; simp [*]); (try have f100c1 : w1.cell? ⟨V1.heap.size, 1, none⟩ = some (.slice none 0 0) := by rw [hb1.cell (by first | omega | (simp <;> omega))]; simp [*]); (try have f100f1 : w1.frozen? ⟨V1.heap.size, 1, none⟩ = false := by rw [hb1.frozen (by first | omega | (simp <;> omega))]; simp [*]); (try have f100c2 : w1.cell? ⟨V1.heap.size, 2, none⟩ = some (.slice none 0 0) := by rw [hb1.cell (by first | omega | (simp <;> omega))]; simp [*]); (try have f100f2 : w1.frozen? ⟨V1.heap.size, 2, none⟩ = false := by rw [hb1.frozen (by first | omega | (simp <;> omega))]; simp [*]); (try have f100d : ∀ o, (w1.alloc o).cell? ⟨V1.heap.size, 0, none⟩ = some (.bool false) := fun o => by rw [(below_alloc w1 o).cell (cell_lt f100c)]; exact f100c); (try have f100g : ∀ o, (w1.alloc o).frozen? ⟨V1.heap.size, 0, none⟩ = false := fun o => by rw [(below_alloc w1 o).frozen (cell_lt f100c)]; exact f100f); (try have f100d1 : ∀ o, (w1.alloc o).cell? ⟨V1.heap.size, 1, none⟩ = some (.slice none 0 0) := fun o => by rw [(below_alloc w1 o).cell (cell_lt f100c1)]; exact f100c1); (try have f100g1 : ∀ o, (w1.alloc o).frozen? ⟨V1.heap.size, 1, none⟩ = false := fun o => by rw [(below_alloc w1 o).frozen (cell_lt f100c1)]; exact f100f1); (try have f100d2 : ∀ o, (w1.alloc o).cell? ⟨V1.heap.size, 2, none⟩ = some (.slice none 0 0) := fun o => by rw [(below_alloc w1 o).cell (cell_lt f100c2)]; exact f100c2); (try have f100g2 : ∀ o, (w1.alloc o).frozen? ⟨V1.heap.size, 2, none⟩ = false := fun o => by rw [(below_alloc w1 o).frozen (cell_lt f100c2)]; exact f100f2); (try have f100x : V1.heap.size < w1.heap.size := cell_lt f100c); (try have f1001 : V1.heap.size ≠ w1.heap.size := Nat.ne_of_lt (cell_lt f100c)); (try have f1002 : w1.heap.size ≠ V1.heap.size := Nat.ne_of_gt (cell_lt f100c))))
    all_goals (
      go_wp2_with fail
      go_meet
      case rel =>
        clear held
        first
          | (refine ⟨_, A5, c5, B5, d5, rfl, by first | omega | (simp <;> omega), rfl, ?_, ⟨al_at rfl _ rfl, al_at rfl _ rfl, al_at rfl _ rfl⟩, F5.ext (below_alloc _ _)⟩
             repeat' first | with_reducible exact HB1 | with_reducible refine bel_al ?_ _ | with_reducible refine bel_set ?_ ?_ _ | omega | (simp <;> omega))
          | (refine ⟨_, A5, c5, B5, d5, rfl, by first | omega | (simp <;> omega), rfl, ?_, fin3s ?_ ?_ ?_ ?_ F5 _ _ _⟩
             · repeat' first | with_reducible exact HB1 | with_reducible refine bel_al ?_ _ | with_reducible refine bel_set ?_ ?_ _ | omega | (simp <;> omega)
             · first | exact Keep.refl _ | exact (Keep.refl _).alloc _
             · first | assumption | exact al_at rfl _ rfl | (simp; done) | (apply_assumption)
             · first | assumption | exact al_at rfl _ rfl | (simp; done) | (apply_assumption)
             · first | assumption | exact al_at rfl _ rfl | (simp; done) | (apply_assumption)))
  case rest =>
    obtain ⟨g5, A5, c5, B5, d5, rfl, hge, rfl, hb, hcb, F5⟩ := hcut
    replace HX3 := HX3.ext hb
    replace hT := hT.ext hb
    replace hb0 := bel_trans hb0 hb
    clear hb hge p0 p1 p2 p3 q0 q1 q2 q3 E2 E3
    have cM : Calls Tryz.prog 27 #[.slice (some ⟨gt, 0, none⟩) 3 3] wc (RetMx wc 3 (matQ (h3 A1 A2 A3))) := matrix_ok (some ⟨gt, 0, none⟩) 3 (h3 A1 A2 A3) wc HX3 (Lib.hid (ChkIs.of (by simp [h3]) (good3 A1 A2 A3))) (Lib.hid rfl)
    go_wp2_with fail
    refine cM.mono ?_
    rintro e w3 ⟨A6, c6, rs, rfl, hs1, hq, HM, hb⟩
    have HEV := Lib.hid (ev3I hs1 hq)
    have HS3 := Lib.hid hs1
    replace HX3 := HX3.ext hb
    replace hT := hT.ext hb
    replace hb0 := bel_trans hb0 hb
    replace hcb := hcb.ext hb
    replace F5 := F5.ext hb
    clear hb cM hq hs1
    have cB : Calls Tryz.prog 26 #[.slice (some ⟨gt, 0, none⟩) 3 3] w3 (RetBest w3 [0, 1, 2] 0 0) := best_any (some ⟨gt, 0, none⟩) 3 (h3 A1 A2 A3) w3 HX3 (by simp [h3]) (Lib.hid (best3I A1 A2 A3))
    go_wp2_with fail
    refine cB.mono ?_
    rintro e w4 ⟨A7, c7, rfl, HI, hb⟩
    replace HM := HM.ext hb
    replace hT := hT.ext hb
    replace hb0 := bel_trans hb0 hb
    replace hcb := hcb.ext hb
    replace F5 := F5.ext hb
    clear hb cB HX3
    have HI2 := IEs.lit w4 3 [0, 2, 1] #[.int .i64 0, .int .i64 2, .int .i64 1] rfl
    have hb := below_alloc w4 (.cells #[.int .i64 0, .int .i64 2, .int .i64 1] 3)
    have cE : Calls Tryz.prog 22 #[.slice A6 3 c6, .slice (some ⟨w4.heap.size, 0, none⟩) 3 3] (w4.alloc (.cells #[.int .i64 0, .int .i64 2, .int .i64 1] 3)) (RetII (w4.alloc (.cells #[.int .i64 0, .int .i64 2, .int .i64 1] 3)) 1 0) := by
      have h := Events_any A6 (some ⟨w4.heap.size, 0, none⟩) c6 3 rs [0, 2, 1] _ (HM.ext hb) (by rw [HS3.out.1]; omega) HI2 (by simp) HEV
      rw [HS3.out.1] at h
      exact h
    go_wp2_with fail
    refine cE.mono ?_
    rintro e w5 ⟨rfl, hb5⟩
    replace hb := bel_trans hb hb5
    replace hT := hT.ext hb
    replace hb0 := bel_trans hb0 hb
    replace hcb := hcb.ext hb
    replace F5 := F5.ext hb
    replace HI := HI.ext hb
    clear hb hb5 cE HM HI2 HEV HS3
    have hc0 := hcb.c0
    have hc1 := hcb.c1
    have hc2 := hcb.c2
    go_wp2_with fail
    refine (ftext_s HL0 F5 (by omega) hT).mono ?_
    rintro e w6 ⟨rfl, hb⟩
    replace hb0 := bel_trans hb0 hb
    replace HI := HI.ext hb
    clear hb hc0 hc1 hc2 hcb F5
    have HI2 := IEs.lit w6 3 [0, 1, 2] #[.int .i64 0, .int .i64 1, .int .i64 2] rfl
    have hb := below_alloc w6 (.cells #[.int .i64 0, .int .i64 1, .int .i64 2] 3)
    have cI : Calls Tryz.prog 36 #[.slice A7 3 c7, .slice (some ⟨w6.heap.size, 0, none⟩) 3 3] (w6.alloc (.cells #[.int .i64 0, .int .i64 1, .int .i64 2] 3)) (RetB (w6.alloc (.cells #[.int .i64 0, .int .i64 1, .int .i64 2] 3)) true) :=
      bints_any (b := true) A7 (some ⟨w6.heap.size, 0, none⟩) c7 3 [0, 1, 2] [0, 1, 2] _ (HI.ext hb) HI2 (by simp) (by simp) (yes rfl)
    go_wp2_with fail
    refine cI.mono ?_
    rintro e w7 ⟨rfl, hb7⟩
    replace hb0 := bel_trans hb0 (bel_trans hb hb7)
    go_wp2
    go_ret
    exact ⟨by first | rfl | simp, hb0⟩
end Go.Proofs.YthempimelfmipaaGreatDoor

namespace Go.Proofs.YthempimelfmipaaGreatDoor
open Go.RowKit Go.Proofs Go

set_option maxHeartbeats 2000000 in
set_option maxRecDepth 100000 in
theorem coeff_no {ia fa ta ib fb tb : Int} (Aa Ab : Option Addr) (ca cb : Nat) (la lb : List (Int × Int)) (w : World) (HA : Es w Aa la) (HB : Es w Ab lb) (hla : la.length ≤ 9223372036854775807) (hlb : lb.length ≤ 9223372036854775807) (hn : ¬ (HV ia la fa ta ∧ HV ib lb fb tb)) :
    Calls Tryz.prog 13 #[.agg #[.int .i64 ia, .slice Aa la.length ca, .int .i64 fa, .int .i64 ta], .agg #[.int .i64 ib, .slice Ab lb.length cb, .int .i64 fb, .int .i64 tb]] w (RetZE w 1) := by
  by_cases va : HV ia la fa ta
  · have vb : ¬ HV ib lb fb tb := fun h => hn ⟨va, h⟩
    have YA := yes va
    have NB := no vb
    clear va vb hn
    go_enter Tryz.func13, Tryz.ntmps13
    go_wp2_with fail
    have HX := BL.three w #[.int .i64 ia, .slice Aa la.length ca, .int .i64 fa, .int .i64 ta] #[.int .i64 ib, .slice Ab lb.length cb, .int .i64 fb, .int .i64 tb] #[.bool false, .slice none 0 0, .slice none 0 0] 26 26 33
    replace HA := HA.ext HX.below
    replace HB := HB.ext HX.below
    refine (hvalid_any (b := true) Aa ca la _ HA hla YA).mono ?_
    rintro e w2 ⟨rfl, hb⟩
    replace HX := HX.ext hb
    replace HB := HB.ext hb
    clear hb
    have hc10 := HX.cell 1 0 rfl rfl
    have hc11 := HX.cell 1 1 rfl rfl
    have hc12 := HX.cell 1 2 rfl rfl
    have hc13 := HX.cell 1 3 rfl rfl
    try simp only [List.getElem_toArray, List.getElem_cons_zero, List.getElem_cons_succ] at hc10 hc11 hc12 hc13
    go_wp2_with fail
    refine (hvalid_any (b := false) Ab cb lb _ HB hlb NB).mono ?_
    rintro e w3 ⟨rfl, hb⟩
    clear hc10 hc11 hc12 hc13
    replace HX := HX.ext hb
    clear hb
    have hc20 := HX.cell 2 0 rfl rfl
    have hf20 := HX.free 2 0 rfl
    have hc21 := HX.cell 2 1 rfl rfl
    have hf21 := HX.free 2 1 rfl
    have hc22 := HX.cell 2 2 rfl rfl
    have hf22 := HX.free 2 2 rfl
    try simp only [List.getElem_toArray, List.getElem_cons_zero, List.getElem_cons_succ] at hc20 hf20 hc21 hf21 hc22 hf22
    go_wp2
    clear hc20 hf20 hc21 hf21 hc22 hf22
    try (replace HX := HX.put3 2 rfl (by omega) (by intro k q hk hne; match k, hk with | 0, hk => (simp at hk; subst hk; simp at hne ⊢; try omega) | 1, hk => (simp at hk; subst hk; simp at hne ⊢; try omega) | 2, hk => (simp at hk; subst hk; simp at hne ⊢; try omega) | k + 3, hk => simp at hk) (.bool false) (.slice none 0 0) (.slice none 0 0)
         simp only [List.set_cons_zero, List.set_cons_succ] at HX)
    have hc20 := HX.cell 2 0 rfl rfl
    have hc21 := HX.cell 2 1 rfl rfl
    have hc22 := HX.cell 2 2 rfl rfl
    try simp only [List.getElem_toArray, List.getElem_cons_zero, List.getElem_cons_succ] at hc20 hc21 hc22
    exact bodyPost_ret (v := .tuple #[.agg #[.bool false, .slice none 0 0, .slice none 0 0], .int .i64 1]) (by simp [results, Tryz.results13, go_sem, hc20, hc21, hc22]) rfl ⟨rfl, HX.below⟩
  · have NA := no va
    clear va hn
    go_enter Tryz.func13, Tryz.ntmps13
    go_wp2_with fail
    have HX := BL.three w #[.int .i64 ia, .slice Aa la.length ca, .int .i64 fa, .int .i64 ta] #[.int .i64 ib, .slice Ab lb.length cb, .int .i64 fb, .int .i64 tb] #[.bool false, .slice none 0 0, .slice none 0 0] 26 26 33
    replace HA := HA.ext HX.below
    replace HB := HB.ext HX.below
    refine (hvalid_any (b := false) Aa ca la _ HA hla NA).mono ?_
    rintro e w2 ⟨rfl, hb⟩
    replace HX := HX.ext hb
    clear hb
    have hc20 := HX.cell 2 0 rfl rfl
    have hf20 := HX.free 2 0 rfl
    have hc21 := HX.cell 2 1 rfl rfl
    have hf21 := HX.free 2 1 rfl
    have hc22 := HX.cell 2 2 rfl rfl
    have hf22 := HX.free 2 2 rfl
    try simp only [List.getElem_toArray, List.getElem_cons_zero, List.getElem_cons_succ] at hc20 hf20 hc21 hf21 hc22 hf22
    go_wp2
    clear hc20 hf20 hc21 hf21 hc22 hf22
    try (replace HX := HX.put3 2 rfl (by omega) (by intro k q hk hne; match k, hk with | 0, hk => (simp at hk; subst hk; simp at hne ⊢; try omega) | 1, hk => (simp at hk; subst hk; simp at hne ⊢; try omega) | 2, hk => (simp at hk; subst hk; simp at hne ⊢; try omega) | k + 3, hk => simp at hk) (.bool false) (.slice none 0 0) (.slice none 0 0)
         simp only [List.set_cons_zero, List.set_cons_succ] at HX)
    have hc20 := HX.cell 2 0 rfl rfl
    have hc21 := HX.cell 2 1 rfl rfl
    have hc22 := HX.cell 2 2 rfl rfl
    try simp only [List.getElem_toArray, List.getElem_cons_zero, List.getElem_cons_succ] at hc20 hc21 hc22
    exact bodyPost_ret (v := .tuple #[.agg #[.bool false, .slice none 0 0, .slice none 0 0], .int .i64 1]) (by simp [results, Tryz.results13, go_sem, hc20, hc21, hc22]) rfl ⟨rfl, HX.below⟩
set_option maxHeartbeats 2000000 in
set_option maxRecDepth 100000 in
theorem dist_no {ia fa ta ib fb tb : Int} (Aa Ab : Option Addr) (ca cb : Nat) (la lb : List (Int × Int)) (w : World) (HA : Es w Aa la) (HB : Es w Ab lb) (hla : la.length ≤ 9223372036854775807) (hlb : lb.length ≤ 9223372036854775807) (hn : ¬ (HV ia la fa ta ∧ HV ib lb fb tb)) :
    Calls Tryz.prog 29 #[.agg #[.int .i64 ia, .slice Aa la.length ca, .int .i64 fa, .int .i64 ta], .agg #[.int .i64 ib, .slice Ab lb.length cb, .int .i64 fb, .int .i64 tb]] w (RetZE w 1) := by
  have HN := Lib.hid hn
  clear hn
  go_enter Tryz.func29, Tryz.ntmps29
  go_wp2_with fail
  have HX := BL.three w #[.int .i64 ia, .slice Aa la.length ca, .int .i64 fa, .int .i64 ta] #[.int .i64 ib, .slice Ab lb.length cb, .int .i64 fb, .int .i64 tb] #[.bool false, .slice none 0 0, .slice none 0 0] 26 26 33
  replace HA := HA.ext HX.below
  replace HB := HB.ext HX.below
  refine (coeff_no Aa Ab ca cb la lb _ HA HB hla hlb HN.out).mono ?_
  rintro e w3 ⟨rfl, hb⟩
  clear HA HB
  replace HX := HX.ext hb
  clear hb
  go_upto_region 2 with fail
  have hl0 := HX.lt 0 rfl
  have hl1 := HX.lt 1 rfl
  have hl2 := HX.lt 2 rfl
  simp only [] at hl0 hl1 hl2
  replace HX := HX.new #[.bool false, .slice none 0 0, .slice none 0 0] 33
  simp only [List.cons_append, List.nil_append] at HX
  generalize w3.alloc (.cells #[.bool false, .slice none 0 0, .slice none 0 0] 33) = V3 at *
  generalize w3.heap.size = g3 at *
  have hc20 := HX.cell 2 0 rfl rfl
  have hf20 := HX.free 2 0 rfl
  have hc21 := HX.cell 2 1 rfl rfl
  have hf21 := HX.free 2 1 rfl
  have hc22 := HX.cell 2 2 rfl rfl
  have hf22 := HX.free 2 2 rfl
  try simp only [List.getElem_toArray, List.getElem_cons_zero, List.getElem_cons_succ] at hc20 hf20 hc21 hf21 hc22 hf22
  go_wp2
  clear hc20 hf20 hc21 hf21 hc22 hf22
  replace HX := HX.put3 2 rfl (by omega) (by intro k q hk hne; match k, hk with | 0, hk => (simp at hk; subst hk; simp at hne ⊢; try omega) | 1, hk => (simp at hk; subst hk; simp at hne ⊢; try omega) | 2, hk => (simp at hk; subst hk; simp at hne ⊢; try omega) | 3, hk => (simp at hk; subst hk; simp at hne ⊢; try omega) | k + 4, hk => simp at hk) (.bool false) (.slice none 0 0) (.slice none 0 0)
  simp only [List.set_cons_zero, List.set_cons_succ] at HX
  have hc20 := HX.cell 2 0 rfl rfl
  have hc21 := HX.cell 2 1 rfl rfl
  have hc22 := HX.cell 2 2 rfl rfl
  try simp only [List.getElem_toArray, List.getElem_cons_zero, List.getElem_cons_succ] at hc20 hc21 hc22
  exact bodyPost_ret (v := .tuple #[.agg #[.bool false, .slice none 0 0, .slice none 0 0], .int .i64 1]) (by simp [results, Tryz.results29, go_sem, hc20, hc21, hc22]) rfl ⟨rfl, HX.below⟩
/-- some fraction and an error -/
def RetAE (w : World) (E : Int) (e : Ending) (w' : World) : Prop := ∃ s A n c B m d, e = .returned (.tuple #[.agg #[.bool s, .slice A n c, .slice B m d], .int .i64 E]) ∧ Below w.heap.size w w'
/-- the error of two hoards -/
def E2 (va vb : Prop) (E : Int) : Prop := (va ∧ vb ∧ E = 0) ∨ (¬ (va ∧ vb) ∧ E = 1)
theorem E2.ex (va vb : Prop) : ∃ E, E2 va vb E := by
  by_cases h : va ∧ vb
  · exact ⟨0, .inl ⟨h.1, h.2, rfl⟩⟩
  · exact ⟨1, .inr ⟨h, rfl⟩⟩
theorem dist_all {ia fa ta ib fb tb : Int} (Aa Ab : Option Addr) (ca cb : Nat) (la lb : List (Int × Int)) (w : World) (HA : Es w Aa la) (HB : Es w Ab lb) (hla : la.length ≤ 9223372036854775807) (hlb : lb.length ≤ 9223372036854775807) {E : Int} (hE : Hid (E2 (HV ia la fa ta) (HV ib lb fb tb) E)) :
    Calls Tryz.prog 29 #[.agg #[.int .i64 ia, .slice Aa la.length ca, .int .i64 fa, .int .i64 ta], .agg #[.int .i64 ib, .slice Ab lb.length cb, .int .i64 fb, .int .i64 tb]] w (RetAE w E) := by
  rcases hE.out with ⟨va, vb, rfl⟩ | ⟨hn, rfl⟩
  · refine (dist_any Aa Ab ca cb la lb w HA HB hla hlb va vb (Lib.hid rfl)).mono ?_
    rintro e w' ⟨A5, c5, B5, d5, rfl, F5, hb⟩
    exact ⟨_, _, _, _, _, _, _, rfl, hb⟩
  · refine (dist_no Aa Ab ca cb la lb w HA HB hla hlb hn).mono ?_
    rintro e w' ⟨rfl, hb⟩
    exact ⟨_, _, _, _, _, _, _, rfl, hb⟩
end Go.Proofs.YthempimelfmipaaGreatDoor
