/- The mean distance from the median. -/
import Derived.Test.YteleohgalknkiaaGreatDoorSortIM
import Derived.Test.YteleohgalknkiaaGreatDoorWQM
import Derived.Test.YteleohgalknkiaaGreatDoorHops
import Derived.Test.YteleohgalknkiaaGreatDoorQMath
import Derived.Test.YteleohgalknkiaaGreatDoorFrac5
import Derived.Test.YteleohgalknkiaaGreatDoorHoist
import Derived.Laws.AppendOwn
namespace Go.Proofs.YteleohgalknkiaaGreatDoor
open Go.RowKit Go.Proofs Go

theorem IEs.stay {w w' : World} {A : Option Addr} {l : List Int} (h : IEs w A l) (k : Keep w w') : IEs w' A l := fun h0 => by
  obtain ⟨ad, h1, h2, h3⟩ := h h0
  exact ⟨ad, h1, Nat.lt_of_lt_of_le h2 k.size, fun i x hx => k.ints _ _ _ (h3 i x hx)⟩
theorem fof_q {w : World} {u : Rat} {v : Value} {x y : Int} (hy : 0 < y) (hu : Hid (quo x y = u)) (hx1 : -1000000000 < x) (hx2 : x < 1000000000) (hy2 : y < 1000000000) (hv : v = .int .i64 x) : Calls Tryz.prog 24 #[v, .int .i64 y] w (RetG w u 1) := by
  subst hv
  exact fof_h (Lib.hid ((of_quo x hy).trans hu.out)) (hu.out ▸ quo_sz1 hx1 hx2 hy hy2) (by omega) (by omega) (by omega) (by omega)
theorem qof_q {w : World} {u : Rat} {v : Value} {x y : Int} (hy : 0 < y) (hu : Hid (quo x y = u)) (hx1 : -1000000000 < x) (hx2 : x < 1000000000) (hy2 : y < 1000000000) (hv : v = .int .i64 x) : Calls Tryz.prog 41 #[v, .int .i64 y] w (RetG w u 1) := by
  subst hv
  exact qof_h (Lib.hid ((of_quo x hy).trans hu.out)) (hu.out ▸ quo_sz1 hx1 hx2 hy hy2) (by omega) (by omega) (by omega) (by omega)
set_option maxRecDepth 100000 in
theorem wmedian_err {E : Int} (A : Option Addr) (c : Nat) (l : List Int) (w : World) (H : IEs w A l) (HL : l.length ≤ 9223372036854775807) (hE : Hid (someE l = E)) (hn : (E != 0) = true) :
    Calls Tryz.prog 37 #[.slice A l.length c] w (RetZE w E) := by
  go_enter Tryz.func37, Tryz.ntmps37
  go_wp2_with fail
  have HX := BL.one w #[.bool false, .slice none 0 0, .slice none 0 0] 37
  replace H := H.ext HX.below
  refine (wsome_any A c l _ H HL hE).mono ?_
  rintro e u2 ⟨rfl, hb⟩
  replace HX := HX.ext hb
  replace H := H.ext hb
  clear hb
  have hc00 := HX.cell 0 0 rfl rfl
  have hf00 := HX.free 0 0 rfl
  have hc01 := HX.cell 0 1 rfl rfl
  have hf01 := HX.free 0 1 rfl
  have hc02 := HX.cell 0 2 rfl rfl
  have hf02 := HX.free 0 2 rfl
  try simp only [List.getElem_toArray, List.getElem_cons_zero, List.getElem_cons_succ] at hc00 hf00 hc01 hf01 hc02 hf02
  go_wp2
  clear hc00 hf00 hc01 hf01 hc02 hf02
  replace HX := HX.put3 0 rfl (by omega) (by intro k q hk hne; match k, hk with | 0, hk => (simp at hk; subst hk; simp at hne ⊢; try omega) | k + 1, hk => simp at hk) (.bool false) (.slice none 0 0) (.slice none 0 0)
  simp only [List.set_cons_zero] at HX
  have hc00 := HX.cell 0 0 rfl rfl
  have hc01 := HX.cell 0 1 rfl rfl
  have hc02 := HX.cell 0 2 rfl rfl
  try simp only [List.getElem_toArray, List.getElem_cons_zero, List.getElem_cons_succ] at hc00 hc01 hc02
  exact bodyPost_ret (v := .tuple #[.agg #[.bool false, .slice none 0 0, .slice none 0 0], .int .i64 E]) (by simp [results, Tryz.results37, go_sem, hc00, hc01, hc02]) rfl ⟨rfl, HX.below⟩
set_option maxHeartbeats 4000000 in
set_option maxRecDepth 100000 in
theorem wmedian_go {u : Rat} (A : Option Addr) (c : Nat) (l : List Int) (w : World) (H : IEs w A l) (hE : Hid (someE l = 0)) (hu : Hid (quo (twi l) 2 = u)) :
    Calls Tryz.prog 37 #[.slice A l.length c] w (RetGE w u 1) := by
  obtain ⟨h64, hV, h0⟩ := someE_zero.1 hE.out
  have HL : l.length ≤ 9223372036854775807 := by omega
  have HL2 : l.length ≤ 1000000 := by omega
  have hbt := twi_bd hV h0
  have hsl := Lib.hid (srt_len l)
  obtain ⟨k1, hk1⟩ : ∃ k, (l.length - 1) / 2 = k := ⟨_, rfl⟩
  obtain ⟨k2, hk2⟩ : ∃ k, l.length / 2 = k := ⟨_, rfl⟩
  have hx1 := Lib.hid (at0_get (s := srt l) (i := k1) (by rw [srt_len]; omega))
  have hx2 := Lib.hid (at0_get (s := srt l) (i := k2) (by rw [srt_len]; omega))
  have ht : Hid (twi l = at0 (srt l) k1 + at0 (srt l) k2) := Lib.hid (by rw [twi, hk1, hk2])
  have hd1 := hV.srt _ (at0_mem (s := srt l) (i := k1) (by rw [srt_len]; omega))
  have hd2 := hV.srt _ (at0_mem (s := srt l) (i := k2) (by rw [srt_len]; omega))
  rw [ht.out] at hbt hu
  have q1 : ((l.length : Int) - 1).tdiv 2 = (k1 : Int) := by rw [Int.tdiv_eq_ediv_of_nonneg (by omega)]; omega
  have q2 : (l.length : Int).tdiv 2 = (k2 : Int) := by rw [Int.tdiv_eq_ediv_of_nonneg (by omega)]; omega
  have q3 : ((l.length : Int) - 1) / 2 = (k1 : Int) := by omega
  have q4 : (l.length : Int) / 2 = (k2 : Int) := by omega
  have q5 : (0 : Int) ≤ (k1 : Int) := by omega
  have q6 : (k1 : Int) < (l.length : Int) := by omega
  have q7 : (0 : Int) ≤ (k2 : Int) := by omega
  have q8 : (k2 : Int) < (l.length : Int) := by omega
  have w1 : IntKind.i64.wrap ((l.length : Int) - 1) = (l.length : Int) - 1 := Go.IntWalk.i64_in _ (by omega)
  have w2 : IntKind.i64.wrap (k1 : Int) = (k1 : Int) := Go.IntWalk.i64_in _ (by omega)
  have w3 : IntKind.i64.wrap (k2 : Int) = (k2 : Int) := Go.IntWalk.i64_in _ (by omega)
  have w4 : IntKind.i64.wrap (at0 (srt l) k1 + at0 (srt l) k2) = at0 (srt l) k1 + at0 (srt l) k2 := Go.IntWalk.i64_in _ (by omega)
  clear hV ht hk1 hk2
  go_enter Tryz.func37, Tryz.ntmps37
  go_wp2_with fail
  have HX := BL.one w #[.bool false, .slice none 0 0, .slice none 0 0] 37
  replace H := H.ext HX.below
  refine (wsome_any A c l _ H HL hE).mono ?_
  rintro e u2 ⟨rfl, hb⟩
  replace HX := HX.ext hb
  replace H := H.ext hb
  clear hb
  go_wp2_with fail
  refine (values_h A l.length c _).mono ?_
  rintro e u3 ⟨rfl, rfl⟩
  have hb3 := below_alloc u2 (.cells #[.slice A l.length c] 46)
  replace HX := HX.ext hb3
  replace H := H.ext hb3
  clear hb3
  go_wp2_with fail
  refine (sorted_h _ (al_new rfl _ _) H HL2).mono ?_
  rintro e u4 ⟨A4, c4, rfl, HS, hcap, hb4⟩
  replace HX := HX.ext hb4
  clear hb4 H
  obtain ⟨ad, rfl, hblk, _⟩ := HS (by rw [hsl.out]; exact h0)
  rw [hsl.out]
  clear hblk hsl
  generalize srt l = s at *
  generalize at0 s k1 = x at *
  generalize at0 s k2 = y at *
  have held : ∀ {W' : World}, IEs W' (some ad) s → W'.cell? (ad.add k1) = some (.int .i64 x) ∧ W'.cell? (ad.add k2) = some (.int .i64 y) := fun h => by
    obtain ⟨ad1, e1, _, r1⟩ := h.at_ hx1.out
    obtain rfl := Option.some.inj e1
    obtain ⟨ad2, e2, _, r2⟩ := h.at_ hx2.out
    obtain rfl := Option.some.inj e2
    exact ⟨r1, r2⟩
  clear hx1 hx2
  go_upto_region 6 with fail
  replace HX := HX.ext (drew_ext _)
  replace HS := HS.ext (drew_ext _)
  go_region_held3 (fun W' => W'.cell? (ad.add k1) = some (.int .i64 x) ∧ W'.cell? (ad.add k2) = some (.int .i64 y))
    (first | exact held HS | exact held (HS.stay (HX.keep3 0 rfl rfl rfl rfl (by omega) _ _ _)))
    (first
      | (go_at_call 24; refine (fof_q (by decide) hu (by omega) (by omega) (by decide) (by with_reducible rfl)).mono ?_; rintro e w5 ⟨A5, c5, B5, d5, rfl, F5, hb⟩; replace HX := HX.ext hb; replace HS := HS.ext hb; clear hb; have hc00 := HX.cell 0 0 rfl rfl; have hf00 := HX.free 0 0 rfl; have hc01 := HX.cell 0 1 rfl rfl; have hf01 := HX.free 0 1 rfl; have hc02 := HX.cell 0 2 rfl rfl; have hf02 := HX.free 0 2 rfl; (try simp only [List.getElem_toArray, List.getElem_cons_zero, List.getElem_cons_succ] at hc00 hf00 hc01 hf01 hc02 hf02)))
  all_goals (
    clear held hc00 hc01 hc02 hf00 hf01 hf02 HS
    have hk := HX.keep3 0 rfl rfl rfl rfl (by omega) (.bool (sg u)) (.slice A5 (dig (nu u)).length c5) (.slice B5 (dig u.den).length d5)
    replace HX := HX.put3 0 rfl (by omega) (by intro k q hk hne; match k, hk with | 0, hk => (simp at hk; subst hk; simp at hne ⊢; try omega) | k + 1, hk => simp at hk) (.bool (sg u)) (.slice A5 (dig (nu u)).length c5) (.slice B5 (dig u.den).length d5)
    replace F5 := F5.stay hk
    clear hk
    simp only [List.set_cons_zero] at HX
    have hc00 := HX.cell 0 0 rfl rfl
    have hc01 := HX.cell 0 1 rfl rfl
    have hc02 := HX.cell 0 2 rfl rfl
    try simp only [List.getElem_toArray, List.getElem_cons_zero, List.getElem_cons_succ] at hc00 hc01 hc02
    go_wp2
    exact bodyPost_ret (v := .tuple #[.agg #[.bool (sg u), .slice A5 (dig (nu u)).length c5, .slice B5 (dig u.den).length d5], .int .i64 0]) (by simp [results, Tryz.results37, go_sem, hc00, hc01, hc02]) rfl ⟨A5, c5, B5, d5, rfl, F5, HX.below⟩)
set_option maxRecDepth 100000 in
theorem rmedian_err {E : Int} (A : Option Addr) (c : Nat) (l : List Int) (w : World) (H : IEs w A l) (HL : l.length ≤ 9223372036854775807) (hE : Hid (someE l = E)) (hn : (E != 0) = true) :
    Calls Tryz.prog 38 #[.slice A l.length c] w (RetZE w E) := by
  go_enter Tryz.func38, Tryz.ntmps38
  go_wp2_with fail
  have HX := BL.one w #[.bool false, .slice none 0 0, .slice none 0 0] 37
  replace H := H.ext HX.below
  refine (rsome_any A c l _ H HL hE).mono ?_
  rintro e u2 ⟨rfl, hb⟩
  replace HX := HX.ext hb
  replace H := H.ext hb
  clear hb
  have hc00 := HX.cell 0 0 rfl rfl
  have hf00 := HX.free 0 0 rfl
  have hc01 := HX.cell 0 1 rfl rfl
  have hf01 := HX.free 0 1 rfl
  have hc02 := HX.cell 0 2 rfl rfl
  have hf02 := HX.free 0 2 rfl
  try simp only [List.getElem_toArray, List.getElem_cons_zero, List.getElem_cons_succ] at hc00 hf00 hc01 hf01 hc02 hf02
  go_wp2
  clear hc00 hf00 hc01 hf01 hc02 hf02
  replace HX := HX.put3 0 rfl (by omega) (by intro k q hk hne; match k, hk with | 0, hk => (simp at hk; subst hk; simp at hne ⊢; try omega) | k + 1, hk => simp at hk) (.bool false) (.slice none 0 0) (.slice none 0 0)
  simp only [List.set_cons_zero] at HX
  have hc00 := HX.cell 0 0 rfl rfl
  have hc01 := HX.cell 0 1 rfl rfl
  have hc02 := HX.cell 0 2 rfl rfl
  try simp only [List.getElem_toArray, List.getElem_cons_zero, List.getElem_cons_succ] at hc00 hc01 hc02
  exact bodyPost_ret (v := .tuple #[.agg #[.bool false, .slice none 0 0, .slice none 0 0], .int .i64 E]) (by simp [results, Tryz.results38, go_sem, hc00, hc01, hc02]) rfl ⟨rfl, HX.below⟩
set_option maxHeartbeats 4000000 in
set_option maxRecDepth 100000 in
theorem rmedian_go {u : Rat} (A : Option Addr) (c : Nat) (l : List Int) (w : World) (H : IEs w A l) (hE : Hid (someE l = 0)) (hu : Hid (quo (twi l) 2 = u)) :
    Calls Tryz.prog 38 #[.slice A l.length c] w (RetGE w u 1) := by
  obtain ⟨h64, hV, h0⟩ := someE_zero.1 hE.out
  have HL : l.length ≤ 9223372036854775807 := by omega
  have HL2 : l.length ≤ 1000000 := by omega
  have hbt := twi_bd hV h0
  have hsl := Lib.hid (srt_len l)
  obtain ⟨k1, hk1⟩ : ∃ k, (l.length - 1) / 2 = k := ⟨_, rfl⟩
  obtain ⟨k2, hk2⟩ : ∃ k, l.length / 2 = k := ⟨_, rfl⟩
  have hx1 := Lib.hid (at0_get (s := srt l) (i := k1) (by rw [srt_len]; omega))
  have hx2 := Lib.hid (at0_get (s := srt l) (i := k2) (by rw [srt_len]; omega))
  have ht : Hid (twi l = at0 (srt l) k1 + at0 (srt l) k2) := Lib.hid (by rw [twi, hk1, hk2])
  have hd1 := hV.srt _ (at0_mem (s := srt l) (i := k1) (by rw [srt_len]; omega))
  have hd2 := hV.srt _ (at0_mem (s := srt l) (i := k2) (by rw [srt_len]; omega))
  rw [ht.out] at hbt hu
  have q1 : ((l.length : Int) - 1).tdiv 2 = (k1 : Int) := by rw [Int.tdiv_eq_ediv_of_nonneg (by omega)]; omega
  have q2 : (l.length : Int).tdiv 2 = (k2 : Int) := by rw [Int.tdiv_eq_ediv_of_nonneg (by omega)]; omega
  have q3 : ((l.length : Int) - 1) / 2 = (k1 : Int) := by omega
  have q4 : (l.length : Int) / 2 = (k2 : Int) := by omega
  have q5 : (0 : Int) ≤ (k1 : Int) := by omega
  have q6 : (k1 : Int) < (l.length : Int) := by omega
  have q7 : (0 : Int) ≤ (k2 : Int) := by omega
  have q8 : (k2 : Int) < (l.length : Int) := by omega
  have w1 : IntKind.i64.wrap ((l.length : Int) - 1) = (l.length : Int) - 1 := Go.IntWalk.i64_in _ (by omega)
  have w2 : IntKind.i64.wrap (k1 : Int) = (k1 : Int) := Go.IntWalk.i64_in _ (by omega)
  have w3 : IntKind.i64.wrap (k2 : Int) = (k2 : Int) := Go.IntWalk.i64_in _ (by omega)
  have w4 : IntKind.i64.wrap (at0 (srt l) k1 + at0 (srt l) k2) = at0 (srt l) k1 + at0 (srt l) k2 := Go.IntWalk.i64_in _ (by omega)
  clear hV ht hk1 hk2
  go_enter Tryz.func38, Tryz.ntmps38
  go_wp2_with fail
  have HX := BL.one w #[.bool false, .slice none 0 0, .slice none 0 0] 37
  replace H := H.ext HX.below
  refine (rsome_any A c l _ H HL hE).mono ?_
  rintro e u2 ⟨rfl, hb⟩
  replace HX := HX.ext hb
  replace H := H.ext hb
  clear hb
  go_wp2_with fail
  refine (rsorted_any A c l _ H HL2).mono ?_
  rintro e u4 ⟨A4, c4, rfl, HS, hcap, hb4⟩
  replace HX := HX.ext hb4
  clear hb4 H
  obtain ⟨ad, rfl, hblk, _⟩ := HS (by rw [hsl.out]; exact h0)
  rw [hsl.out]
  clear hblk hsl
  generalize srt l = s at *
  generalize at0 s k1 = x at *
  generalize at0 s k2 = y at *
  have held : ∀ {W' : World}, IEs W' (some ad) s → W'.cell? (ad.add k1) = some (.int .i64 x) ∧ W'.cell? (ad.add k2) = some (.int .i64 y) := fun h => by
    obtain ⟨ad1, e1, _, r1⟩ := h.at_ hx1.out
    obtain rfl := Option.some.inj e1
    obtain ⟨ad2, e2, _, r2⟩ := h.at_ hx2.out
    obtain rfl := Option.some.inj e2
    exact ⟨r1, r2⟩
  clear hx1 hx2
  go_upto_region 5 with fail
  replace HX := HX.ext (drew_ext _)
  replace HS := HS.ext (drew_ext _)
  go_region_held3 (fun W' => W'.cell? (ad.add k1) = some (.int .i64 x) ∧ W'.cell? (ad.add k2) = some (.int .i64 y))
    (first | exact held HS | exact held (HS.stay (HX.keep3 0 rfl rfl rfl rfl (by omega) _ _ _)))
    (first
      | (go_at_call 41; refine (qof_q (by decide) hu (by omega) (by omega) (by decide) (by with_reducible rfl)).mono ?_; rintro e w5 ⟨A5, c5, B5, d5, rfl, F5, hb⟩; replace HX := HX.ext hb; replace HS := HS.ext hb; clear hb; have hc00 := HX.cell 0 0 rfl rfl; have hf00 := HX.free 0 0 rfl; have hc01 := HX.cell 0 1 rfl rfl; have hf01 := HX.free 0 1 rfl; have hc02 := HX.cell 0 2 rfl rfl; have hf02 := HX.free 0 2 rfl; (try simp only [List.getElem_toArray, List.getElem_cons_zero, List.getElem_cons_succ] at hc00 hf00 hc01 hf01 hc02 hf02)))
  all_goals (
    clear held hc00 hc01 hc02 hf00 hf01 hf02 HS
    have hk := HX.keep3 0 rfl rfl rfl rfl (by omega) (.bool (sg u)) (.slice A5 (dig (nu u)).length c5) (.slice B5 (dig u.den).length d5)
    replace HX := HX.put3 0 rfl (by omega) (by intro k q hk hne; match k, hk with | 0, hk => (simp at hk; subst hk; simp at hne ⊢; try omega) | k + 1, hk => simp at hk) (.bool (sg u)) (.slice A5 (dig (nu u)).length c5) (.slice B5 (dig u.den).length d5)
    replace F5 := F5.stay hk
    clear hk
    simp only [List.set_cons_zero] at HX
    have hc00 := HX.cell 0 0 rfl rfl
    have hc01 := HX.cell 0 1 rfl rfl
    have hc02 := HX.cell 0 2 rfl rfl
    try simp only [List.getElem_toArray, List.getElem_cons_zero, List.getElem_cons_succ] at hc00 hc01 hc02
    go_wp2
    exact bodyPost_ret (v := .tuple #[.agg #[.bool (sg u), .slice A5 (dig (nu u)).length c5, .slice B5 (dig u.den).length d5], .int .i64 0]) (by simp [results, Tryz.results38, go_sem, hc00, hc01, hc02]) rfl ⟨A5, c5, B5, d5, rfl, F5, HX.below⟩)
end Go.Proofs.YteleohgalknkiaaGreatDoor

namespace Go.Proofs.YteleohgalknkiaaGreatDoor
open Go.RowKit Go.Proofs Go

theorem sum_one {l : List Int} {j : Nat} (hj : j < l.length) : (l.take (j + 1)).sum = (l.take j).sum + at0 l j := by
  rw [take_one hj, List.sum_append]; simp
theorem sum_bd {l : List Int} (h : WV l) : ∀ j : Nat, j ≤ l.length → 0 ≤ (l.take j).sum ∧ (l.take j).sum ≤ 200000 * j
  | 0, _ => by simp
  | j + 1, hj => by
    have ih := sum_bd h j (by omega)
    have h2 := h _ (at0_mem (s := l) (i := j) hj)
    rw [sum_one hj]; omega
theorem sumM_one {l : List Int} {j : Nat} (hj : j < l.length) (t : Int) : sumM (l.take (j + 1)) t = sumM (l.take j) t + mg (at0 l j) t := by
  rw [take_one hj, sumM_snoc]
theorem sumM_take_bd {l : List Int} (h : WV l) {t : Int} (ht : 2 ≤ t ∧ t ≤ 400000) (j : Nat) (hj : j ≤ 64) : 0 ≤ sumM (l.take j) t ∧ sumM (l.take j) t ≤ 320000000 := by
  have h1 := sumM_bd (t := t) (by omega) (h.take j)
  have h2 : (l.take j).length ≤ 64 := by rw [List.length_take]; omega
  omega
set_option maxRecDepth 100000 in
theorem wmean_err {E : Int} (A : Option Addr) (c : Nat) (l : List Int) (w : World) (H : IEs w A l) (HL : l.length ≤ 9223372036854775807) (hE : Hid (someE l = E)) (hn : (E != 0) = true) :
    Calls Tryz.prog 46 #[.slice A l.length c] w (RetZE w E) := by
  go_enter Tryz.func46, Tryz.ntmps46
  go_wp2_with fail
  have HX := BL.one w #[.bool false, .slice none 0 0, .slice none 0 0] 37
  replace H := H.ext HX.below
  refine (wsome_any A c l _ H HL hE).mono ?_
  rintro e u2 ⟨rfl, hb⟩
  replace HX := HX.ext hb
  replace H := H.ext hb
  clear hb
  have hc00 := HX.cell 0 0 rfl rfl
  have hf00 := HX.free 0 0 rfl
  have hc01 := HX.cell 0 1 rfl rfl
  have hf01 := HX.free 0 1 rfl
  have hc02 := HX.cell 0 2 rfl rfl
  have hf02 := HX.free 0 2 rfl
  try simp only [List.getElem_toArray, List.getElem_cons_zero, List.getElem_cons_succ] at hc00 hf00 hc01 hf01 hc02 hf02
  go_wp2
  clear hc00 hf00 hc01 hf01 hc02 hf02
  replace HX := HX.put3 0 rfl (by omega) (by intro k q hk hne; match k, hk with | 0, hk => (simp at hk; subst hk; simp at hne ⊢; try omega) | k + 1, hk => simp at hk) (.bool false) (.slice none 0 0) (.slice none 0 0)
  simp only [List.set_cons_zero] at HX
  have hc00 := HX.cell 0 0 rfl rfl
  have hc01 := HX.cell 0 1 rfl rfl
  have hc02 := HX.cell 0 2 rfl rfl
  try simp only [List.getElem_toArray, List.getElem_cons_zero, List.getElem_cons_succ] at hc00 hc01 hc02
  exact bodyPost_ret (v := .tuple #[.agg #[.bool false, .slice none 0 0, .slice none 0 0], .int .i64 E]) (by simp [results, Tryz.results46, go_sem, hc00, hc01, hc02]) rfl ⟨rfl, HX.below⟩
set_option maxHeartbeats 2000000 in
set_option maxRecDepth 100000 in
theorem wmean_go {u : Rat} (A : Option Addr) (c : Nat) (l : List Int) (w : World) (H : IEs w A l) (hE : Hid (someE l = 0)) (hu : Hid (quo l.sum (l.length : Int) = u)) :
    Calls Tryz.prog 46 #[.slice A l.length c] w (RetGE w u 1) := by
  have hV := Lib.hid (someE_zero.1 hE.out)
  have h64 := hV.out.1
  have hpos := hV.out.2.2
  have HL : l.length ≤ 9223372036854775807 := by omega
  go_enter Tryz.func46, Tryz.ntmps46
  go_wp2_with fail
  have HX := BL.one w #[.bool false, .slice none 0 0, .slice none 0 0] 37
  replace H := H.ext HX.below
  refine (wsome_any A c l _ H HL hE).mono ?_
  rintro e u2 ⟨rfl, hb⟩
  replace HX := HX.ext hb
  replace H := H.ext hb
  clear hb
  have hlt0 := HX.lt 0 rfl
  simp only [] at hlt0
  go_wp2
  go_loopg [5, 16] l.length (fun g n i wr => ∃ j : Nat, j + g = l.length ∧ n = .int .i64 (l.take j).sum ∧ i = .int .i64 (j : Int) ∧ Below u2.heap.size u2 wr)
  case atStart => exact ⟨0, by omega, rfl, rfl, Below.refl _ _⟩
  case round =>
    obtain ⟨j, hj, rfl, rfl, hbw⟩ := hrel
    have hsb := sum_bd hV.out.2.1 j (by omega)
    by_cases hj0 : j < l.length
    · obtain ⟨ad, rfl, hbk, c0⟩ := (H.ext hbw).at_ (at0_get hj0)
      have hsu := Lib.hid (sum_one hj0)
      have hz := hV.out.2.1 _ (at0_mem hj0)
      generalize (l.take j).sum = n at *
      generalize at0 l j = x at *
      obtain ⟨s1, s2⟩ := hsb
      obtain ⟨z1, z2⟩ := hz
      go_wp2
      go_roundg (l.length - (j + 1))
      case measure => omega
      case rel => exact ⟨j + 1, by omega, by rw [hsu.out], by go_num, hbw⟩
    · have hjl : l.take j = l := List.take_of_length_le (by omega)
      rw [hjl] at hsb ⊢
      generalize l.sum = n at *
      obtain ⟨s1, s2⟩ := hsb
      replace HX := HX.ext hbw
      go_wp2_with fail
      refine (fof_q (y := (l.length : Int)) (by omega) hu (by omega) (by omega) (by omega) rfl).mono ?_
      rintro e u5 ⟨A5, c5, B5, d5, rfl, F5, hb⟩
      replace HX := HX.ext hb
      clear hb
      have hc00 := HX.cell 0 0 rfl rfl
      have hf00 := HX.free 0 0 rfl
      have hc01 := HX.cell 0 1 rfl rfl
      have hf01 := HX.free 0 1 rfl
      have hc02 := HX.cell 0 2 rfl rfl
      have hf02 := HX.free 0 2 rfl
      try simp only [List.getElem_toArray, List.getElem_cons_zero, List.getElem_cons_succ] at hc00 hf00 hc01 hf01 hc02 hf02
      go_wp2
      clear hc00 hf00 hc01 hf01 hc02 hf02
      have hk := HX.keep3 0 rfl rfl rfl rfl (by omega) (.bool (sg u)) (.slice A5 (dig (nu u)).length c5) (.slice B5 (dig u.den).length d5)
      replace HX := HX.put3 0 rfl (by omega) (by intro k q hk hne; match k, hk with | 0, hk => (simp at hk; subst hk; simp at hne ⊢; try omega) | k + 1, hk => simp at hk) (.bool (sg u)) (.slice A5 (dig (nu u)).length c5) (.slice B5 (dig u.den).length d5)
      replace F5 := F5.stay hk
      clear hk
      simp only [List.set_cons_zero] at HX
      have hc00 := HX.cell 0 0 rfl rfl
      have hc01 := HX.cell 0 1 rfl rfl
      have hc02 := HX.cell 0 2 rfl rfl
      try simp only [List.getElem_toArray, List.getElem_cons_zero, List.getElem_cons_succ] at hc00 hc01 hc02
      exact bodyPost_ret (v := .tuple #[.agg #[.bool (sg u), .slice A5 (dig (nu u)).length c5, .slice B5 (dig u.den).length d5], .int .i64 0]) (by simp [results, Tryz.results46, go_sem, hc00, hc01, hc02]) rfl ⟨A5, c5, B5, d5, rfl, F5, HX.below⟩
set_option maxRecDepth 100000 in
theorem rmean_err {E : Int} (A : Option Addr) (c : Nat) (l : List Int) (w : World) (H : IEs w A l) (HL : l.length ≤ 9223372036854775807) (hE : Hid (someE l = E)) (hn : (E != 0) = true) :
    Calls Tryz.prog 47 #[.slice A l.length c] w (RetZE w E) := by
  go_enter Tryz.func47, Tryz.ntmps47
  go_wp2_with fail
  have HX := BL.one w #[.bool false, .slice none 0 0, .slice none 0 0] 37
  replace H := H.ext HX.below
  refine (rsome_any A c l _ H HL hE).mono ?_
  rintro e u2 ⟨rfl, hb⟩
  replace HX := HX.ext hb
  replace H := H.ext hb
  clear hb
  have hc00 := HX.cell 0 0 rfl rfl
  have hf00 := HX.free 0 0 rfl
  have hc01 := HX.cell 0 1 rfl rfl
  have hf01 := HX.free 0 1 rfl
  have hc02 := HX.cell 0 2 rfl rfl
  have hf02 := HX.free 0 2 rfl
  try simp only [List.getElem_toArray, List.getElem_cons_zero, List.getElem_cons_succ] at hc00 hf00 hc01 hf01 hc02 hf02
  go_wp2
  clear hc00 hf00 hc01 hf01 hc02 hf02
  replace HX := HX.put3 0 rfl (by omega) (by intro k q hk hne; match k, hk with | 0, hk => (simp at hk; subst hk; simp at hne ⊢; try omega) | k + 1, hk => simp at hk) (.bool false) (.slice none 0 0) (.slice none 0 0)
  simp only [List.set_cons_zero] at HX
  have hc00 := HX.cell 0 0 rfl rfl
  have hc01 := HX.cell 0 1 rfl rfl
  have hc02 := HX.cell 0 2 rfl rfl
  try simp only [List.getElem_toArray, List.getElem_cons_zero, List.getElem_cons_succ] at hc00 hc01 hc02
  exact bodyPost_ret (v := .tuple #[.agg #[.bool false, .slice none 0 0, .slice none 0 0], .int .i64 E]) (by simp [results, Tryz.results47, go_sem, hc00, hc01, hc02]) rfl ⟨rfl, HX.below⟩
set_option maxHeartbeats 2000000 in
set_option maxRecDepth 100000 in
theorem rmean_go {u : Rat} (A : Option Addr) (c : Nat) (l : List Int) (w : World) (H : IEs w A l) (hE : Hid (someE l = 0)) (hu : Hid (quo l.sum (l.length : Int) = u)) :
    Calls Tryz.prog 47 #[.slice A l.length c] w (RetGE w u 1) := by
  have hV := Lib.hid (someE_zero.1 hE.out)
  have h64 := hV.out.1
  have hpos := hV.out.2.2
  have HL : l.length ≤ 9223372036854775807 := by omega
  go_enter Tryz.func47, Tryz.ntmps47
  go_wp2_with fail
  have HX := BL.one w #[.bool false, .slice none 0 0, .slice none 0 0] 37
  replace H := H.ext HX.below
  refine (rsome_any A c l _ H HL hE).mono ?_
  rintro e u2 ⟨rfl, hb⟩
  replace HX := HX.ext hb
  replace H := H.ext hb
  clear hb
  have hlt0 := HX.lt 0 rfl
  simp only [] at hlt0
  go_wp2
  go_loopg [5, 6] l.length (fun g n i wr => ∃ j : Nat, j + g = l.length ∧ n = .int .i64 (l.take j).sum ∧ i = .int .i64 (j : Int) ∧ Below u2.heap.size u2 wr)
  case atStart => exact ⟨0, by omega, rfl, rfl, Below.refl _ _⟩
  case round =>
    obtain ⟨j, hj, rfl, rfl, hbw⟩ := hrel
    have hsb := sum_bd hV.out.2.1 j (by omega)
    by_cases hj0 : j < l.length
    · obtain ⟨ad, rfl, hbk, c0⟩ := (H.ext hbw).at_ (at0_get hj0)
      have hsu := Lib.hid (sum_one hj0)
      have hz := hV.out.2.1 _ (at0_mem hj0)
      generalize (l.take j).sum = n at *
      generalize at0 l j = x at *
      obtain ⟨s1, s2⟩ := hsb
      obtain ⟨z1, z2⟩ := hz
      go_wp2
      go_roundg (l.length - (j + 1))
      case measure => omega
      case rel => exact ⟨j + 1, by omega, by rw [hsu.out], by go_num, hbw⟩
    · have hjl : l.take j = l := List.take_of_length_le (by omega)
      rw [hjl] at hsb ⊢
      generalize l.sum = n at *
      obtain ⟨s1, s2⟩ := hsb
      replace HX := HX.ext hbw
      go_wp2_with fail
      refine (qof_q (y := (l.length : Int)) (by omega) hu (by omega) (by omega) (by omega) rfl).mono ?_
      rintro e u5 ⟨A5, c5, B5, d5, rfl, F5, hb⟩
      replace HX := HX.ext hb
      clear hb
      have hc00 := HX.cell 0 0 rfl rfl
      have hf00 := HX.free 0 0 rfl
      have hc01 := HX.cell 0 1 rfl rfl
      have hf01 := HX.free 0 1 rfl
      have hc02 := HX.cell 0 2 rfl rfl
      have hf02 := HX.free 0 2 rfl
      try simp only [List.getElem_toArray, List.getElem_cons_zero, List.getElem_cons_succ] at hc00 hf00 hc01 hf01 hc02 hf02
      go_wp2
      clear hc00 hf00 hc01 hf01 hc02 hf02
      have hk := HX.keep3 0 rfl rfl rfl rfl (by omega) (.bool (sg u)) (.slice A5 (dig (nu u)).length c5) (.slice B5 (dig u.den).length d5)
      replace HX := HX.put3 0 rfl (by omega) (by intro k q hk hne; match k, hk with | 0, hk => (simp at hk; subst hk; simp at hne ⊢; try omega) | k + 1, hk => simp at hk) (.bool (sg u)) (.slice A5 (dig (nu u)).length c5) (.slice B5 (dig u.den).length d5)
      replace F5 := F5.stay hk
      clear hk
      simp only [List.set_cons_zero] at HX
      have hc00 := HX.cell 0 0 rfl rfl
      have hc01 := HX.cell 0 1 rfl rfl
      have hc02 := HX.cell 0 2 rfl rfl
      try simp only [List.getElem_toArray, List.getElem_cons_zero, List.getElem_cons_succ] at hc00 hc01 hc02
      exact bodyPost_ret (v := .tuple #[.agg #[.bool (sg u), .slice A5 (dig (nu u)).length c5, .slice B5 (dig u.den).length d5], .int .i64 0]) (by simp [results, Tryz.results47, go_sem, hc00, hc01, hc02]) rfl ⟨A5, c5, B5, d5, rfl, F5, HX.below⟩
set_option maxRecDepth 100000 in
theorem rdev_err {E : Int} (A : Option Addr) (c : Nat) (l : List Int) (w : World) (H : IEs w A l) (HL : l.length ≤ 9223372036854775807) (hE : Hid (someE l = E)) (hn : (E != 0) = true) :
    Calls Tryz.prog 49 #[.slice A l.length c] w (RetZE w E) := by
  go_enter Tryz.func49, Tryz.ntmps49
  go_wp2_with fail
  have HX := BL.one w #[.bool false, .slice none 0 0, .slice none 0 0] 37
  replace H := H.ext HX.below
  refine (rsome_any A c l _ H HL hE).mono ?_
  rintro e u2 ⟨rfl, hb⟩
  replace HX := HX.ext hb
  replace H := H.ext hb
  clear hb
  have hc00 := HX.cell 0 0 rfl rfl
  have hf00 := HX.free 0 0 rfl
  have hc01 := HX.cell 0 1 rfl rfl
  have hf01 := HX.free 0 1 rfl
  have hc02 := HX.cell 0 2 rfl rfl
  have hf02 := HX.free 0 2 rfl
  try simp only [List.getElem_toArray, List.getElem_cons_zero, List.getElem_cons_succ] at hc00 hf00 hc01 hf01 hc02 hf02
  go_wp2
  clear hc00 hf00 hc01 hf01 hc02 hf02
  replace HX := HX.put3 0 rfl (by omega) (by intro k q hk hne; match k, hk with | 0, hk => (simp at hk; subst hk; simp at hne ⊢; try omega) | k + 1, hk => simp at hk) (.bool false) (.slice none 0 0) (.slice none 0 0)
  simp only [List.set_cons_zero] at HX
  have hc00 := HX.cell 0 0 rfl rfl
  have hc01 := HX.cell 0 1 rfl rfl
  have hc02 := HX.cell 0 2 rfl rfl
  try simp only [List.getElem_toArray, List.getElem_cons_zero, List.getElem_cons_succ] at hc00 hc01 hc02
  exact bodyPost_ret (v := .tuple #[.agg #[.bool false, .slice none 0 0, .slice none 0 0], .int .i64 E]) (by simp [results, Tryz.results49, go_sem, hc00, hc01, hc02]) rfl ⟨rfl, HX.below⟩
set_option maxHeartbeats 4000000 in
set_option maxRecDepth 100000 in
theorem rdev_go {u : Rat} (A : Option Addr) (c : Nat) (l : List Int) (w : World) (H : IEs w A l) (hE : Hid (someE l = 0)) (hu : Hid (quo (sumM l (twi l)) (2 * (l.length : Int)) = u)) :
    Calls Tryz.prog 49 #[.slice A l.length c] w (RetGE w u 1) := by
  have hVV := Lib.hid (someE_zero.1 hE.out)
  obtain ⟨h64, hV, h0⟩ := hVV.out
  have HL : l.length ≤ 9223372036854775807 := by omega
  have HL2 : l.length ≤ 1000000 := by omega
  have hbt := twi_bd hV h0
  have hsl := Lib.hid (srt_len l)
  obtain ⟨k1, hk1⟩ : ∃ k, (l.length - 1) / 2 = k := ⟨_, rfl⟩
  obtain ⟨k2, hk2⟩ : ∃ k, l.length / 2 = k := ⟨_, rfl⟩
  have hx1 := Lib.hid (at0_get (s := srt l) (i := k1) (by rw [srt_len]; omega))
  have hx2 := Lib.hid (at0_get (s := srt l) (i := k2) (by rw [srt_len]; omega))
  have ht : Hid (twi l = at0 (srt l) k1 + at0 (srt l) k2) := Lib.hid (by rw [twi, hk1, hk2])
  have hd1 := hV.srt _ (at0_mem (s := srt l) (i := k1) (by rw [srt_len]; omega))
  have hd2 := hV.srt _ (at0_mem (s := srt l) (i := k2) (by rw [srt_len]; omega))
  have q1 : ((l.length : Int) - 1).tdiv 2 = (k1 : Int) := by rw [Int.tdiv_eq_ediv_of_nonneg (by omega)]; omega
  have q2 : (l.length : Int).tdiv 2 = (k2 : Int) := by rw [Int.tdiv_eq_ediv_of_nonneg (by omega)]; omega
  have q3 : ((l.length : Int) - 1) / 2 = (k1 : Int) := by omega
  have q4 : (l.length : Int) / 2 = (k2 : Int) := by omega
  have q5 : (0 : Int) ≤ (k1 : Int) := by omega
  have q6 : (k1 : Int) < (l.length : Int) := by omega
  have q7 : (0 : Int) ≤ (k2 : Int) := by omega
  have q8 : (k2 : Int) < (l.length : Int) := by omega
  have w1 : IntKind.i64.wrap ((l.length : Int) - 1) = (l.length : Int) - 1 := Go.IntWalk.i64_in _ (by omega)
  have w2 : IntKind.i64.wrap (k1 : Int) = (k1 : Int) := Go.IntWalk.i64_in _ (by omega)
  have w3 : IntKind.i64.wrap (k2 : Int) = (k2 : Int) := Go.IntWalk.i64_in _ (by omega)
  have w4 : IntKind.i64.wrap (at0 (srt l) k1 + at0 (srt l) k2) = at0 (srt l) k1 + at0 (srt l) k2 := Go.IntWalk.i64_in _ (by omega)
  clear hV hk1 hk2
  go_enter Tryz.func49, Tryz.ntmps49
  go_wp2_with fail
  have HX := BL.one w #[.bool false, .slice none 0 0, .slice none 0 0] 37
  replace H := H.ext HX.below
  refine (rsome_any A c l _ H HL hE).mono ?_
  rintro e u2 ⟨rfl, hb⟩
  replace HX := HX.ext hb
  replace H := H.ext hb
  clear hb
  have hlt0 := HX.lt 0 rfl
  simp only [] at hlt0
  go_wp2_with fail
  refine (rsorted_any A c l _ H HL2).mono ?_
  rintro e u4 ⟨A4, c4, rfl, HS, hcap, hb4⟩
  replace HX := HX.ext hb4
  replace H := H.ext hb4
  clear hb4
  rw [hsl.out]
  obtain ⟨ad, rfl, hblk, r1⟩ := HS.at_ hx1.out
  obtain ⟨ad2, he2, _, r2⟩ := HS.at_ hx2.out
  obtain rfl := Option.some.inj he2
  clear hblk HS hx1 hx2
  generalize at0 (srt l) k1 = x1 at *
  generalize at0 (srt l) k2 = x2 at *
  have wt : IntKind.i64.wrap (x1 + x2) = twi l := by rw [ht.out]; exact w4
  go_upto_region 5 with fail
  go_quiet (fail)
  rw [← ht.out]
  replace HX := HX.ext (drew_below (Below.refl _ _) nq)
  replace H := H.ext (drew_below (Below.refl _ _) nq)
  clear r1 r2 w4 wt w1 w2 w3
  generalize u4.drewN nq = V4 at *
  obtain ⟨t, htt⟩ : ∃ t, twi l = t := ⟨_, rfl⟩
  rw [htt] at hu hbt ⊢
  have hbt0 := Lib.hid hbt
  obtain ⟨t1, t2⟩ := hbt
  clear htt ht hd1 hd2 hsl
  go_wp2
  go_loopg [7, 8] l.length (fun g n i wr => ∃ j : Nat, j + g = l.length ∧ n = .int .i64 (sumM (l.take j) t) ∧ i = .int .i64 (j : Int) ∧ Below V4.heap.size V4 wr)
  case atStart => exact ⟨0, by omega, rfl, rfl, Below.refl _ _⟩
  case round =>
    obtain ⟨j, hj, rfl, rfl, hbw⟩ := hrel
    have hsb := sumM_take_bd hVV.out.2.1 hbt0.out j (by omega)
    by_cases hj0 : j < l.length
    · obtain ⟨ad3, rfl, hbk, c0⟩ := (H.ext hbw).at_ (at0_get hj0)
      have hsu := Lib.hid (sumM_one hj0 t)
      have hz := hVV.out.2.1 _ (at0_mem hj0)
      have j1 : (0 : Int) ≤ (j : Int) := by omega
      have j2 : (j : Int) < (l.length : Int) := by omega
      generalize sumM (l.take j) t = n at *
      generalize at0 l j = x at *
      obtain ⟨s1, s2⟩ := hsb
      obtain ⟨z1, z2⟩ := hz
      have v1 : IntKind.i64.wrap (2 * x) = 2 * x := Go.IntWalk.i64_in _ (by omega)
      have v2 : IntKind.i64.wrap (2 * x - t) = 2 * x - t := Go.IntWalk.i64_in _ (by omega)
      have v3 : IntKind.i64.wrap (t - 2 * x) = t - 2 * x := Go.IntWalk.i64_in _ (by omega)
      have hmg := mg_max x t
      generalize wr = V8 at *
      go_upto_region 10 with fail
      rcases Int.lt_trichotomy (2 * x) t with h3 | h3 | h3
      · have hm : mg x t = t - 2 * x := by unfold mg; split <;> omega
        have hs3 := Lib.hid (hsu.out.trans (by rw [hm]))
        have v4 : IntKind.i64.wrap (n + (t - 2 * x)) = n + (t - 2 * x) := Go.IntWalk.i64_in _ (by omega)
        have d1 : max (2 * x - t) (t - 2 * x) = t - 2 * x := by omega
        have d2 : 2 * x - t < t - 2 * x := by omega
        clear hmg hm hsu
        go_region
        all_goals (
          go_wp2
          go_roundg (l.length - (j + 1))
          case measure => omega
          case rel => exact ⟨j + 1, by omega, (by rw [hs3.out] <;> simp), by first | rfl | go_num, drew_below hbw 1⟩)
      · have hm : mg x t = 0 := by unfold mg; split <;> omega
        have hs3 := Lib.hid (hsu.out.trans (by rw [hm]))
        have v4 : IntKind.i64.wrap (n + (0)) = n + (0) := Go.IntWalk.i64_in _ (by omega)
        have d1 : max (2 * x - t) (t - 2 * x) = 0 := by omega
        have d2 : 2 * x - t = 0 := by omega
        have d3 : t - 2 * x = 0 := by omega
        clear hmg hm hsu
        go_region
        all_goals (
          go_wp2
          go_roundg (l.length - (j + 1))
          case measure => omega
          case rel => exact ⟨j + 1, by omega, (by rw [hs3.out] <;> simp), by first | rfl | go_num, drew_below hbw 1⟩)
      · have hm : mg x t = 2 * x - t := by unfold mg; split <;> omega
        have hs3 := Lib.hid (hsu.out.trans (by rw [hm]))
        have v4 : IntKind.i64.wrap (n + (2 * x - t)) = n + (2 * x - t) := Go.IntWalk.i64_in _ (by omega)
        have d1 : max (2 * x - t) (t - 2 * x) = 2 * x - t := by omega
        have d2 : t - 2 * x < 2 * x - t := by omega
        clear hmg hm hsu
        go_region
        all_goals (
          go_wp2
          go_roundg (l.length - (j + 1))
          case measure => omega
          case rel => exact ⟨j + 1, by omega, (by rw [hs3.out] <;> simp), by first | rfl | go_num, drew_below hbw 1⟩)
    · have hjl : l.take j = l := List.take_of_length_le (by omega)
      rw [hjl] at hsb ⊢
      generalize sumM l t = n at *
      obtain ⟨s1, s2⟩ := hsb
      replace HX := HX.ext hbw
      go_wp2_with fail
      refine (qof_q (y := 2 * (l.length : Int)) (by omega) hu (by omega) (by omega) (by omega) rfl).mono ?_
      rintro e u5 ⟨A5, c5, B5, d5, rfl, F5, hb⟩
      replace HX := HX.ext hb
      clear hb
      have hc00 := HX.cell 0 0 rfl rfl
      have hf00 := HX.free 0 0 rfl
      have hc01 := HX.cell 0 1 rfl rfl
      have hf01 := HX.free 0 1 rfl
      have hc02 := HX.cell 0 2 rfl rfl
      have hf02 := HX.free 0 2 rfl
      try simp only [List.getElem_toArray, List.getElem_cons_zero, List.getElem_cons_succ] at hc00 hf00 hc01 hf01 hc02 hf02
      go_wp2
      clear hc00 hf00 hc01 hf01 hc02 hf02
      have hk := HX.keep3 0 rfl rfl rfl rfl (by omega) (.bool (sg u)) (.slice A5 (dig (nu u)).length c5) (.slice B5 (dig u.den).length d5)
      replace HX := HX.put3 0 rfl (by omega) (by intro k q hk hne; match k, hk with | 0, hk => (simp at hk; subst hk; simp at hne ⊢; try omega) | k + 1, hk => simp at hk) (.bool (sg u)) (.slice A5 (dig (nu u)).length c5) (.slice B5 (dig u.den).length d5)
      replace F5 := F5.stay hk
      clear hk
      simp only [List.set_cons_zero] at HX
      have hc00 := HX.cell 0 0 rfl rfl
      have hc01 := HX.cell 0 1 rfl rfl
      have hc02 := HX.cell 0 2 rfl rfl
      try simp only [List.getElem_toArray, List.getElem_cons_zero, List.getElem_cons_succ] at hc00 hc01 hc02
      exact bodyPost_ret (v := .tuple #[.agg #[.bool (sg u), .slice A5 (dig (nu u)).length c5, .slice B5 (dig u.den).length d5], .int .i64 0]) (by simp [results, Tryz.results49, go_sem, hc00, hc01, hc02]) rfl ⟨A5, c5, B5, d5, rfl, F5, HX.below⟩
end Go.Proofs.YteleohgalknkiaaGreatDoor

namespace Go.Proofs.YteleohgalknkiaaGreatDoor
open Go.RowKit Go.Proofs Go

structure FE where
  s : Bool
  A : Option Addr
  n : Nat
  c : Nat
  B : Option Addr
  m : Nat
  d : Nat
def FE.val (x : FE) : Value := .agg #[.bool x.s, .slice x.A x.n x.c, .slice x.B x.m x.d]
def FS (w : World) (A : Option Addr) (fs : List FE) : Prop :=
  0 < fs.length → ∃ ad, A = some ad ∧ ad.block < w.heap.size ∧ ∀ i x, fs[i]? = some x → w.cell? (ad.add (i * 3)) = some (.bool x.s) ∧ w.cell? ⟨(ad.add (i * 3)).block, (ad.add (i * 3)).off + 1, none⟩ = some (.slice x.A x.n x.c) ∧ w.cell? ⟨(ad.add (i * 3)).block, (ad.add (i * 3)).off + 2, none⟩ = some (.slice x.B x.m x.d)def FE.cells (x : FE) : List Value := [.bool x.s, .slice x.A x.n x.c, .slice x.B x.m x.d]
theorem FE.flat_at : ∀ (fs : List FE) (i j : Nat) (x : FE), fs[i]? = some x → j < 3 → (fs.flatMap FE.cells)[i * 3 + j]? = x.cells[j]?
  | [], i, j, x, h, _ => by simp at h
  | y :: fs, 0, j, x, h, hj => by
    simp at h; subst h
    rw [List.flatMap_cons, List.getElem?_append_left (by simp [FE.cells]; omega), Nat.zero_mul, Nat.zero_add]
  | y :: fs, i + 1, j, x, h, hj => by
    rw [List.flatMap_cons, List.getElem?_append_right (by simp [FE.cells]; omega)]
    rw [show (i + 1) * 3 + j - y.cells.length = i * 3 + j from by simp [FE.cells]; omega]
    exact FE.flat_at fs i j x (by simpa using h) hj
/-- a slice literal of fractions -/
def rsum (qs : List Rat) : Rat := qs.foldl (· + ·) 0
theorem rsum_succ {qs : List Rat} {k : Nat} {q : Rat} (h : qs[k]? = some q) : rsum (qs.take k) + q = rsum (qs.take (k + 1)) := by
  obtain ⟨hk, rfl⟩ := List.getElem?_eq_some_iff.1 h
  rw [List.take_succ_eq_append_getElem hk, rsum, rsum, List.foldl_append]; rfl
/-- the fractions of a list, and their numbers -/
structure FA (w : World) (fs : List FE) (qs : List Rat) : Prop where
  len : fs.length = qs.length
  fr : ∀ (i : Nat) (x : FE) (q : Rat), fs[i]? = some x → qs[i]? = some q → Fr w x.s x.A x.n x.c x.B x.m x.d q 6
theorem FA.ext {w w' : World} {fs : List FE} {qs : List Rat} (h : FA w fs qs) (hb : Below w.heap.size w w') : FA w' fs qs := ⟨h.len, fun i x q h1 h2 => (h.fr i x q h1 h2).ext hb⟩
theorem FS.ext {w w' : World} {A : Option Addr} {fs : List FE} (h : FS w A fs) (hb : Below w.heap.size w w') : FS w' A fs := fun h0 => by
  obtain ⟨ad, h1, h2, h3⟩ := h h0
  refine ⟨ad, h1, Nat.lt_of_lt_of_le h2 hb.size, fun i x hx => ?_⟩
  obtain ⟨a, b, c⟩ := h3 i x hx
  exact ⟨by rw [hb.cell (cell_lt a)]; exact a, by rw [hb.cell (cell_lt b)]; exact b, by rw [hb.cell (cell_lt c)]; exact c⟩
theorem rsum_sz {w : World} {fs : List FE} {qs : List Rat} (h : FA w fs qs) : ∀ k, k ≤ qs.length → Sz (rsum (qs.take k)) (1 + 8 * k)
  | 0, _ => sz_lit false (a := 0) (b := 1) (by omega) (by omega)
  | k + 1, hk => by
    have h1 := rsum_sz h k (by omega)
    have hx := h.fr k _ _ (List.getElem?_eq_getElem (by have := h.len; omega)) (List.getElem?_eq_getElem (show k < qs.length by omega))
    rw [← rsum_succ (List.getElem?_eq_getElem (show k < qs.length by omega))]
    exact (h1.add hx.sz).mono (by omega)

set_option maxHeartbeats 400000 in
set_option maxRecDepth 100000 in
theorem fsum_any (A : Option Addr) (n c : Nat) (fs : List FE) (qs : List Rat) (w : World) (H : FS w A fs) (HF : FA w fs qs) (hn : n = fs.length) (hl : n ≤ 64) :
    Calls Tryz.prog 158 #[.slice A n c] w (RetG w (rsum qs) 513) := by
  subst hn
  go_enter Tryz.func158, Tryz.ntmps158
  go_wp2_with fail
  refine (fof_h (x := 0) (y := 1) (j := 1) (u := rsum (qs.take 0)) (Lib.hid rfl) (rsum_sz HF 0 (by omega)) (by omega) (by omega) (by omega) (by omega)).mono ?_
  rintro e w1 ⟨A1, c1, B1, d1, rfl, F1, hb1⟩
  go_wp2_with fail
  have HX := ((BL.one w #[.bool false, .slice none 0 0, .slice none 0 0] 37).ext hb1).new #[.bool (sg (rsum (qs.take 0))), .slice A1 (dig (nu (rsum (qs.take 0)))).length c1, .slice B1 (dig (rsum (qs.take 0)).den).length d1] 37
  simp only [List.cons_append, List.nil_append] at HX
  have F1 := F1.ext (below_alloc w1 (.cells #[.bool (sg (rsum (qs.take 0))), .slice A1 (dig (nu (rsum (qs.take 0)))).length c1, .slice B1 (dig (rsum (qs.take 0)).den).length d1] 37))
  have hg1 : w.heap.size < w1.heap.size := Nat.lt_of_lt_of_le (by simp) hb1.size
  go_loopg [9] fs.length (fun k i wr => ∃ (j : Nat) (A2 : Option Addr) (c2 : Nat) (B2 : Option Addr) (d2 : Nat), j + k = fs.length ∧ i = .int .i64 (j : Int) ∧ Fc wr A2 c2 B2 d2 (rsum (qs.take j)) (1 + 8 * j) ∧ BL w wr [(w.heap.size, #[.bool false, .slice none 0 0, .slice none 0 0], 37), (w1.heap.size, #[.bool (sg (rsum (qs.take j))), .slice A2 (dig (nu (rsum (qs.take j)))).length c2, .slice B2 (dig (rsum (qs.take j)).den).length d2], 37)])
  case atStart => exact ⟨0, A1, c1, B1, d1, by omega, rfl, F1, HX⟩
  case round =>
    obtain ⟨j, A2, c2, B2, d2, hj, rfl, F2, HX⟩ := hrel
    by_cases hj0 : j < fs.length
    · have hjq : j < qs.length := HF.len ▸ hj0
      obtain ⟨ad, rfl, hb, hc⟩ := (H.ext HX.below) (by omega)
      obtain ⟨hc0, hc1, hc2⟩ := hc j _ (List.getElem?_eq_getElem hj0)
      have Fx := (HF.ext HX.below).fr j _ _ (List.getElem?_eq_getElem hj0) (List.getElem?_eq_getElem hjq)
      have Hu := Lib.hid (rsum_succ (List.getElem?_eq_getElem hjq))
      have zu := rsum_sz HF (j + 1) hjq
      clear hc
      generalize fs[j] = x at *
      generalize qs[j] = q at *
      obtain ⟨u, HU⟩ : ∃ u, Hid (rsum (qs.take (j + 1)) = u) := ⟨_, Lib.hid rfl⟩
      rw [HU.out] at Hu zu
      generalize rsum (qs.take j) = p at *
      clear H
      go_upto_region 5 with fail
      have hb2 := below_alloc wr (.cells #[.bool x.s, .slice x.A x.n x.c, .slice x.B x.m x.d] 37)
      replace HX := HX.new #[.bool x.s, .slice x.A x.n x.c, .slice x.B x.m x.d] 37
      simp only [List.cons_append, List.nil_append] at HX
      replace Fx := Fx.ext hb2
      replace F2 := F2.ext hb2
      clear hb2 hc0 hc1 hc2 hb
      generalize wr.alloc (.cells #[.bool x.s, .slice x.A x.n x.c, .slice x.B x.m x.d] 37) = W3 at *
      generalize wr.heap.size = g3 at *
      have hd0 := HX.cell 1 0 rfl rfl
      have hd1 := HX.cell 1 1 rfl rfl
      have hd2 := HX.cell 1 2 rfl rfl
      have he0 := HX.cell 2 0 rfl rfl
      have he1 := HX.cell 2 1 rfl rfl
      have he2 := HX.cell 2 2 rfl rfl
      simp only [List.getElem_toArray, List.getElem_cons_zero, List.getElem_cons_succ] at hd0 hd1 hd2 he0 he1 he2
      go_wp2_with fail
      refine (fadd_h Hu zu F2.fr Fx (by omega) (by omega)).mono ?_
      rintro e w4 ⟨A4, c4, B4, d4, rfl, F4, hb4⟩
      replace HX := HX.ext hb4
      clear hd0 hd1 hd2 he0 he1 he2 Fx F2
      have hd0 := HX.cell 1 0 rfl rfl
      have hd1 := HX.cell 1 1 rfl rfl
      have hd2 := HX.cell 1 2 rfl rfl
      simp only [List.getElem_toArray, List.getElem_cons_zero, List.getElem_cons_succ] at hd0 hd1 hd2
      have hf0 := HX.free 1 0 rfl
      have hf1 := HX.free 1 1 rfl
      have hf2 := HX.free 1 2 rfl
      go_wp2_with fail
      have hk := HX.keep3 1 rfl rfl rfl rfl (by omega) (.bool (sg u)) (.slice A4 (dig (nu u)).length c4) (.slice B4 (dig u.den).length d4)
      replace HX := (HX.take 2).put3 1 rfl (by omega) (by intro k q hk hne; match k, hk with | 0, hk => (simp at hk; subst hk; simp at hne ⊢; try omega) | 1, hk => (simp at hk; subst hk; simp at hne ⊢; try omega) | k + 2, hk => simp at hk) (.bool (sg u)) (.slice A4 (dig (nu u)).length c4) (.slice B4 (dig u.den).length d4)
      go_roundg (fs.length - (j + 1))
      case measure => omega
      case rel => exact ⟨j + 1, A4, c4, B4, d4, by omega, by go_num, by rw [HU.out]; exact F4.stay hk, by rw [HU.out]; exact HX⟩
    · have hjj : rsum (qs.take j) = rsum qs := by rw [List.take_of_length_le (by have := HF.len; omega)]
      have zz := F2.sz.mono (show 1 + 8 * j ≤ 513 by omega)
      rw [hjj] at F2 HX zz
      clear hjj
      have hd0 := HX.cell 1 0 rfl rfl
      have hd1 := HX.cell 1 1 rfl rfl
      have hd2 := HX.cell 1 2 rfl rfl
      have he0 := HX.cell 0 0 rfl rfl
      have he1 := HX.cell 0 1 rfl rfl
      have he2 := HX.cell 0 2 rfl rfl
      simp only [List.getElem_toArray, List.getElem_cons_zero, List.getElem_cons_succ] at hd0 hd1 hd2 he0 he1 he2
      have hf0 := HX.free 0 0 rfl
      have hf1 := HX.free 0 1 rfl
      have hf2 := HX.free 0 2 rfl
      go_wp2_with fail
      have hk := HX.keep3 0 rfl rfl rfl rfl (by omega) (.bool (sg (rsum qs))) (.slice A2 (dig (nu (rsum qs))).length c2) (.slice B2 (dig (rsum qs).den).length d2)
      replace HX := HX.put3 0 rfl (by omega) (by intro k q hk hne; match k, hk with | 0, hk => (simp at hk; subst hk; simp at hne ⊢; try omega) | 1, hk => (simp at hk; subst hk; simp at hne ⊢; try omega) | k + 2, hk => simp at hk) (.bool (sg (rsum qs))) (.slice A2 (dig (nu (rsum qs))).length c2) (.slice B2 (dig (rsum qs).den).length d2)
      replace F2 := F2.stay hk
      clear hk hd0 hd1 hd2 he0 he1 he2 hf0 hf1 hf2
      have hd0 := HX.cell 0 0 rfl rfl
      have hd1 := HX.cell 0 1 rfl rfl
      have hd2 := HX.cell 0 2 rfl rfl
      simp only [List.getElem_toArray, List.getElem_cons_zero, List.getElem_cons_succ] at hd0 hd1 hd2
      generalize ((wr.setCell ⟨w.heap.size, 0, none⟩ (.bool (sg (rsum qs)))).setCell ⟨w.heap.size, 1, none⟩ (.slice A2 (dig (nu (rsum qs))).length c2)).setCell ⟨w.heap.size, 2, none⟩ (.slice B2 (dig (rsum qs).den).length d2) = W9 at *
      exact bodyPost_ret (v := .agg #[.bool (sg (rsum qs)), .slice A2 (dig (nu (rsum qs))).length c2, .slice B2 (dig (rsum qs).den).length d2]) (by simp [results, Tryz.results158, go_sem, hd0, hd1, hd2]) rfl ⟨A2, c2, B2, d2, rfl, ⟨F2.num, F2.den, zz⟩, HX.below⟩
set_option maxHeartbeats 400000 in
set_option maxRecDepth 100000 in
theorem fmean_no (A : Option Addr) (c : Nat) (w : World) :
    Calls Tryz.prog 108 #[.slice A 0 c] w (RetZE w 7) := by
  go_enter Tryz.func108, Tryz.ntmps108
  go_wp2_with fail
  have HX := BL.one w #[.bool false, .slice none 0 0, .slice none 0 0] 37
  have hc00 := HX.cell 0 0 rfl rfl
  have hc01 := HX.cell 0 1 rfl rfl
  have hc02 := HX.cell 0 2 rfl rfl
  try simp only [List.getElem_toArray, List.getElem_cons_zero, List.getElem_cons_succ] at hc00 hc01 hc02
  exact bodyPost_ret (v := .tuple #[.agg #[.bool false, .slice none 0 0, .slice none 0 0], .int .i64 7]) (by simp [results, Tryz.results108, go_sem, hc00, hc01, hc02]) rfl ⟨rfl, HX.below⟩

set_option maxHeartbeats 400000 in
set_option maxRecDepth 100000 in
theorem fmean_any (A : Option Addr) (n c : Nat) (fs : List FE) (qs : List Rat) (u : Rat) (w : World) (H : FS w A fs) (HF : FA w fs qs) (hn : n = fs.length) (hl : n ≤ 64) (h0 : 0 < n) (hu : Hid (rsum qs * (rv false n 1)⁻¹ = u)) :
    Calls Tryz.prog 108 #[.slice A n c] w (RetGE w u 514) := by
  have zd : Sz (rv false n 1) 1 := sz_lit false (by omega) (by omega)
  have zs := rsum_sz HF qs.length (Nat.le_refl _)
  rw [List.take_length] at zs
  have zu : Sz u 514 := by
    have := HF.len
    rw [← hu.out]; exact (zs.div zd).mono (by omega)
  have hd0 : Hid (rv false n 1 ≠ 0) := Lib.hid (fun e => by rw [rv_eq_zero] at e; omega)
  have hdv : Hid (rv (!(decide (((n : Nat) : Int) < 0) == decide ((1 : Int) < 0))) ((n : Nat) : Int).natAbs (1 : Int).natAbs = rv false n 1) := Lib.hid (by
    have : decide (((n : Nat) : Int) < 0) = false := decide_eq_false (by omega)
    rw [this]; rfl)
  have hz : (((n : Nat) : Int) == 0) = false := by simp; omega
  have HN := Lib.hid hn
  clear zs hn
  generalize hD : rv false n 1 = D at *
  have HD := Lib.hid hD
  clear hD
  generalize hS : rsum qs = S at *
  have HS := Lib.hid hS
  clear hS
  go_enter Tryz.func108, Tryz.ntmps108
  go_wp2_with fail
  have HX := BL.one w #[.bool false, .slice none 0 0, .slice none 0 0] 37
  refine (fsum_any A n c fs qs _ (H.ext HX.below) (HF.ext HX.below) HN.out hl).mono ?_
  rw [HS.out]
  rintro e w1 ⟨A1, c1, B1, d1, rfl, F1, hb⟩
  replace HX := HX.ext hb
  clear hb
  go_wp2_with fail
  refine (fof_h hdv zd (by omega) (by omega) (by omega) (by omega)).mono ?_
  rintro e w2 ⟨A2, c2, B2, d2, rfl, F2, hb⟩
  replace HX := HX.ext hb
  replace F1 := F1.ext hb
  clear hb
  go_wp2_with fail
  refine (fdiv_h hu hd0 zu F1.fr F2.fr (by omega) (by omega)).mono ?_
  rintro e w3 ⟨A9, c9, B9, d9, rfl, F9, hb⟩
  replace HX := HX.ext hb
  clear hb F1 F2
  have hc00 := HX.cell 0 0 rfl rfl
  have hf00 := HX.free 0 0 rfl
  have hc01 := HX.cell 0 1 rfl rfl
  have hf01 := HX.free 0 1 rfl
  have hc02 := HX.cell 0 2 rfl rfl
  have hf02 := HX.free 0 2 rfl
  try simp only [List.getElem_toArray, List.getElem_cons_zero, List.getElem_cons_succ] at hc00 hf00 hc01 hf01 hc02 hf02
  go_wp2
  clear hc00 hf00 hc01 hf01 hc02 hf02
  have hk := HX.keep3 0 rfl rfl rfl rfl (by omega) (.bool (sg u)) (.slice A9 (dig (nu u)).length c9) (.slice B9 (dig u.den).length d9)
  replace HX := HX.put3 0 rfl (by omega) (by intro k q hk hne; match k, hk with | 0, hk => (simp at hk; subst hk; simp at hne ⊢; try omega) | k + 1, hk => simp at hk) (.bool (sg u)) (.slice A9 (dig (nu u)).length c9) (.slice B9 (dig u.den).length d9)
  replace F9 := F9.stay hk
  clear hk
  simp only [List.set_cons_zero] at HX
  have hc00 := HX.cell 0 0 rfl rfl
  have hc01 := HX.cell 0 1 rfl rfl
  have hc02 := HX.cell 0 2 rfl rfl
  try simp only [List.getElem_toArray, List.getElem_cons_zero, List.getElem_cons_succ] at hc00 hc01 hc02
  exact bodyPost_ret (v := .tuple #[.agg #[.bool (sg u), .slice A9 (dig (nu u)).length c9, .slice B9 (dig u.den).length d9], .int .i64 0]) (by simp [results, Tryz.results108, go_sem, hc00, hc01, hc02]) rfl ⟨A9, c9, B9, d9, rfl, F9, HX.below⟩

/-- the cells of fractions -/
def fcells (fs : List FE) : List Value := fs.flatMap FE.cells
theorem fcells_len (fs : List FE) : (fcells fs).length = fs.length * 3 := by
  induction fs with
  | nil => rfl
  | cons x l ih =>
    have : fcells (x :: l) = x.cells ++ fcells l := rfl
    rw [this, List.length_append, ih, List.length_cons, show x.cells.length = 3 from rfl]; omega
theorem fcells_snoc (fs : List FE) (x : FE) : fcells (fs ++ [x]) = fcells fs ++ x.cells := by simp [fcells]
/-- the call owns a row of fractions -/
def FOwn (w : World) (B : Nat) (A : Option Addr) (c : Nat) (fs : List FE) : Prop := w.ownsRow B 37 3 (.slice A fs.length c) fs.length (fcells fs)
section
variable {w w' : World} {B c : Nat} {A : Option Addr} {fs : List FE}
theorem FOwn.nil (w : World) (B : Nat) : FOwn w B none 0 [] := World.ownsRow_nil w B _ 3
theorem FOwn.alloc (h : FOwn w B A c fs) (o : Obj) : FOwn (w.alloc o) B A c fs := World.ownsRow.alloc h o
theorem FOwn.ext (h : FOwn w B A c fs) (hb : Below w.heap.size w w') : FOwn w' B A c fs :=
  World.ownsRow.kept h (grown_of_below hb none) (by cases A <;> simp [Value.ownBlock])
theorem FOwn.off (h : FOwn w B A c fs) {p : Addr} (hp : p.block < B) (v : Value) : FOwn (w.setCell p v) B A c fs := by
  refine World.ownsRow.kept h (row := some p.block) ⟨rfl, rfl, rfl, by simp [World.setCell], fun i _ hne => Below.heap_setCell w p v i fun e => hne (by rw [e])⟩ ?_
  cases A with
  | none => left; rfl
  | some a =>
    right
    intro e
    have := (World.ownsRow.lt h _ e).1
    omega
theorem FOwn.blk (h : FOwn w B A c fs) : ∀ ad, A = some ad → ad.block < w.heap.size := fun ad e => by
  rcases h.2 with ⟨hv, _⟩ | ⟨g, cap, cur, hv, _, hg, _⟩
  · injection hv with hA _ _
    rw [e] at hA; cases hA
  · injection hv with hA _ _
    rw [e] at hA
    obtain rfl := Option.some.inj hA
    exact (Array.getElem?_eq_some_iff.1 hg).1
theorem FOwn.far (h : FOwn w B A c fs) {p : Addr} (hp : ∀ ad, A = some ad → ad.block ≠ p.block) (v : Value) : FOwn (w.setCell p v) B A c fs := by
  refine World.ownsRow.kept h (row := some p.block) ⟨rfl, rfl, rfl, by simp [World.setCell], fun i _ hne => Below.heap_setCell w p v i fun e => hne (by rw [e])⟩ ?_
  cases A with
  | none => left; rfl
  | some a =>
    right
    intro e
    exact hp a rfl (by simpa [Value.ownBlock] using e)
theorem FOwn.row (h : FOwn w B A c fs) : FS w A fs := fun h0 => by
  have h1 := h
  rcases h1.2 with ⟨_, h2⟩ | ⟨g, cap, cur, hv, _, hg, _⟩
  · omega
  · injection hv with hA _ _
    subst hA
    refine ⟨_, rfl, (Array.getElem?_eq_some_iff.1 hg).1, fun i x hx => ?_⟩
    have c0 := World.ownsRow.cells h rfl (i * 3 + 0) _ ((FE.flat_at fs i 0 x hx (by omega)).trans (show x.cells[0]? = some (.bool x.s) from rfl))
    have c1 := World.ownsRow.cells h rfl (i * 3 + 1) _ ((FE.flat_at fs i 1 x hx (by omega)).trans (show x.cells[1]? = some (.slice x.A x.n x.c) from rfl))
    have c2 := World.ownsRow.cells h rfl (i * 3 + 2) _ ((FE.flat_at fs i 2 x hx (by omega)).trans (show x.cells[2]? = some (.slice x.B x.m x.d) from rfl))
    rw [Addr.add_lit, Nat.zero_add] at c0 c1 c2 ⊢
    exact ⟨c0, c1, c2⟩
end
theorem undFrac : Tryz.prog.underlying 123 = some (.slice 37) := Tryz.underlying123
theorem infoFrac : (Tryz.prog.info? 37).map (fun i => (i.zero, i.size, i.bytes)) = some (some (.agg #[.bool false, .slice none 0 0, .slice none 0 0]), 3, 56) := by kernel_rfl
/-- a block that holds no number -/
def NoI (w : World) (g : Nat) : Prop := ∃ cs T fr, w.heap[g]? = some (.cells cs T fr) ∧ ∀ u ∈ cs.toList, Value.noInt u = true
theorem NoI.of {w w' : World} {g : Nat} (h : NoI w g) (hb : w'.heap[g]? = w.heap[g]?) : NoI w' g := by
  obtain ⟨cs, T, fr, h1, h2⟩ := h
  exact ⟨cs, T, fr, hb.trans h1, h2⟩
theorem NoI.lt {w : World} {g : Nat} (h : NoI w g) : g < w.heap.size := by
  obtain ⟨cs, T, fr, h1, _⟩ := h
  exact (Array.getElem?_eq_some_iff.1 h1).1
theorem NoI.ext {w w' : World} {g : Nat} (h : NoI w g) (hb : Below w.heap.size w w') : NoI w' g := h.of (hb.block g h.lt)
theorem NoI.no {w : World} {p : Addr} {k : IntKind} {n : Int} (h : NoI w p.block) : w.cell? p ≠ some (.int k n) := fun e => by
  obtain ⟨cs, T, fr, h1, h2⟩ := h
  simp only [World.cell?, h1] at e
  split at e
  · cases e
  · have h3 := h2 _ (Array.mem_toList_iff.2 (Array.mem_of_getElem? e))
    cases h3
section
variable {P : Program} (w : World)
theorem run_append_ni (base : Nat) (t ty e : TypeId) (i : TypeInfo) (z : Value) (size bytes : Nat) (ht : P.underlying t = some (.slice e)) (hi : P.info? e = some i) (hz : i.zero = some z)
    (hsize : i.size = size) (hby : i.bytes = bytes) (hzs : z.cells.size = size) (hsz : 0 < size)
    (v : Value) (n : Nat) (xs : List Value) (hown : w.ownsRow base e size v n xs)
    (a : Addr) (m c : Nat) (news : List Value) (hl : news.length = m * size) (hnews : ∀ j u, news[j]? = some u → w.cell? (a.add j) = some u) (h1 : ∀ u ∈ news, u.oneCell' = true) (hm : 0 < m)
    (h63 : n + m ≤ maxLen) (hbytes : (n + m) * bytes ≤ 140737488355328) (hbase : base ≤ w.heap.size)
    (hni : ∀ g, v.ownBlock = some g → NoI w g) (hxn : ∀ u ∈ xs, Value.noInt u = true) (hnn : ∀ u ∈ news, Value.noInt u = true) (hzn : ∀ u ∈ z.cells.toList, Value.noInt u = true) :
    ∃ v' w', (Builtin.append_ #[t, t] ty #[v, .slice (some a) m c]).run P w = .ok v' w' ∧ w'.ownsRow base e size v' (n + m) (xs ++ news) ∧ w.grownBy w' v.ownBlock ∧ Keep w w' ∧ (∀ g, v'.ownBlock = some g → NoI w' g) := by
  obtain ⟨v', w', hr, h2, h3, _⟩ := run_append_own w base t ty e i z size bytes ht hi hz hsize hby hzs hsz v n xs hown a m c news hl hnews h1 h63 hbytes hbase
  refine ⟨v', w', hr, h2, h3, ?_⟩
  subst hsize hby
  have hz0 : ∀ k, ∀ u ∈ (Builtin.zeroCells z.cells k).toList, Value.noInt u = true := fun k u hu => by
    simp [Builtin.zeroCells] at hu
    obtain ⟨j, _, rfl⟩ := hu
    have hj : j % z.cells.size < z.cells.size := Nat.mod_lt _ (by omega)
    refine hzn _ (Array.mem_toList_iff.2 ?_)
    rw [getElem!_pos z.cells _ hj]
    exact Array.getElem_mem hj
  have fin : ∀ (cs : Array Value), w.drew.alloc (.cells cs e) = w' → (∃ n c, .slice (some ⟨w.heap.size, 0, none⟩) n c = v') → (∀ u ∈ cs.toList, Value.noInt u = true) → Keep w w' ∧ (∀ g, v'.ownBlock = some g → NoI w' g) := fun cs hw hv hcs => by
    subst hw
    obtain ⟨n, c, rfl⟩ := hv
    refine ⟨(Keep.refl w).drew.alloc _, fun g hg => ?_⟩
    simp [Value.ownBlock] at hg
    subst hg
    exact ⟨cs, e, (0, 0), heap_alloc_new w.drew _, hcs⟩
  rcases hown.2 with ⟨rfl, rfl⟩ | ⟨k, cap, cur, rfl, _, hk, _, _, hcs, _⟩
  · have hx : xs = [] := List.eq_nil_of_length_eq_zero (by simpa using hown.1)
    subst hx
    have hr2 := run_append_nil (P := P) w t ty e i z ht hi hz a m c news hl hnews hm (by unfold maxLen at h63; omega) (by have hb := hbytes; simp only [Nat.zero_add] at hb; omega)
    have he := hr2.symm.trans hr
    injection he with he1 he2
    exact fin _ he2 ⟨_, _, he1⟩ (fun u hu => by
      rw [Array.toList_append, List.mem_append] at hu
      rcases hu with hu | hu
      · exact hnn u (by simpa using hu)
      · exact hz0 _ u hu)
  · by_cases hroom : n + m ≤ cap
    · have hfit : n * i.size + news.length ≤ cur.size := by rw [hl, hcs, ← Nat.add_mul]; exact Nat.mul_le_mul_right _ hroom
      have hr2 := run_append_room (P := P) w t ty e i ht hi k n cap cur hk a m c news hl hnews h1 hroom hfit
      have he := hr2.symm.trans hr
      injection he with he1 he2
      subst he1 he2
      have hkn := hni k rfl
      refine ⟨⟨h3.size, fun p kk nn hp => ?_⟩, fun g hg => ?_⟩
      · have hne : p.block ≠ k := fun e => by
          subst e
          exact hkn.no hp
        rw [World.cell?_of_block (w := w) (setRow_other w k p.block _ hne)]; exact hp
      · simp [Value.ownBlock] at hg
        subst hg
        refine ⟨_, e, (0, 0), setRow_heap w k cur _ e _ hk, fun u hu => ?_⟩
        obtain ⟨cs2, T2, fr2, hk2, hall⟩ := hkn
        rw [hk] at hk2
        injection hk2 with hk2
        injection hk2 with hk2
        subst hk2
        simp only [List.mem_append] at hu
        rcases hu with (hu | hu) | hu
        · exact hall u (List.mem_of_mem_take hu)
        · exact hnn u hu
        · exact hall u (List.mem_of_mem_drop hu)
    · have hr2 := run_append_grow (P := P) w t ty e i z ht hi hz ⟨k, 0, none⟩ n cap xs hown.1 (World.ownsRow.cells hown rfl) a m c news hl hnews (by omega) (by unfold maxLen at h63; omega) (growslice_fits (by omega) hbytes)
      have he := hr2.symm.trans hr
      injection he with he1 he2
      exact fin _ he2 ⟨_, _, he1⟩ (fun u hu => by
        rw [Array.toList_append, Array.toList_append, List.mem_append, List.mem_append] at hu
        rcases hu with (hu | hu) | hu
        · exact hxn u (by simpa using hu)
        · exact hnn u (by simpa using hu)
        · exact hz0 _ u hu)
end
theorem fcells_ni (fs : List FE) : ∀ u ∈ fcells fs, Value.noInt u = true := fun u hu => by
  rw [fcells, List.mem_flatMap] at hu
  obtain ⟨x, _, hx⟩ := hu
  simp [FE.cells] at hx
  rcases hx with rfl | rfl | rfl <;> rfl
/-- .. and its block holds no number -/
structure FRow (w : World) (B : Nat) (A : Option Addr) (c : Nat) (fs : List FE) : Prop where
  own : FOwn w B A c fs
  ni : ∀ ad, A = some ad → NoI w ad.block
section
variable {w w' : World} {B c : Nat} {A : Option Addr} {fs : List FE}
theorem FRow.nil (w : World) (B : Nat) : FRow w B none 0 [] := ⟨FOwn.nil w B, fun ad h => by cases h⟩
theorem FRow.ext (h : FRow w B A c fs) (hb : Below w.heap.size w w') : FRow w' B A c fs := ⟨h.own.ext hb, fun ad e => (h.ni ad e).ext hb⟩
theorem FRow.far (h : FRow w B A c fs) {p : Addr} (hp : ∀ ad, A = some ad → ad.block ≠ p.block) (v : Value) : FRow (w.setCell p v) B A c fs :=
  ⟨h.own.far hp v, fun ad e => (h.ni ad e).of (Below.heap_setCell w p v _ (hp ad e))⟩
theorem FRow.blk (h : FRow w B A c fs) : ∀ ad, A = some ad → ad.block < w.heap.size := h.own.blk
theorem FRow.row (h : FRow w B A c fs) : FS w A fs := h.own.row
end
/-- append of one fraction, behind the operation that laid it in a block of its own -/
theorem op_fpush {o : Oper} {a : Act} {K : Act → World → Prop} {Q : Exit → Act → World → Prop} (w : World) (s x : Operand) (hop : o.op = Op.call { callee := Callee.builtin Builtin.append, args := #[s, x], argTypes := #[123, 123] })
    {B c k : Nat} {A : Option Addr} {fs : List FE} (y : FE) (hs : a.eval s = .slice A k c) (hk : k = fs.length) (hx : a.eval x = .slice (some ⟨w.heap.size, 0, none⟩) 1 1) (hown : FRow w B A c fs)
    (hl : fs.length ≤ 1000000) (hB : B ≤ w.heap.size)
    (hK : ∀ A' c' w', FRow w' B A' c' (fs ++ [y]) → Below B w w' → Keep w w' → w.heap.size < w'.heap.size → K (a.put o.dst (.slice A' (k + 1) c')) w') :
    Oper.wp Tryz.prog o a (w.alloc (.cells #[.bool y.s, .slice y.A y.n y.c, .slice y.B y.m y.d] 37)) K Q := by
  subst hk
  obtain ⟨i, hi, hz, h1, h2⟩ := info_parts infoFrac
  have hnews : ∀ j u, y.cells[j]? = some u → (w.alloc (.cells #[.bool y.s, .slice y.A y.n y.c, .slice y.B y.m y.d] 37)).cell? ((⟨w.heap.size, 0, none⟩ : Addr).add j) = some u := by
    intro j u hj
    match j, hj with
    | 0, hj => simp [FE.cells] at hj; subst hj; exact al_at (by simp) _ rfl
    | 1, hj => simp [FE.cells] at hj; subst hj; exact al_at (by simp) _ rfl
    | 2, hj => simp [FE.cells] at hj; subst hj; exact al_at (by simp) _ rfl
    | j + 3, hj => simp [FE.cells] at hj
  have hone : ∀ u ∈ y.cells, u.oneCell' = true := by
    intro u hu
    simp [FE.cells] at hu
    rcases hu with rfl | rfl | rfl <;> rfl
  obtain ⟨v', w', hrun, h3, h4, h5, h6⟩ := run_append_ni (P := Tryz.prog) (w.alloc (.cells #[.bool y.s, .slice y.A y.n y.c, .slice y.B y.m y.d] 37)) B 123 o.type _ i _ 3 56 undFrac hi hz h1 h2 (by rfl) (by decide) (.slice A fs.length c) fs.length (fcells fs) (World.ownsRow.alloc hown.own _) ⟨w.heap.size, 0, none⟩ 1 1 y.cells rfl hnews hone (by omega) (by unfold maxLen; omega) (by omega) (by simp; omega)
    (fun g hg => by
      cases hA : A with
      | none => rw [hA] at hg; cases hg
      | some ad =>
        rw [hA] at hg
        simp [Value.ownBlock] at hg
        subst hg
        exact (hown.ni ad hA).ext (below_alloc _ _)) (fcells_ni fs) (by
      intro u hu
      simp [FE.cells] at hu
      rcases hu with rfl | rfl | rfl <;> rfl) (by decide)
  have hb : w.grownBy w' (Value.slice A fs.length c).ownBlock := ⟨h4.os, h4.tape, h4.output, Nat.le_trans (by simp) h4.size, fun k hk hne => (h4.block k (by simp; omega) hne).trans (Below.heap_alloc w _ k hk)⟩
  have hlt : w.heap.size < w'.heap.size := by have := h4.size; simp at this; omega
  obtain ⟨A', c', rfl⟩ : ∃ A' c', v' = .slice A' (fs.length + 1) c' := by
    rcases h3.2 with ⟨_, h0⟩ | ⟨g, cap, cur, hv, _⟩
    · omega
    · exact ⟨_, _, hv⟩
  have hfin := hK A' c' w' ⟨by rw [FOwn, fcells_snoc, List.length_append]; exact h3, fun ad e => h6 ad.block (by rw [e]; rfl)⟩ (below_of_grown hb hB fun k hk => ((World.ownsRow.lt hown.own) k hk).1) (((Keep.refl w).alloc _).trans h5) hlt
  unfold Oper.wp
  simp [execOp, hop, resolve, invoke, builtin, hs, hx, hrun, Result.andThen]
  exact hfin
theorem wp_fpush {ops : Array Oper} {rest : List Oper} {o : Oper} {a : Act} {Q : Exit → Act → World → Prop} (w : World) (hg : o.guard = none) (s x : Operand) (hop : o.op = Op.call { callee := Callee.builtin Builtin.append, args := #[s, x], argTypes := #[123, 123] })
    {B c k : Nat} {A : Option Addr} {fs : List FE} (y : FE) (hs : a.eval s = .slice A k c) (hk : k = fs.length) (hx : a.eval x = .slice (some ⟨w.heap.size, 0, none⟩) 1 1) (hown : FRow w B A c fs)
    (hl : fs.length ≤ 1000000) (hB : B ≤ w.heap.size)
    (hK : ∀ A' c' w', FRow w' B A' c' (fs ++ [y]) → Below B w w' → Keep w w' → w.heap.size < w'.heap.size → wpList Tryz.prog ops Q rest (a.put o.dst (.slice A' (k + 1) c')) w') :
    wpList Tryz.prog ops Q (o :: rest) a (w.alloc (.cells #[.bool y.s, .slice y.A y.n y.c, .slice y.B y.m y.d] 37)) :=
  wpList_plain hg fun _ hK' => op_fpush w s x hop y hs hk hx hown hl hB fun A' c' w' h1 h2 h3 h4 => hK' _ _ (hK A' c' w' h1 h2 h3 h4)
end Go.Proofs.YteleohgalknkiaaGreatDoor

namespace Go.Proofs.YteleohgalknkiaaGreatDoor
open Go.RowKit Go.Proofs Go

/-- the distances, as numbers -/
def dqs (l : List Int) (t : Int) : List Rat := l.map fun x => quo (mg x t) 2
theorem dqs_one {l : List Int} {j : Nat} (hj : j < l.length) (t : Int) : dqs (l.take (j + 1)) t = dqs (l.take j) t ++ [quo (mg (at0 l j) t) 2] := by
  rw [take_one hj, dqs, dqs, List.map_append]; rfl
theorem rsum_snoc (qs : List Rat) (q : Rat) : rsum (qs ++ [q]) = rsum qs + q := by simp [rsum, List.foldl_append]
theorem rsum_dqs (t : Int) (l : List Int) : ∀ j, j ≤ l.length → rsum (dqs (l.take j) t) = quo (sumM (l.take j) t) 2
  | 0, _ => by
    show rsum [] = quo 0 2
    rw [quo, Rat.div_def, Rat.intCast_zero, Rat.zero_mul]; rfl
  | j + 1, hj => by
    rw [dqs_one hj, rsum_snoc, rsum_dqs t l j (by omega), sumM_one hj, quo_add _ _ (by decide)]
theorem dev_quo (s : Int) {n : Nat} (h : 0 < n) : quo s 2 * (rv false n 1)⁻¹ = quo s (2 * (n : Int)) := by
  have h1 : (rv false n 1)⁻¹ = quo 1 (n : Int) := by
    rw [rv_inv, quo_rv 1 (by omega)]; rfl
  rw [h1, quo_mul _ _ (by decide) (by omega), Int.mul_one]
/-- fractions of one limb at hand -/
structure FQ (w : World) (fs : List FE) (qs : List Rat) : Prop where
  len : fs.length = qs.length
  fr : ∀ (i : Nat) (x : FE) (q : Rat), fs[i]? = some x → qs[i]? = some q → Fr w x.s x.A x.n x.c x.B x.m x.d q 1
theorem FQ.nil (w : World) : FQ w [] [] := ⟨rfl, fun i x q h => by simp at h⟩
theorem FQ.ext {w w' : World} {fs : List FE} {qs : List Rat} (h : FQ w fs qs) (hb : Below w.heap.size w w') : FQ w' fs qs := ⟨h.len, fun i x q h1 h2 => (h.fr i x q h1 h2).ext hb⟩
theorem FQ.stay {w w' : World} {fs : List FE} {qs : List Rat} (h : FQ w fs qs) (hb : Keep w w') : FQ w' fs qs := ⟨h.len, fun i x q h1 h2 => (h.fr i x q h1 h2).stay hb⟩
theorem FQ.fa {w : World} {fs : List FE} {qs : List Rat} (h : FQ w fs qs) : FA w fs qs := ⟨h.len, fun i x q h1 h2 => (h.fr i x q h1 h2).mono (by omega)⟩
theorem FQ.snoc {w : World} {fs : List FE} {qs : List Rat} (h : FQ w fs qs) {y : FE} {q : Rat} (hy : Fr w y.s y.A y.n y.c y.B y.m y.d q 1) : FQ w (fs ++ [y]) (qs ++ [q]) := ⟨by simp [h.len], fun i x p h1 h2 => by
  rcases Nat.lt_or_ge i fs.length with hi | hi
  · rw [List.getElem?_append_left hi] at h1
    rw [List.getElem?_append_left (by rw [← h.len]; exact hi)] at h2
    exact h.fr i x p h1 h2
  · rw [List.getElem?_append_right hi] at h1
    rw [List.getElem?_append_right (by rw [← h.len]; exact hi), ← h.len] at h2
    have hi0 : i - fs.length = 0 := by
      have := (List.getElem?_eq_some_iff.1 h1).1
      simp at this; omega
    rw [hi0] at h1 h2
    simp at h1 h2
    subst h1 h2
    exact hy⟩
set_option maxHeartbeats 2000000 in
set_option maxRecDepth 100000 in
theorem wdev_err {E : Int} (A : Option Addr) (c : Nat) (l : List Int) (w : World) (H : IEs w A l) (HL : l.length ≤ 9223372036854775807) (hE : Hid (someE l = E)) (hn : (E != 0) = true) :
    Calls Tryz.prog 48 #[.slice A l.length c] w (RetZE w E) := by
  go_enter Tryz.func48, Tryz.ntmps48
  go_wp2_with fail
  have HX := BL.one w #[.bool false, .slice none 0 0, .slice none 0 0] 37
  replace H := H.ext HX.below
  refine (wmedian_err A c l _ H HL hE hn).mono ?_
  rintro e u2 ⟨rfl, hb⟩
  replace HX := HX.ext hb
  replace H := H.ext hb
  clear hb
  go_upto_region 2 with fail
  have hl0 := HX.lt 0 rfl
  simp only [] at hl0
  replace HX := HX.new #[.bool false, .slice none 0 0, .slice none 0 0] 37
  simp only [List.cons_append, List.nil_append] at HX
  generalize u2.alloc (.cells #[.bool false, .slice none 0 0, .slice none 0 0] 37) = U2 at *
  generalize u2.heap.size = g2 at *
  have hc00 := HX.cell 0 0 rfl rfl
  have hf00 := HX.free 0 0 rfl
  have hc01 := HX.cell 0 1 rfl rfl
  have hf01 := HX.free 0 1 rfl
  have hc02 := HX.cell 0 2 rfl rfl
  have hf02 := HX.free 0 2 rfl
  try simp only [List.getElem_toArray, List.getElem_cons_zero, List.getElem_cons_succ] at hc00 hf00 hc01 hf01 hc02 hf02
  go_wp2
  clear hc00 hf00 hc01 hf01 hc02 hf02
  replace HX := HX.put3 0 rfl (by omega) (by intro k q hk hne; match k, hk with | 0, hk => (simp at hk; subst hk; simp at hne ⊢; try omega) | 1, hk => (simp at hk; subst hk; simp at hne ⊢; try omega) | k + 2, hk => simp at hk) (.bool false) (.slice none 0 0) (.slice none 0 0)
  simp only [List.set_cons_zero] at HX
  have hc00 := HX.cell 0 0 rfl rfl
  have hc01 := HX.cell 0 1 rfl rfl
  have hc02 := HX.cell 0 2 rfl rfl
  try simp only [List.getElem_toArray, List.getElem_cons_zero, List.getElem_cons_succ] at hc00 hc01 hc02
  exact bodyPost_ret (v := .tuple #[.agg #[.bool false, .slice none 0 0, .slice none 0 0], .int .i64 E]) (by simp [results, Tryz.results48, go_sem, hc00, hc01, hc02]) rfl ⟨rfl, HX.below⟩
set_option maxHeartbeats 4000000 in
set_option maxRecDepth 100000 in
theorem wdev_go {u : Rat} (A : Option Addr) (c : Nat) (l : List Int) (w : World) (H : IEs w A l) (hE : Hid (someE l = 0)) (hu : Hid (quo (sumM l (twi l)) (2 * (l.length : Int)) = u)) :
    Calls Tryz.prog 48 #[.slice A l.length c] w (RetGE w u 514) := by
  have hV := Lib.hid (someE_zero.1 hE.out)
  have h64 := hV.out.1
  have hpos := hV.out.2.2
  have HL : l.length ≤ 9223372036854775807 := by omega
  obtain ⟨md, hmd⟩ : ∃ md, Hid (quo (twi l) 2 = md) := ⟨_, Lib.hid rfl⟩
  have ht := Lib.hid (twi_bd hV.out.2.1 hpos)
  go_enter Tryz.func48, Tryz.ntmps48
  go_wp2_with fail
  have HX := BL.one w #[.bool false, .slice none 0 0, .slice none 0 0] 37
  replace H := H.ext HX.below
  refine (wmedian_go A c l _ H hE hmd).mono ?_
  rintro e u2 ⟨A2, c2, B2, d2, rfl, FM, hb⟩
  replace HX := HX.ext hb
  replace H := H.ext hb
  clear hb
  go_upto_region 2 with fail
  have hl0 := HX.lt 0 rfl
  simp only [] at hl0
  have hb := below_alloc u2 (.cells #[.bool (sg md), .slice A2 (dig (nu md)).length c2, .slice B2 (dig md.den).length d2] 37)
  replace HX := HX.new #[.bool (sg md), .slice A2 (dig (nu md)).length c2, .slice B2 (dig md.den).length d2] 37
  simp only [List.cons_append, List.nil_append] at HX
  replace H := H.ext hb
  replace FM := FM.ext hb
  clear hb
  generalize u2.alloc (.cells #[.bool (sg md), .slice A2 (dig (nu md)).length c2, .slice B2 (dig md.den).length d2] 37) = U2 at *
  generalize u2.heap.size = g2 at *
  go_upto_block 3 with fail
  obtain ⟨t, htt⟩ : ∃ t, twi l = t := ⟨_, rfl⟩
  rw [htt] at hmd hu ht
  obtain ⟨B0, hB0⟩ : ∃ B, U2.heap.size = B := ⟨_, rfl⟩
  have HO := FRow.nil U2 B0
  have HQ := FQ.nil U2
  have hg2 := HX.lt 1 rfl
  simp only [] at hg2
  go_loopg [6, 21] l.length (fun g u i wr => ∃ (j : Nat) (A6 : Option Addr) (c6 : Nat) (fs : List FE), j + g = l.length ∧ u = .slice A6 j c6 ∧ i = .int .i64 (j : Int) ∧ FRow wr B0 A6 c6 fs ∧ FQ wr fs (dqs (l.take j) t) ∧ Below U2.heap.size U2 wr)
  case atStart => exact ⟨0, none, 0, [], by omega, rfl, rfl, HO, HQ, Below.refl _ _⟩
  case round =>
    clear HO HQ
    obtain ⟨j, A6, c6, fs, hj, rfl, rfl, HO, HQ, hbw⟩ := hrel
    have hfl := Lib.hid (show fs.length = j by have := HQ.len; rw [this, dqs, List.length_map, List.length_take]; omega)
    replace HX := HX.ext hbw
    replace FM := FM.ext hbw
    have hsz := hbw.size
    by_cases hj0 : j < l.length
    · obtain ⟨ad, rfl, hbk, c0⟩ := (H.ext hbw).at_ (at0_get hj0)
      have hdq := Lib.hid (dqs_one hj0 t)
      have hz := hV.out.2.1 _ (at0_mem hj0)
      generalize at0 l j = x at *
      generalize dqs (l.take j) t = qs at *
      obtain ⟨z1, z2⟩ := hz
      obtain ⟨t1, t2⟩ := ht.out
      obtain ⟨qx, hqx⟩ : ∃ q, Hid (quo x 1 = q) := ⟨_, Lib.hid rfl⟩
      obtain ⟨dx, hdx⟩ : ∃ q, Hid (quo (2 * x - t) 2 = q) := ⟨_, Lib.hid rfl⟩
      have hsub : Hid (qx - md = dx) := Lib.hid (by rw [← hqx.out, ← hmd.out, ← hdx.out]; exact dist_quo x t)
      have zdx : Sz dx 1 := hdx.out ▸ quo_sz1 (by omega) (by omega) (by decide) (by decide)
      obtain ⟨sx, hsx⟩ : ∃ s, Hid (sgn dx = s) := ⟨_, Lib.hid rfl⟩
      have hsl : sx < 0 ↔ 2 * x < t := by rw [← hsx.out, ← hdx.out]; exact dist_sgn x t
      obtain ⟨ax, hax⟩ : ∃ q, Hid (quo (mg x t) 2 = q) := ⟨_, Lib.hid rfl⟩
      have hmb := mg_bd (x := x) (t := t) ⟨z1, z2⟩ ⟨by omega, by omega⟩
      have hmn := mg_nn x t
      have zax : Sz ax 1 := hax.out ▸ quo_sz1 (by omega) (by omega) (by decide) (by decide)
      have hneg := Lib.hid (fun h : 2 * x < t => show -dx = ax by rw [← hdx.out, ← hax.out]; exact dist_neg h)
      have hposx := Lib.hid (fun h : ¬ 2 * x < t => show ax = dx from Eq.symm <| by rw [← hdx.out, ← hax.out]; exact dist_pos h)
      rw [hax.out] at hdq
      clear hmb hmn
      go_upto_region 8 with fail
      clear c0 hbk
      have hA6 := HO.blk
      have HD : BL U2 wr [] := (BL.nil U2).ext hbw
      refine wp_region_x (al := [4]) (late := []) (dst := fun i => 9) (zt := fun _ => (#[.bool false, .slice none 0 0, .slice none 0 0], 37)) (B := wr.heap.size) (n := 4) (r := 1) (by kernel_rfl) (by kernel_rfl) (by decide) ?_ (by kernel_rfl) (by kernel_rfl) (by intro _ _ _ d _ h; cases d <;> exact h) (sz := 6) (by rfl) (by rfl) (Nat.le_refl _) ?_
      · intro i hi
        simp only [List.mem_cons, List.not_mem_nil, or_false] at hi
        subst hi
        exact ⟨_, rfl, rfl, rfl, rfl, fun _ _ => by kernel_rfl⟩
      have hE : Ext wr wr.drew := drew_ext wr
      replace HX := HX.ext hE
      replace HO := HO.ext hE
      replace HQ := HQ.ext hE
      replace FM := FM.ext hE
      replace HD := HD.ext hE
      clear hE
      refine wpX_take (i := 0) (v := .int .i64 x) rfl (by kernel_rfl) (by kernel_rfl) (by kernel_rfl) (fun _ _ _ h => h) (Or.inl ⟨by rfl, fun W hW => ?_⟩) ?_
      · go_simp
        try rfl
      try simp only [Act.put, List.setIfInBounds_toArray]
      refine wpX_take (i := 2) (v := .agg #[.bool (sg md), .slice A2 (dig (nu md)).length c2, .slice B2 (dig md.den).length d2]) rfl (by kernel_rfl) (by kernel_rfl) (by kernel_rfl) (fun _ _ _ h => h) (Or.inl ⟨by rfl, fun W hW => ?_⟩) ?_
      · have h0 := (HX.ext hW).cell 1 0 rfl rfl
        have h1 := (HX.ext hW).cell 1 1 rfl rfl
        have h2 := (HX.ext hW).cell 1 2 rfl rfl
        simp only [] at h0 h1 h2
        go_simp
        try rfl
      try simp only [Act.put]
      refine wpX_step (i := 1) (by kernel_rfl) rfl (fun W1 K hE hK => ?_)
      replace HX := HX.ext hE
      replace HO := HO.ext hE
      replace HQ := HQ.ext hE
      replace FM := FM.ext hE
      replace HD := HD.ext hE
      clear hE
      go_simp
      refine (fof_q (y := 1) (by decide) hqx (by omega) (by omega) (by decide) rfl).mono ?_
      rintro e W2 ⟨A3, c3, B3, d3, rfl, F3, hb⟩
      go_wp2_with fail
      refine hK.out _ _ hb ?_
      clear hK K
      replace HX := HX.ext hb
      replace HO := HO.ext hb
      replace HQ := HQ.ext hb
      replace FM := FM.ext hb
      replace HD := HD.ext hb
      clear hb
      try simp only [Act.put, List.setIfInBounds_toArray, List.set_cons_zero, List.set_cons_succ]
      skip
      refine wpX_step (i := 3) (by kernel_rfl) rfl (fun W1 K hE hK => ?_)
      replace HX := HX.ext hE
      replace HO := HO.ext hE
      replace HQ := HQ.ext hE
      replace FM := FM.ext hE
      replace HD := HD.ext hE
      replace F3 := F3.ext hE
      clear hE
      go_simp
      refine (fsub_h hsub zdx F3.fr FM.fr (by omega) (by omega)).mono ?_
      rintro e W2 ⟨A4, c4, B4, d4, rfl, F4, hb⟩
      go_wp2_with fail
      refine hK.out _ _ hb ?_
      clear hK K
      replace HX := HX.ext hb
      replace HO := HO.ext hb
      replace HQ := HQ.ext hb
      replace FM := FM.ext hb
      replace HD := HD.ext hb
      replace F3 := F3.ext hb
      clear hb
      try simp only [Act.put, List.setIfInBounds_toArray, List.set_cons_zero, List.set_cons_succ]
      skip
      refine wpX_end (by kernel_rfl) (fun W5 ga m hE hg hm => ?_)
      replace HX := HX.ext hE
      replace HO := HO.ext hE
      replace HQ := HQ.ext hE
      replace FM := FM.ext hE
      replace HD := HD.ext hE
      replace F3 := F3.ext hE
      replace F4 := F4.ext hE
      clear hE
      obtain ⟨hlg5, hkg5⟩ := hg.1 4 (by simp)
      clear hg
      simp only [putAll]
      try simp only [Act.put, List.setIfInBounds_toArray, List.set_cons_zero, List.set_cons_succ]
      generalize ga 4 = g5 at *
      clear ga
      replace HX := HX.add hkg5
      clear hkg5
      simp only [List.cons_append, List.nil_append] at HX
      clear F3 FM
      have hc20 := HX.cell 2 0 rfl rfl
      have hf20 := HX.free 2 0 rfl
      have hc21 := HX.cell 2 1 rfl rfl
      have hf21 := HX.free 2 1 rfl
      have hc22 := HX.cell 2 2 rfl rfl
      have hf22 := HX.free 2 2 rfl
      try simp only [List.getElem_toArray, List.getElem_cons_zero, List.getElem_cons_succ] at hc20 hf20 hc21 hf21 hc22 hf22
      refine wpAny_step (i := 5) (by kernel_rfl) rfl (by omega) (fun K hK => ?_)
      go_simp
      refine hK.out _ _ ?_
      clear hK K
      clear hc20 hf20 hc21 hf21 hc22 hf22
      have hk := HX.keep3 2 rfl rfl rfl rfl (by omega) (.bool (sg dx)) (.slice A4 (dig (nu dx)).length c4) (.slice B4 (dig dx.den).length d4)
      replace HX := HX.put3 2 rfl (by omega) (by intro k q hk hne; match k, hk with | 0, hk => (simp at hk; subst hk; simp at hne ⊢; try omega) | 1, hk => (simp at hk; subst hk; simp at hne ⊢; try omega) | 2, hk => (simp at hk; subst hk; simp at hne ⊢; try omega) | k + 3, hk => simp at hk) (.bool (sg dx)) (.slice A4 (dig (nu dx)).length c4) (.slice B4 (dig dx.den).length d4)
      replace HQ := HQ.stay hk
      replace F4 := F4.stay hk
      clear hk
      simp only [List.set_cons_zero, List.set_cons_succ] at HX
      replace HO := HO.far (p := ⟨g5, 0, none⟩) (fun ad h => show ad.block ≠ g5 by have := hA6 ad h; omega) (.bool (sg dx))
      replace HD : BL U2 _ [] := ⟨bel_set (p := ⟨g5, 0, none⟩) HD.below (by simp; omega) (.bool (sg dx)), fun i p hp => by simp at hp⟩
      replace HO := HO.far (p := ⟨g5, 1, none⟩) (fun ad h => show ad.block ≠ g5 by have := hA6 ad h; omega) (.slice A4 (dig (nu dx)).length c4)
      replace HD : BL U2 _ [] := ⟨bel_set (p := ⟨g5, 1, none⟩) HD.below (by simp; omega) (.slice A4 (dig (nu dx)).length c4), fun i p hp => by simp at hp⟩
      replace HO := HO.far (p := ⟨g5, 2, none⟩) (fun ad h => show ad.block ≠ g5 by have := hA6 ad h; omega) (.slice B4 (dig dx.den).length d4)
      replace HD : BL U2 _ [] := ⟨bel_set (p := ⟨g5, 2, none⟩) HD.below (by simp; omega) (.slice B4 (dig dx.den).length d4), fun i p hp => by simp at hp⟩
      generalize ((W5.setCell ⟨g5, 0, none⟩ (.bool (sg dx))).setCell ⟨g5, 1, none⟩ (.slice A4 (dig (nu dx)).length c4)).setCell ⟨g5, 2, none⟩ (.slice B4 (dig dx.den).length d4) = W6 at *
      refine wpAny_done (by kernel_rfl) ?_ _
      have hc20 := HX.cell 2 0 rfl rfl
      have hc21 := HX.cell 2 1 rfl rfl
      have hc22 := HX.cell 2 2 rfl rfl
      try simp only [List.getElem_toArray, List.getElem_cons_zero, List.getElem_cons_succ] at hc20 hc21 hc22
      go_wp2_with fail
      refine (fsign_h hsx F4.fr (by omega)).mono ?_
      rintro e u7 ⟨rfl, hb⟩
      clear hc20 hc21 hc22
      replace HX := HX.ext hb
      replace HO := HO.ext hb
      replace HQ := HQ.ext hb
      replace HD := HD.ext hb
      replace F4 := F4.ext hb
      clear hb
      have hj2 : j ≤ 64 := by omega
      by_cases hs0 : sx < 0
      · have hd0 : decide (sx < 0) = true := decide_eq_true hs0
        have hnq := Lib.hid (hneg.out (hsl.1 hs0))
        clear hneg hposx hsl
        have hc20 := HX.cell 2 0 rfl rfl
        have hc21 := HX.cell 2 1 rfl rfl
        have hc22 := HX.cell 2 2 rfl rfl
        try simp only [List.getElem_toArray, List.getElem_cons_zero, List.getElem_cons_succ] at hc20 hc21 hc22
        go_wp2_with fail
        refine (fneg_h hnq zax F4.fr (by omega)).mono ?_
        rintro e u9 ⟨A9, c9, B9, d9, rfl, F9, hb⟩
        clear hc20 hc21 hc22
        replace HX := HX.ext hb
        replace HO := HO.ext hb
        replace HQ := HQ.ext hb
        replace HD := HD.ext hb
        clear hb
        clear F4
        have hc20 := HX.cell 2 0 rfl rfl
        have hf20 := HX.free 2 0 rfl
        have hc21 := HX.cell 2 1 rfl rfl
        have hf21 := HX.free 2 1 rfl
        have hc22 := HX.cell 2 2 rfl rfl
        have hf22 := HX.free 2 2 rfl
        try simp only [List.getElem_toArray, List.getElem_cons_zero, List.getElem_cons_succ] at hc20 hf20 hc21 hf21 hc22 hf22
        go_upto_region 11 with fail
        clear hc20 hf20 hc21 hf21 hc22 hf22
        have hk := HX.keep3 2 rfl rfl rfl rfl (by omega) (.bool (sg ax)) (.slice A9 (dig (nu ax)).length c9) (.slice B9 (dig ax.den).length d9)
        replace HX := HX.put3 2 rfl (by omega) (by intro k q hk hne; match k, hk with | 0, hk => (simp at hk; subst hk; simp at hne ⊢; try omega) | 1, hk => (simp at hk; subst hk; simp at hne ⊢; try omega) | 2, hk => (simp at hk; subst hk; simp at hne ⊢; try omega) | k + 3, hk => simp at hk) (.bool (sg ax)) (.slice A9 (dig (nu ax)).length c9) (.slice B9 (dig ax.den).length d9)
        replace HQ := HQ.stay hk
        replace F9 := F9.stay hk
        clear hk
        simp only [List.set_cons_zero, List.set_cons_succ] at HX
        replace HO := HO.far (p := ⟨g5, 0, none⟩) (fun ad h => show ad.block ≠ g5 by have := hA6 ad h; omega) (.bool (sg ax))
        replace HD : BL U2 _ [] := ⟨bel_set (p := ⟨g5, 0, none⟩) HD.below (by simp; omega) (.bool (sg ax)), fun i p hp => by simp at hp⟩
        replace HO := HO.far (p := ⟨g5, 1, none⟩) (fun ad h => show ad.block ≠ g5 by have := hA6 ad h; omega) (.slice A9 (dig (nu ax)).length c9)
        replace HD : BL U2 _ [] := ⟨bel_set (p := ⟨g5, 1, none⟩) HD.below (by simp; omega) (.slice A9 (dig (nu ax)).length c9), fun i p hp => by simp at hp⟩
        replace HO := HO.far (p := ⟨g5, 2, none⟩) (fun ad h => show ad.block ≠ g5 by have := hA6 ad h; omega) (.slice B9 (dig ax.den).length d9)
        replace HD : BL U2 _ [] := ⟨bel_set (p := ⟨g5, 2, none⟩) HD.below (by simp; omega) (.slice B9 (dig ax.den).length d9), fun i p hp => by simp at hp⟩
        generalize ((u9.setCell ⟨g5, 0, none⟩ (.bool (sg ax))).setCell ⟨g5, 1, none⟩ (.slice A9 (dig (nu ax)).length c9)).setCell ⟨g5, 2, none⟩ (.slice B9 (dig ax.den).length d9) = V9 at *
        have hc20 := HX.cell 2 0 rfl rfl
        have hc21 := HX.cell 2 1 rfl rfl
        have hc22 := HX.cell 2 2 rfl rfl
        try simp only [List.getElem_toArray, List.getElem_cons_zero, List.getElem_cons_succ] at hc20 hc21 hc22
        go_wp2_with (at_builtin; refine wp_fpush _ rfl _ _ rfl (⟨sg ax, A9, (dig (nu ax)).length, c9, B9, (dig ax.den).length, d9⟩ : FE) rfl hfl.out.symm rfl HO (by rw [hfl.out]; omega) (by have := HD.below.size; omega) ?_)
        intro A11 c11 u11 HO2 hb11 hk11 _
        clear hc20 hc21 hc22
        have hD2 : Below U2.heap.size U2 u11 := HD.below.trans (by rw [hB0]; exact hb11)
        have hQ2 := (HQ.snoc (y := (⟨sg ax, A9, (dig (nu ax)).length, c9, B9, (dig ax.den).length, d9⟩ : FE)) F9.fr).stay hk11
        rw [← hdq.out] at hQ2
        go_wp2
        go_roundg (l.length - (j + 1))
        case measure => omega
        case rel => exact ⟨j + 1, A11, c11, _, by omega, by go_num, by go_num, HO2, hQ2, hD2⟩
      · have hd0 : decide (sx < 0) = false := decide_eq_false hs0
        have hnq := hposx.out (by have := fun h => hs0 (hsl.2 h); omega)
        clear hneg hposx hsl
        subst hnq
        go_upto_region 11 with fail
        have hc20 := HX.cell 2 0 rfl rfl
        have hc21 := HX.cell 2 1 rfl rfl
        have hc22 := HX.cell 2 2 rfl rfl
        try simp only [List.getElem_toArray, List.getElem_cons_zero, List.getElem_cons_succ] at hc20 hc21 hc22
        go_wp2_with (at_builtin; refine wp_fpush _ rfl _ _ rfl (⟨sg ax, A4, (dig (nu ax)).length, c4, B4, (dig ax.den).length, d4⟩ : FE) rfl hfl.out.symm rfl HO (by rw [hfl.out]; omega) (by have := HD.below.size; omega) ?_)
        intro A11 c11 u11 HO2 hb11 hk11 _
        clear hc20 hc21 hc22
        have hD2 : Below U2.heap.size U2 u11 := HD.below.trans (by rw [hB0]; exact hb11)
        have hQ2 := (HQ.snoc (y := (⟨sg ax, A4, (dig (nu ax)).length, c4, B4, (dig ax.den).length, d4⟩ : FE)) F4.fr).stay hk11
        rw [← hdq.out] at hQ2
        go_wp2
        go_roundg (l.length - (j + 1))
        case measure => omega
        case rel => exact ⟨j + 1, A11, c11, _, by omega, by go_num, by go_num, HO2, hQ2, hD2⟩
    · have hjl : l.take j = l := List.take_of_length_le (by omega)
      rw [hjl] at HQ
      have hjn : j = l.length := by omega
      subst hjn
      have hmean : Hid (rsum (dqs l t) * (rv false l.length 1)⁻¹ = u) := Lib.hid (by
        have h1 := rsum_dqs t l l.length (Nat.le_refl _)
        rw [List.take_length] at h1
        rw [h1, dev_quo _ hpos]; exact hu.out)
      have hl00 := HX.lt 0 rfl
      simp only [] at hl00
      go_wp2_with fail
      refine (fmean_any A6 l.length c6 fs (dqs l t) u _ HO.row HQ.fa hfl.out.symm h64 hpos hmean).mono ?_
      rintro e u5 ⟨A5, c5, B5, d5, rfl, F5, hb⟩
      replace HX := HX.ext hb
      clear hb
      have hc00 := HX.cell 0 0 rfl rfl
      have hf00 := HX.free 0 0 rfl
      have hc01 := HX.cell 0 1 rfl rfl
      have hf01 := HX.free 0 1 rfl
      have hc02 := HX.cell 0 2 rfl rfl
      have hf02 := HX.free 0 2 rfl
      try simp only [List.getElem_toArray, List.getElem_cons_zero, List.getElem_cons_succ] at hc00 hf00 hc01 hf01 hc02 hf02
      go_wp2
      clear hc00 hf00 hc01 hf01 hc02 hf02
      have hk := HX.keep3 0 rfl rfl rfl rfl (by omega) (.bool (sg u)) (.slice A5 (dig (nu u)).length c5) (.slice B5 (dig u.den).length d5)
      replace HX := HX.put3 0 rfl (by omega) (by intro k q hk hne; match k, hk with | 0, hk => (simp at hk; subst hk; simp at hne ⊢; try omega) | 1, hk => (simp at hk; subst hk; simp at hne ⊢; try omega) | k + 2, hk => simp at hk) (.bool (sg u)) (.slice A5 (dig (nu u)).length c5) (.slice B5 (dig u.den).length d5)
      replace F5 := F5.stay hk
      clear hk
      simp only [List.set_cons_zero] at HX
      have hc00 := HX.cell 0 0 rfl rfl
      have hc01 := HX.cell 0 1 rfl rfl
      have hc02 := HX.cell 0 2 rfl rfl
      try simp only [List.getElem_toArray, List.getElem_cons_zero, List.getElem_cons_succ] at hc00 hc01 hc02
      exact bodyPost_ret (v := .tuple #[.agg #[.bool (sg u), .slice A5 (dig (nu u)).length c5, .slice B5 (dig u.den).length d5], .int .i64 0]) (by simp [results, Tryz.results48, go_sem, hc00, hc01, hc02]) rfl ⟨A5, c5, B5, d5, rfl, F5, HX.below⟩
end Go.Proofs.YteleohgalknkiaaGreatDoor
