/- The coefficient and the distance of two valid hoards. -/
import Derived.Test.YthempimelfmipaaGreatDoorHq
import Derived.Test.YthempimelfmipaaGreatDoorHops
import Derived.Test.YthempimelfmipaaGreatDoorQMath
import Derived.Test.YthempimelfmipaaGreatDoorDMath
import Derived.Test.YthempimelfmipaaGreatDoorHd
import Derived.Test.YthempimelfmipaaGreatDoorHb
import Derived.Test.YthempimelfmipaaGreatDoorHmM
import Derived.Test.YthempimelfmipaaGreatDoorHoist
namespace Go.Proofs.YthempimelfmipaaGreatDoor
open Go.RowKit Go.Proofs Go

/-- the number that a share is -/
def shq (l : List (Int × Int)) (s : Int) : Rat := rv (!(decide (numE l s < 0) == decide (totE l < 0))) (numE l s).natAbs (totE l).natAbs
theorem shq_sz {id f t : Int} {l : List (Int × Int)} (h : HV id l f t) (s : Int) : Sz (shq l s) 1 := by
  have h1 := h.num l.length s
  have h2 := h.tot l.length
  rw [List.take_length] at h1 h2
  exact sz_lit _ (by omega) (by omega)
set_option maxRecDepth 100000 in
theorem hshare_no {id f t s : Int} (A : Option Addr) (c : Nat) (l : List (Int × Int)) (w : World) (H : Es w A l) (hl : l.length ≤ 9223372036854775807) (hv : ¬ HV id l f t) :
    Calls Tryz.prog 16 #[.agg #[.int .i64 id, .slice A l.length c, .int .i64 f, .int .i64 t], .int .i64 s] w (RetZE w 1) := by
  have HV1 := no hv
  clear hv
  go_enter Tryz.func16, Tryz.ntmps16
  go_wp2_with fail
  have HX := BL.two w #[.int .i64 id, .slice A l.length c, .int .i64 f, .int .i64 t] #[.bool false, .slice none 0 0, .slice none 0 0] 26 33
  replace H := H.ext HX.below
  refine (hvalid_any (b := false) A c l _ H hl HV1).mono ?_
  rintro e w1 ⟨rfl, hb⟩
  replace HX := HX.ext hb
  replace H := H.ext hb
  clear hb
  have hc10 := HX.cell 1 0 rfl rfl
  have hf10 := HX.free 1 0 rfl
  have hc11 := HX.cell 1 1 rfl rfl
  have hf11 := HX.free 1 1 rfl
  have hc12 := HX.cell 1 2 rfl rfl
  have hf12 := HX.free 1 2 rfl
  try simp only [List.getElem_toArray, List.getElem_cons_zero, List.getElem_cons_succ] at hc10 hf10 hc11 hf11 hc12 hf12
  go_wp2
  clear hc10 hf10 hc11 hf11 hc12 hf12
  replace HX := HX.put3 1 rfl (by omega) (by intro k q hk hne; match k, hk with | 0, hk => (simp at hk; subst hk; simp at hne ⊢; try omega) | 1, hk => (simp at hk; subst hk; simp at hne ⊢; try omega) | k + 2, hk => simp at hk) (.bool false) (.slice none 0 0) (.slice none 0 0)
  simp only [List.set_cons_zero, List.set_cons_succ] at HX
  have hc10 := HX.cell 1 0 rfl rfl
  have hc11 := HX.cell 1 1 rfl rfl
  have hc12 := HX.cell 1 2 rfl rfl
  try simp only [List.getElem_toArray, List.getElem_cons_zero, List.getElem_cons_succ] at hc10 hc11 hc12
  exact bodyPost_ret (v := .tuple #[.agg #[.bool false, .slice none 0 0, .slice none 0 0], .int .i64 1]) (by simp [results, Tryz.results16, go_sem, hc10, hc11, hc12]) rfl ⟨rfl, HX.below⟩
set_option maxHeartbeats 2000000 in
set_option maxRecDepth 100000 in
theorem hshare_yes {id f t s : Int} {q : Rat} (A : Option Addr) (c : Nat) (l : List (Int × Int)) (w : World) (H : Es w A l) (hl : l.length ≤ 9223372036854775807) (hv : HV id l f t) (hq : Hid (shq l s = q)) :
    Calls Tryz.prog 16 #[.agg #[.int .i64 id, .slice A l.length c, .int .i64 f, .int .i64 t], .int .i64 s] w (RetGE w q 1) := by
  have HV1 := yes hv
  have NN : NumIs id l f t s (numE l s) := ⟨fun _ => rfl, fun h => absurd hv h⟩
  have NT : TotIs id l f t (totE l) := ⟨fun _ => rfl, fun h => absurd hv h⟩
  have hSz : Sz q 1 := hq.out ▸ shq_sz hv s
  obtain ⟨b1, b2⟩ := NN.bd
  obtain ⟨b3, b4⟩ := NT.bd
  have HQ : Hid (rv (!(decide (numE l s < 0) == decide (totE l < 0))) (numE l s).natAbs (totE l).natAbs = q) := hq
  clear hv hq
  generalize numE l s = n at *
  generalize totE l = m at *
  go_enter Tryz.func16, Tryz.ntmps16
  go_wp2_with fail
  have HX := BL.two w #[.int .i64 id, .slice A l.length c, .int .i64 f, .int .i64 t] #[.bool false, .slice none 0 0, .slice none 0 0] 26 33
  replace H := H.ext HX.below
  refine (hvalid_any (b := true) A c l _ H hl HV1).mono ?_
  rintro e w1 ⟨rfl, hb⟩
  replace HX := HX.ext hb
  replace H := H.ext hb
  clear hb
  go_upto_region 3 with fail
  have held : ∀ {W' : World} {u : Array Value}, BL w W' [(w.heap.size, #[.int .i64 id, .slice A l.length c, .int .i64 f, .int .i64 t], 26), (w.heap.size + 1, u, 33)] → W'.cell? ⟨w.heap.size, 0, none⟩ = some (.int .i64 id) ∧ W'.cell? ⟨w.heap.size, 1, none⟩ = some (.slice A l.length c) ∧ W'.cell? ⟨w.heap.size, 2, none⟩ = some (.int .i64 f) ∧ W'.cell? ⟨w.heap.size, 3, none⟩ = some (.int .i64 t) := fun h => ⟨h.cell 0 0 rfl rfl, h.cell 0 1 rfl rfl, h.cell 0 2 rfl rfl, h.cell 0 3 rfl rfl⟩
  replace HX := HX.ext (drew_ext _)
  replace H := H.ext (drew_ext _)
  go_region_held3 (fun W' => W'.cell? ⟨w.heap.size, 0, none⟩ = some (.int .i64 id) ∧ W'.cell? ⟨w.heap.size, 1, none⟩ = some (.slice A l.length c) ∧ W'.cell? ⟨w.heap.size, 2, none⟩ = some (.int .i64 f) ∧ W'.cell? ⟨w.heap.size, 3, none⟩ = some (.int .i64 t))
    (first | exact held HX | exact held (HX.put3 1 rfl (by omega) (by intro k q hk hne; match k, hk with | 0, hk => (simp at hk; subst hk; simp at hne ⊢; try omega) | 1, hk => (simp at hk; subst hk; simp at hne ⊢; try omega) | k + 2, hk => simp at hk) _ _ _))
    (first
      | (go_at_call 46; refine (hnumber_any A c l _ H hl NN).mono ?_; rintro e w3 ⟨rfl, hb⟩; replace HX := HX.ext hb; replace H := H.ext hb; clear hb)
      | (go_at_call 47; refine (htotal_any A c l _ H hl NT).mono ?_; rintro e w4 ⟨rfl, hb⟩; replace HX := HX.ext hb; replace H := H.ext hb; clear hb)
      | (go_at_call 19; refine (fof_h HQ hSz (by omega) (by omega) (by omega) (by omega)).mono ?_; rintro e w5 ⟨A5, c5, B5, d5, rfl, F5, hb⟩; replace HX := HX.ext hb; clear hb; have hc10 := HX.cell 1 0 rfl rfl; have hf10 := HX.free 1 0 rfl; have hc11 := HX.cell 1 1 rfl rfl; have hf11 := HX.free 1 1 rfl; have hc12 := HX.cell 1 2 rfl rfl; have hf12 := HX.free 1 2 rfl; (try simp only [List.getElem_toArray, List.getElem_cons_zero, List.getElem_cons_succ] at hc10 hf10 hc11 hf11 hc12 hf12)))
  all_goals (
    clear held hc10 hc11 hc12 hf10 hf11 hf12
    have hk := HX.keep3 1 rfl rfl rfl rfl (by omega) (.bool (sg q)) (.slice A5 (dig (nu q)).length c5) (.slice B5 (dig q.den).length d5)
    replace HX := HX.put3 1 rfl (by omega) (by intro k q hk hne; match k, hk with | 0, hk => (simp at hk; subst hk; simp at hne ⊢; try omega) | 1, hk => (simp at hk; subst hk; simp at hne ⊢; try omega) | k + 2, hk => simp at hk) (.bool (sg q)) (.slice A5 (dig (nu q)).length c5) (.slice B5 (dig q.den).length d5)
    replace F5 := F5.stay hk
    clear hk
    simp only [List.set_cons_zero, List.set_cons_succ] at HX
    have hc10 := HX.cell 1 0 rfl rfl
    have hc11 := HX.cell 1 1 rfl rfl
    have hc12 := HX.cell 1 2 rfl rfl
    try simp only [List.getElem_toArray, List.getElem_cons_zero, List.getElem_cons_succ] at hc10 hc11 hc12
    go_wp2
    exact bodyPost_ret (v := .tuple #[.agg #[.bool (sg q), .slice A5 (dig (nu q)).length c5, .slice B5 (dig q.den).length d5], .int .i64 0]) (by simp [results, Tryz.results16, go_sem, hc10, hc11, hc12]) rfl ⟨A5, c5, B5, d5, rfl, F5, HX.below⟩)
set_option maxRecDepth 100000 in
theorem rshare_no {id f t s : Int} (A : Option Addr) (c : Nat) (l : List (Int × Int)) (w : World) (H : Es w A l) (hl : l.length ≤ 9223372036854775807) (hv : ¬ HV id l f t) :
    Calls Tryz.prog 64 #[.agg #[.int .i64 id, .slice A l.length c, .int .i64 f, .int .i64 t], .int .i64 s] w (RetZE w 1) := by
  have HV1 := no hv
  clear hv
  go_enter Tryz.func64, Tryz.ntmps64
  go_wp2_with fail
  have HX := BL.two w #[.int .i64 id, .slice A l.length c, .int .i64 f, .int .i64 t] #[.bool false, .slice none 0 0, .slice none 0 0] 26 33
  replace H := H.ext HX.below
  refine (bhoard_any (b := false) A c l _ H hl HV1).mono ?_
  rintro e w1 ⟨rfl, hb⟩
  replace HX := HX.ext hb
  replace H := H.ext hb
  clear hb
  have hc10 := HX.cell 1 0 rfl rfl
  have hf10 := HX.free 1 0 rfl
  have hc11 := HX.cell 1 1 rfl rfl
  have hf11 := HX.free 1 1 rfl
  have hc12 := HX.cell 1 2 rfl rfl
  have hf12 := HX.free 1 2 rfl
  try simp only [List.getElem_toArray, List.getElem_cons_zero, List.getElem_cons_succ] at hc10 hf10 hc11 hf11 hc12 hf12
  go_wp2
  clear hc10 hf10 hc11 hf11 hc12 hf12
  replace HX := HX.put3 1 rfl (by omega) (by intro k q hk hne; match k, hk with | 0, hk => (simp at hk; subst hk; simp at hne ⊢; try omega) | 1, hk => (simp at hk; subst hk; simp at hne ⊢; try omega) | k + 2, hk => simp at hk) (.bool false) (.slice none 0 0) (.slice none 0 0)
  simp only [List.set_cons_zero, List.set_cons_succ] at HX
  have hc10 := HX.cell 1 0 rfl rfl
  have hc11 := HX.cell 1 1 rfl rfl
  have hc12 := HX.cell 1 2 rfl rfl
  try simp only [List.getElem_toArray, List.getElem_cons_zero, List.getElem_cons_succ] at hc10 hc11 hc12
  exact bodyPost_ret (v := .tuple #[.agg #[.bool false, .slice none 0 0, .slice none 0 0], .int .i64 1]) (by simp [results, Tryz.results64, go_sem, hc10, hc11, hc12]) rfl ⟨rfl, HX.below⟩
set_option maxHeartbeats 2000000 in
set_option maxRecDepth 100000 in
theorem rshare_yes {id f t s : Int} {q : Rat} (A : Option Addr) (c : Nat) (l : List (Int × Int)) (w : World) (H : Es w A l) (hl : l.length ≤ 9223372036854775807) (hv : HV id l f t) (hq : Hid (shq l s = q)) :
    Calls Tryz.prog 64 #[.agg #[.int .i64 id, .slice A l.length c, .int .i64 f, .int .i64 t], .int .i64 s] w (RetGE w q 1) := by
  have HV1 := yes hv
  have NN : NumIs id l f t s (numE l s) := ⟨fun _ => rfl, fun h => absurd hv h⟩
  have NT : TotIs id l f t (totE l) := ⟨fun _ => rfl, fun h => absurd hv h⟩
  have hSz : Sz q 1 := hq.out ▸ shq_sz hv s
  obtain ⟨b1, b2⟩ := NN.bd
  obtain ⟨b3, b4⟩ := NT.bd
  have HQ : Hid (rv (!(decide (numE l s < 0) == decide (totE l < 0))) (numE l s).natAbs (totE l).natAbs = q) := hq
  clear hv hq
  generalize numE l s = n at *
  generalize totE l = m at *
  go_enter Tryz.func64, Tryz.ntmps64
  go_wp2_with fail
  have HX := BL.two w #[.int .i64 id, .slice A l.length c, .int .i64 f, .int .i64 t] #[.bool false, .slice none 0 0, .slice none 0 0] 26 33
  replace H := H.ext HX.below
  refine (bhoard_any (b := true) A c l _ H hl HV1).mono ?_
  rintro e w1 ⟨rfl, hb⟩
  replace HX := HX.ext hb
  replace H := H.ext hb
  clear hb
  go_upto_region 3 with fail
  have held : ∀ {W' : World} {u : Array Value}, BL w W' [(w.heap.size, #[.int .i64 id, .slice A l.length c, .int .i64 f, .int .i64 t], 26), (w.heap.size + 1, u, 33)] → W'.cell? ⟨w.heap.size, 0, none⟩ = some (.int .i64 id) ∧ W'.cell? ⟨w.heap.size, 1, none⟩ = some (.slice A l.length c) ∧ W'.cell? ⟨w.heap.size, 2, none⟩ = some (.int .i64 f) ∧ W'.cell? ⟨w.heap.size, 3, none⟩ = some (.int .i64 t) := fun h => ⟨h.cell 0 0 rfl rfl, h.cell 0 1 rfl rfl, h.cell 0 2 rfl rfl, h.cell 0 3 rfl rfl⟩
  replace HX := HX.ext (drew_ext _)
  replace H := H.ext (drew_ext _)
  go_region_held3 (fun W' => W'.cell? ⟨w.heap.size, 0, none⟩ = some (.int .i64 id) ∧ W'.cell? ⟨w.heap.size, 1, none⟩ = some (.slice A l.length c) ∧ W'.cell? ⟨w.heap.size, 2, none⟩ = some (.int .i64 f) ∧ W'.cell? ⟨w.heap.size, 3, none⟩ = some (.int .i64 t))
    (first | exact held HX | exact held (HX.put3 1 rfl (by omega) (by intro k q hk hne; match k, hk with | 0, hk => (simp at hk; subst hk; simp at hne ⊢; try omega) | 1, hk => (simp at hk; subst hk; simp at hne ⊢; try omega) | k + 2, hk => simp at hk) _ _ _))
    (first
      | (go_at_call 96; refine (rnumber_any A c l _ H hl NN).mono ?_; rintro e w3 ⟨rfl, hb⟩; replace HX := HX.ext hb; replace H := H.ext hb; clear hb)
      | (go_at_call 97; refine (rtotal_any A c l _ H hl NT).mono ?_; rintro e w4 ⟨rfl, hb⟩; replace HX := HX.ext hb; replace H := H.ext hb; clear hb)
      | (go_at_call 63; refine (qof_h HQ hSz (by omega) (by omega) (by omega) (by omega)).mono ?_; rintro e w5 ⟨A5, c5, B5, d5, rfl, F5, hb⟩; replace HX := HX.ext hb; clear hb; have hc10 := HX.cell 1 0 rfl rfl; have hf10 := HX.free 1 0 rfl; have hc11 := HX.cell 1 1 rfl rfl; have hf11 := HX.free 1 1 rfl; have hc12 := HX.cell 1 2 rfl rfl; have hf12 := HX.free 1 2 rfl; (try simp only [List.getElem_toArray, List.getElem_cons_zero, List.getElem_cons_succ] at hc10 hf10 hc11 hf11 hc12 hf12)))
  all_goals (
    clear held hc10 hc11 hc12 hf10 hf11 hf12
    have hk := HX.keep3 1 rfl rfl rfl rfl (by omega) (.bool (sg q)) (.slice A5 (dig (nu q)).length c5) (.slice B5 (dig q.den).length d5)
    replace HX := HX.put3 1 rfl (by omega) (by intro k q hk hne; match k, hk with | 0, hk => (simp at hk; subst hk; simp at hne ⊢; try omega) | 1, hk => (simp at hk; subst hk; simp at hne ⊢; try omega) | k + 2, hk => simp at hk) (.bool (sg q)) (.slice A5 (dig (nu q)).length c5) (.slice B5 (dig q.den).length d5)
    replace F5 := F5.stay hk
    clear hk
    simp only [List.set_cons_zero, List.set_cons_succ] at HX
    have hc10 := HX.cell 1 0 rfl rfl
    have hc11 := HX.cell 1 1 rfl rfl
    have hc12 := HX.cell 1 2 rfl rfl
    try simp only [List.getElem_toArray, List.getElem_cons_zero, List.getElem_cons_succ] at hc10 hc11 hc12
    go_wp2
    exact bodyPost_ret (v := .tuple #[.agg #[.bool (sg q), .slice A5 (dig (nu q)).length c5, .slice B5 (dig q.den).length d5], .int .i64 0]) (by simp [results, Tryz.results64, go_sem, hc10, hc11, hc12]) rfl ⟨A5, c5, B5, d5, rfl, F5, HX.below⟩)
end Go.Proofs.YthempimelfmipaaGreatDoor

namespace Go.Proofs.YthempimelfmipaaGreatDoor

def quo (x d : Int) : Rat := (x : Rat) / (d : Rat)
theorem cast_ne {d : Int} (h : 0 < d) : (d : Rat) ≠ 0 := fun e => by
  have := Rat.intCast_eq_zero_iff.1 e
  omega
theorem quo_rv (x : Int) {d : Int} (hd : 0 < d) : quo x d = rv (decide (x < 0)) x.natAbs d.natAbs := by
  rw [rv, Rat.mkRat_eq_div, quo]
  have e1 : (if decide (x < 0) = true then -(x.natAbs : Int) else (x.natAbs : Int)) = x := by
    by_cases h : x < 0
    · simp only [decide_eq_true h, if_true]; omega
    · simp only [decide_eq_false h, Bool.false_eq_true, if_false]; omega
  have e2 : ((d.natAbs : Nat) : Rat) = (d : Rat) := by
    rw [← Rat.intCast_natCast]; congr 1; omega
  rw [e1, e2]
theorem quo_sz {x d : Int} (h1 : -1000000000000000000 < x) (h2 : x < 1000000000000000000) (hd : 0 < d) (h3 : d < 1000000000000000000) : Sz (quo x d) 2 := by
  rw [quo_rv x hd]
  exact Sz.of_rv (dig_len_le (k := 2) (by have h := pw_ten 2; rw [h]; omega)) (dig_len_le (k := 2) (by have h := pw_ten 2; rw [h]; omega)) (by omega)
theorem quo_sub (x y : Int) {d e : Int} (hd : 0 < d) (he : 0 < e) : quo x d - quo y e = quo (x * e - y * d) (d * e) := by
  have h1 := cast_ne hd
  have h2 := cast_ne he
  rw [quo, quo, quo, Rat.intCast_sub, Rat.intCast_mul, Rat.intCast_mul, Rat.intCast_mul]
  grind
theorem quo_add (x y : Int) {d : Int} (hd : 0 < d) : quo x d + quo y d = quo (x + y) d := by
  have h1 := cast_ne hd
  rw [quo, quo, quo, Rat.intCast_add]
  grind
theorem quo_mul (x y : Int) {d e : Int} (hd : 0 < d) (he : 0 < e) : quo x d * quo y e = quo (x * y) (d * e) := by
  have h1 := cast_ne hd
  have h2 := cast_ne he
  rw [quo, quo, quo, Rat.intCast_mul, Rat.intCast_mul]
  grind
theorem quo_neg (x d : Int) : -quo x d = quo (-x) d := by
  rw [quo, quo, Rat.intCast_neg]
  grind
theorem quo_eq {x y d e : Int} (hd : 0 < d) (he : 0 < e) (h : x * e = y * d) : quo x d = quo y e := by
  have h1 := cast_ne hd
  have h2 := cast_ne he
  have h3 : (x : Rat) * (e : Rat) = (y : Rat) * (d : Rat) := by rw [← Rat.intCast_mul, ← Rat.intCast_mul, h]
  rw [quo, quo]
  grind
theorem quo_sub_le {x y d : Int} (hd : 0 < d) (h : x ≤ y) : quo x d ≤ quo y d := by
  rw [quo_rv x hd, quo_rv y hd, rv, rv]
  have h1 : (0 : Rat) < (d : Rat) := by exact_mod_cast (Rat.intCast_lt_intCast.2 hd)
  have h2 : (x : Rat) ≤ (y : Rat) := Rat.intCast_le_intCast.2 h
  have e := quo_rv x hd
  have e2 := quo_rv y hd
  rw [rv] at e e2
  rw [← e, ← e2, quo, quo, Rat.div_def, Rat.div_def]
  exact Rat.mul_le_mul_of_nonneg_right h2 (Rat.le_of_lt (Rat.inv_pos.2 h1))
theorem quo_add2 (x y : Int) {d e : Int} (hd : 0 < d) (he : 0 < e) : quo x d + quo y e = quo (x * e + y * d) (d * e) := by
  have h1 := cast_ne hd
  have h2 := cast_ne he
  rw [quo, quo, quo, Rat.intCast_add, Rat.intCast_mul, Rat.intCast_mul, Rat.intCast_mul]
  grind
theorem quo_le {x y d e : Int} (hd : 0 < d) (he : 0 < e) (h : x * e ≤ y * d) : quo x d ≤ quo y e := by
  have hde := Int.mul_pos hd he
  rw [quo_eq (x := x) (d := d) (y := x * e) (e := d * e) hd hde (by grind), quo_eq (x := y) (d := e) (y := y * d) (e := d * e) he hde (by grind)]
  exact quo_sub_le hde h
theorem quo_inj {x y d e : Int} (hd : 0 < d) (he : 0 < e) (h : quo x d = quo y e) : x * e = y * d := by
  have h1 := cast_ne hd
  have h2 := cast_ne he
  have h3 : ((x * e : Int) : Rat) = ((y * d : Int) : Rat) := by
    rw [quo, quo] at h
    rw [Rat.intCast_mul, Rat.intCast_mul]
    grind
  exact Rat.intCast_inj.1 h3
theorem quo_le_iff {x y d e : Int} (hd : 0 < d) (he : 0 < e) : quo x d ≤ quo y e ↔ x * e ≤ y * d := by
  refine ⟨fun h => ?_, quo_le hd he⟩
  rcases Int.lt_or_le (y * d) (x * e) with h1 | h1
  · have h2 := quo_le he hd (x := y) (y := x) (by omega)
    have h3 := quo_inj hd he (Rat.le_antisymm h h2)
    omega
  · exact h1
theorem quo_lt_iff {x y d e : Int} (hd : 0 < d) (he : 0 < e) : quo x d < quo y e ↔ x * e < y * d := by
  rw [← Rat.not_le, quo_le_iff he hd]; omega
/-- what Of makes of two numbers -/
theorem of_quo (x : Int) {y : Int} (hy : 0 < y) : rv (!(decide (x < 0) == decide (y < 0))) x.natAbs y.natAbs = quo x y := by
  rw [quo_rv x hy, decide_eq_false (show ¬ y < 0 by omega)]
  cases decide (x < 0) <;> rfl
theorem cmp_quo (x y : Int) {d e : Int} (hd : 0 < d) (he : 0 < e) : cmpQ (quo x d) (quo y e) = if x * e < y * d then -1 else if x * e = y * d then 0 else 1 := by
  by_cases h1 : x * e < y * d
  · rw [if_pos h1]; exact cmpQ_lt ((quo_lt_iff hd he).2 h1)
  · rw [if_neg h1]
    by_cases h2 : x * e = y * d
    · rw [if_pos h2]; exact cmpQ_eq (quo_eq hd he h2)
    · rw [if_neg h2]; exact cmpQ_gt ((quo_lt_iff he hd).2 (by omega))
theorem sgn_quo (x : Int) {d : Int} (hd : 0 < d) : sgn (quo x d) = if x < 0 then -1 else if x = 0 then 0 else 1 := by
  rw [quo_rv x hd, sgn_rv]
  by_cases h0 : x = 0
  · subst h0; simp
  · rw [if_neg (by omega)]
    by_cases h1 : x < 0
    · rw [decide_eq_true h1, if_pos h1]; rfl
    · rw [decide_eq_false h1, if_neg h1, if_neg h0]; rfl
theorem quo_sz1 {x d : Int} (h1 : -1000000000 < x) (h2 : x < 1000000000) (hd : 0 < d) (h3 : d < 1000000000) : Sz (quo x d) 1 := by
  rw [quo_rv x hd]
  exact Sz.of_rv (dig_len_le (k := 1) (by have h := pw_ten 1; rw [h]; omega)) (dig_len_le (k := 1) (by have h := pw_ten 1; rw [h]; omega)) (by omega)
end Go.Proofs.YthempimelfmipaaGreatDoor

namespace Go.Proofs.YthempimelfmipaaGreatDoor

theorem shq_quo {l : List (Int × Int)} {s : Int} (hn : 0 ≤ numE l s) (hT : 0 < totE l) : shq l s = quo (numE l s) (totE l) := by
  rw [shq, quo_rv _ hT]
  congr 1
  rw [decide_eq_false (show ¬ numE l s < 0 by omega), decide_eq_false (show ¬ totE l < 0 by omega)]
  rfl
/-- the coefficient as far as type k -/
def coD (a b : List (Int × Int)) (k : Nat) : Rat := quo (200 * (totE a * totE b) - 100 * sumD a b k) (totE a * totE b)
theorem coD_start {a b : List (Int × Int)} (ha : 0 < totE a) (hb : 0 < totE b) : coD a b 0 = quo 200 1 := by
  have h := Int.mul_pos ha hb
  exact quo_eq h (by omega) (by rw [sumD]; omega)
theorem coD_step {a b : List (Int × Int)} (ha : 0 < totE a) (hb : 0 < totE b) (k : Nat) : coD a b (k + 1) = coD a b k + quo (-(difT a b ((k : Int) + 1))) (totE a * totE b) * quo 100 1 := by
  have h := Int.mul_pos ha hb
  rw [coD, coD, quo_mul _ _ h (by omega), Int.mul_one, quo_add _ _ h, sumD]
  congr 1
  omega
theorem dif_quo {a b : List (Int × Int)} {t : Int} (ha : 0 < totE a) (hb : 0 < totE b) (h1 : 0 ≤ numE a t) (h2 : 0 ≤ numE b t) : shq a t - shq b t = quo (numE a t * totE b - numE b t * totE a) (totE a * totE b) := by
  rw [shq_quo h1 ha, shq_quo h2 hb, quo_sub _ _ ha hb]
end Go.Proofs.YthempimelfmipaaGreatDoor

namespace Go.Proofs.YthempimelfmipaaGreatDoor

/-- the distance -/
def disD (a b : List (Int × Int)) : Rat := quo (50 * sumD a b 99) (totE a * totE b)
theorem dis_eq {a b : List (Int × Int)} (ha : 0 < totE a) (hb : 0 < totE b) : (quo 200 1 - coD a b 99) * quo 1 2 = disD a b := by
  have h := Int.mul_pos ha hb
  rw [coD, quo_sub _ _ (by omega) h, quo_mul _ _ (by omega) (by omega), disD]
  exact quo_eq (by omega) h (by grind)
theorem dis_zero {a b : List (Int × Int)} (h : sumD a b 99 = 0) : disD a b = 0 := by
  rw [disD, h, Int.mul_zero, quo, Rat.div_def, Rat.intCast_zero, Rat.zero_mul]
theorem co_full {a b : List (Int × Int)} (ha : 0 < totE a) (hb : 0 < totE b) (h : sumD a b 99 = 0) : coD a b 99 = quo 200 1 := by
  have h1 := Int.mul_pos ha hb
  rw [coD, h]
  exact quo_eq h1 (by omega) (by omega)
theorem dis_tri {a b c : List (Int × Int)} (ha : 0 < totE a) (hb : 0 < totE b) (hc : 0 < totE c) : disD a c ≤ disD a b + disD b c := by
  have h := sumD_tri a b c (by omega) (by omega) (by omega) 99
  have h1 := Int.mul_pos ha hb
  have h2 := Int.mul_pos hb hc
  have h3 := Int.mul_pos ha hc
  have h4 := Int.mul_pos h1 hc
  rw [disD, disD, disD, quo_add2 _ _ h1 h2]
  refine quo_le h3 (Int.mul_pos h1 h2) ?_
  have h5 := Int.mul_le_mul_of_nonneg_right h (show 0 ≤ totE a * totE b * totE c by omega)
  generalize sumD a c 99 = x at *
  generalize sumD a b 99 = y at *
  generalize sumD b c 99 = z at *
  generalize totE a = p at *
  generalize totE b = q at *
  generalize totE c = r at *
  have e1 : 50 * x * (p * q * (q * r)) = 50 * (x * q * (p * q * r)) := by grind
  have e2 : (50 * y * (q * r) + 50 * z * (p * q)) * (p * r) = 50 * ((y * r + z * p) * (p * q * r)) := by grind
  rw [e1, e2]
  omega
theorem dis_nn {a b : List (Int × Int)} (ha : 0 < totE a) (hb : 0 < totE b) : quo 0 1 ≤ disD a b := by
  have h := Int.mul_pos ha hb
  have h2 := sumD_nn a b 99
  rw [disD]
  refine quo_le (by omega) h ?_
  omega
theorem dis_le {a b : List (Int × Int)} (ha : 0 < totE a) (hb : 0 < totE b) (h : sumD a b 99 ≤ 2 * (totE a * totE b)) : disD a b ≤ quo 100 1 := by
  have h1 := Int.mul_pos ha hb
  rw [disD]
  refine quo_le h1 (by omega) ?_
  omega
theorem dis_full {a b : List (Int × Int)} (ha : 0 < totE a) (hb : 0 < totE b) : disD a b = quo 100 1 ↔ sumD a b 99 = 2 * (totE a * totE b) := by
  have h1 := Int.mul_pos ha hb
  rw [disD]
  constructor
  · intro h
    have := quo_inj h1 (by omega) h
    omega
  · intro h
    exact quo_eq h1 (by omega) (by omega)
theorem dis_near {a b m : List (Int × Int)} (ha : 0 < totE a) (hb : 0 < totE b) (hm : totE m = totE a + totE b) (hs : sumD a m 99 = sumD a b 99) : disD a m ≤ disD a b := by
  have hmp : 0 < totE m := by omega
  have h1 := Int.mul_pos ha hb
  have h2 := Int.mul_pos ha hmp
  have h3 := sumD_nn a b 99
  rw [disD, disD, hs]
  refine quo_le h2 h1 ?_
  refine Int.mul_le_mul_of_nonneg_left ?_ (by omega)
  exact Int.mul_le_mul_of_nonneg_left (by omega) (by omega)
theorem dis_way {a b m : List (Int × Int)} (ha : 0 < totE a) (hb : 0 < totE b) (hm : totE m = totE a + totE b) (hs : sumD a m 99 = sumD a b 99) (hs2 : sumD m b 99 = sumD a b 99) : disD a m + disD m b = disD a b := by
  have hmp : 0 < totE m := by omega
  have h1 := Int.mul_pos ha hb
  have h2 := Int.mul_pos ha hmp
  have h3 := Int.mul_pos hmp hb
  rw [disD, disD, disD, hs, hs2, quo_add2 _ _ h2 h3]
  refine quo_eq (Int.mul_pos h2 h3) h1 ?_
  rw [hm]
  grind
end Go.Proofs.YthempimelfmipaaGreatDoor

namespace Go.Proofs.YthempimelfmipaaGreatDoor
open Go.RowKit Go.Proofs Go

/-- the slice at A reads as numbers -/
def IEs (w : World) (A : Option Addr) (l : List Int) : Prop :=
  0 < l.length → ∃ ad, A = some ad ∧ ad.block < w.heap.size ∧ ∀ i x, l[i]? = some x → w.cell? (ad.add i) = some (.int .i64 x)
theorem IEs.nil (w : World) (A : Option Addr) : IEs w A [] := fun h => absurd h (by simp)
theorem IEs.ext {w w' : World} {A : Option Addr} {l : List Int} (h : IEs w A l) (hb : Below w.heap.size w w') : IEs w' A l := fun h0 => by
  obtain ⟨ad, h1, h2, h3⟩ := h h0
  exact ⟨ad, h1, Nat.lt_of_lt_of_le h2 hb.size, fun i x hx => by rw [hb.cell (cell_lt (h3 i x hx))]; exact h3 i x hx⟩
theorem IEs.at_ {w : World} {A : Option Addr} {l : List Int} (h : IEs w A l) {i : Nat} {x : Int} (hx : l[i]? = some x) : ∃ ad, A = some ad ∧ ad.block < w.heap.size ∧ w.cell? (ad.add i) = some (.int .i64 x) := by
  have hi := (List.getElem?_eq_some_iff.1 hx).1
  obtain ⟨ad, h1, h2, h3⟩ := h (by omega)
  exact ⟨ad, h1, h2, h3 i x hx⟩
def icells (l : List Int) : List Value := l.map (.int .i64 ·)
theorem IEs.lit (W : World) (T : TypeId) (l : List Int) (cs : Array Value) (hcs : cs.toList = icells l) : IEs (W.alloc (.cells cs T)) (some ⟨W.heap.size, 0, none⟩) l := fun _ => by
  refine ⟨_, rfl, by simp, fun i x hx => ?_⟩
  rw [Addr.add_lit, Nat.zero_add, World.cell?_alloc_at _ _ _ _ rfl, ← Array.getElem?_toList, hcs, icells, List.getElem?_map, hx]; rfl
def IOwn (w : World) (B : Nat) (A : Option Addr) (c : Nat) (l : List Int) : Prop := Own w B 3 A l.length c (icells l)
theorem IOwn.es {w : World} {B c : Nat} {A : Option Addr} {l : List Int} (h : IOwn w B A c l) : IEs w A l := fun h0 => by
  have h1 := h
  rcases h1.2 with ⟨_, h2⟩ | ⟨g, cap, cur, hv, _, hg, _⟩
  · omega
  · injection hv with hA _ _
    subst hA
    refine ⟨_, rfl, (Array.getElem?_eq_some_iff.1 hg).1, fun i x hx => ?_⟩
    exact World.ownsRow.cells h rfl i _ (by simp [icells, hx])
theorem IOwn.ext {w w' : World} {B c : Nat} {A : Option Addr} {l : List Int} (h : IOwn w B A c l) (hb : Below w.heap.size w w') : IOwn w' B A c l := Own.ext h hb
theorem IOwn.nil (w : World) (B : Nat) : IOwn w B none 0 [] := World.ownsRow_nil w B _ 1
theorem IOwn.cap {w : World} {B c : Nat} {A : Option Addr} {l : List Int} (h : IOwn w B A c l) : l.length ≤ c := by
  rcases h.2 with ⟨_, h2⟩ | ⟨g, cap, cur, hv, _, _, hnc, _⟩
  · omega
  · injection hv with _ _ hc
    omega
theorem EI : Elt Tryz.prog 50 3 (.int .i64 0) 8 := ⟨Tryz.underlying50, by kernel_rfl, rfl⟩
theorem IOwn.snoc {w : World} {B c n : Nat} {A : Option Addr} {l : List Int} {x : Int} (h : Own w B 3 A n c (icells l ++ [.int .i64 x])) (hn : n = l.length + 1) : IOwn w B A c (l ++ [x]) := by
  subst hn
  unfold IOwn
  rw [List.length_append, icells, List.map_append]
  exact h
set_option maxHeartbeats 1000000 in
set_option maxRecDepth 100000 in
theorem bints_any {b : Bool} (A A' : Option Addr) (c c' : Nat) (l m : List Int) (w : World) (H : IEs w A l) (H' : IEs w A' m) (_hl : l.length ≤ 9223372036854775807) (hm : m.length ≤ 9223372036854775807) (hb : Tells b (l = m)) :
    Calls Tryz.prog 36 #[.slice A l.length c, .slice A' m.length c'] w (RetB w b) := by
  by_cases hlen : l.length = m.length
  · have hlenb : ((l.length : Int) != (m.length : Int)) = false := by rw [bne_eq_false_iff_eq]; omega
    have HL := Lib.hid hlen
    clear hlen
    go_enter Tryz.func36, Tryz.ntmps36
    go_wp2
    go_loopg [5] l.length (fun k i wr => ∃ j : Nat, j + k = l.length ∧ i = .int .i64 (j : Int) ∧ Hid (∀ i, i < j → l[i]? = m[i]?) ∧ Below w.heap.size w wr)
    case atStart => exact ⟨0, by omega, rfl, Lib.hid (fun i h => absurd h (by omega)), Below.refl _ _⟩
    case round =>
      obtain ⟨j, hj, rfl, hok, hbw⟩ := hrel
      by_cases hj0 : j < l.length
      · have hj1 : j < m.length := by have := HL.out; omega
        have hx := Lib.hid (List.getElem?_eq_getElem hj0)
        have hy := Lib.hid (List.getElem?_eq_getElem hj1)
        obtain ⟨ad, rfl, hbk, c0⟩ := (H.ext hbw).at_ hx.out
        obtain ⟨ad2, rfl, hbk2, p0⟩ := (H'.ext hbw).at_ hy.out
        generalize l[j] = x at *
        generalize m[j] = y at *
        by_cases hxy : x = y
        · subst hxy
          have hnx := Lib.hid (show ∀ i, i < j + 1 → l[i]? = m[i]? from fun i hi => by
            by_cases hij : i < j
            · exact hok.out i hij
            · obtain rfl : i = j := by omega
              rw [hx.out, hy.out])
          have hs : (x != x) = false := by rw [bne_eq_false_iff_eq]
          go_upto_region 6 with fail
          go_quiet (fail)
          go_wp2
          go_roundg (l.length - (j + 1))
          case measure => omega
          case rel => exact ⟨j + 1, by omega, by go_num, hnx, drew_below hbw _⟩
        · obtain rfl : b = false := hb.f fun h => by
            subst h
            exact hxy (Option.some.inj (hx.out.symm.trans hy.out))
          have hd : (x != y) = true := by rw [bne_iff_ne]; exact hxy
          clear hxy
          go_upto_region 6 with fail
          go_quiet (fail)
          go_wp2
          go_ret
          exact ⟨rfl, drew_below hbw _⟩
      · obtain rfl : b = true := hb.t (List.ext_getElem? fun i => by
          by_cases hi : i < j
          · exact hok.out i hi
          · rw [List.getElem?_eq_none (by omega), List.getElem?_eq_none (by have := HL.out; omega)])
        go_wp2
        go_ret
        exact ⟨rfl, hbw⟩
  · have hlenb : ((l.length : Int) != (m.length : Int)) = true := by rw [bne_iff_ne]; omega
    obtain rfl : b = false := hb.f fun h => hlen (by rw [h])
    clear hlen
    go_enter Tryz.func36, Tryz.ntmps36
    go_wp2
    go_ret
    exact ⟨rfl, Below.refl _ _⟩
end Go.Proofs.YthempimelfmipaaGreatDoor

namespace Go.Proofs.YthempimelfmipaaGreatDoor
open Go.RowKit Go.Proofs Go

/-- ascending lists with the same members are the same -/
theorem asc_ext : ∀ {l m : List Int}, l.Pairwise (· < ·) → m.Pairwise (· < ·) → (∀ x, x ∈ l ↔ x ∈ m) → l = m
  | [], [], _, _, _ => rfl
  | [], y :: m, _, _, h => by have := (h y).2 List.mem_cons_self; cases this
  | x :: l, [], _, _, h => by have := (h x).1 List.mem_cons_self; cases this
  | x :: l, y :: m, hl, hm, h => by
    rw [List.pairwise_cons] at hl hm
    have hxy : x = y := by
      rcases List.mem_cons.1 ((h x).1 List.mem_cons_self) with e | e
      · exact e
      · rcases List.mem_cons.1 ((h y).2 List.mem_cons_self) with e2 | e2
        · exact e2.symm
        · have := hm.1 x e; have := hl.1 y e2; omega
    subst hxy
    rw [asc_ext hl.2 hm.2 fun z => ?_]
    constructor
    · intro hz
      have := hl.1 z hz
      rcases List.mem_cons.1 ((h z).1 (List.mem_cons_of_mem _ hz)) with e | e
      · omega
      · exact e
    · intro hz
      have := hm.1 z hz
      rcases List.mem_cons.1 ((h z).2 (List.mem_cons_of_mem _ hz)) with e | e
      · omega
      · exact e
theorem pw_listed {lo hi : Int} : ∀ {l : List (Int × Int)}, Listed lo hi l → (l.map (·.1)).Pairwise (· < ·)
  | [], _ => List.Pairwise.nil
  | x :: l, h => by
    rw [List.map_cons, List.pairwise_cons]
    refine ⟨fun y hy => ?_, pw_listed h.tail⟩
    obtain ⟨z, hz, rfl⟩ := List.mem_map.1 hy
    exact h.head_lt z hz
/-- has a list this type? -/
def hasE (l : List (Int × Int)) (t : Int) : Bool := (valE l t).isSome
theorem hasE_iff {l : List (Int × Int)} {t : Int} : hasE l t = true ↔ ∃ x ∈ l, x.1 = t := by
  unfold hasE
  cases h : valE l t with
  | none => exact ⟨fun h0 => by simp at h0, fun ⟨x, hx, ht⟩ => absurd ht (val_none h x hx)⟩
  | some v => obtain ⟨x, hx, h1, _⟩ := val_some h; exact ⟨fun _ => ⟨x, hx, h1⟩, fun _ => rfl⟩
theorem has_num {hi : Int} {l : List (Int × Int)} (h : Listed 1 hi l) (t : Int) : 0 < numE l t ↔ hasE l t = true := by
  rw [hasE_iff]
  constructor
  · intro h0
    rcases Classical.em (∃ x ∈ l, x.1 = t) with h1 | h1
    · exact h1
    · rw [Listed.num_zero fun x hx e => h1 ⟨x, hx, e⟩] at h0; omega
  · rintro ⟨x, hx, ht⟩
    rw [h.num hx ht]
    have := (h.mem hx).2.1
    omega
/-- the types of the first list that are in the second -/
def comP (la lb : List (Int × Int)) (j : Nat) : List Int := ((la.take j).map (·.1)).filter (hasE lb)
def comR (la lb : List (Int × Int)) : Nat → List Int
  | 0 => []
  | k + 1 => comR la lb k ++ (if 0 < numE la ((k : Int) + 1) ∧ 0 < numE lb ((k : Int) + 1) then [(k : Int) + 1] else [])
theorem comP_succ {la lb : List (Int × Int)} {j : Nat} {x : Int × Int} (hx : la[j]? = some x) : comP la lb (j + 1) = comP la lb j ++ (if hasE lb x.1 = true then [x.1] else []) := by
  rw [comP, comP, take_succ hx, List.map_append, List.filter_append]
  congr 1
  by_cases h : hasE lb x.1 = true <;> simp [h]
theorem comP_len (la lb : List (Int × Int)) (j : Nat) : (comP la lb j).length ≤ la.length :=
  Nat.le_trans (List.length_filter_le _ _) (by rw [List.length_map]; exact List.length_take_le' _ _)
theorem comR_mem {la lb : List (Int × Int)} : ∀ {k : Nat} {t : Int}, t ∈ comR la lb k ↔ (1 ≤ t ∧ t ≤ k) ∧ 0 < numE la t ∧ 0 < numE lb t
  | 0, t => by simp [comR]; omega
  | k + 1, t => by
    rw [comR, List.mem_append, comR_mem (k := k)]
    constructor
    · rintro (⟨h1, h2⟩ | h)
      · exact ⟨by omega, h2⟩
      · split at h
        · next hc => simp at h; subst h; exact ⟨by omega, hc⟩
        · simp at h
    · rintro ⟨h1, h2⟩
      by_cases ht : t ≤ k
      · exact .inl ⟨⟨h1.1, ht⟩, h2⟩
      · right
        obtain rfl : t = (k : Int) + 1 := by omega
        rw [if_pos h2]; simp
theorem comR_pw (la lb : List (Int × Int)) : ∀ k, (comR la lb k).Pairwise (· < ·)
  | 0 => List.Pairwise.nil
  | k + 1 => by
    rw [comR, List.pairwise_append]
    refine ⟨comR_pw la lb k, by split <;> simp, fun a ha b hb => ?_⟩
    have := (comR_mem.1 ha).1
    split at hb
    · simp at hb; omega
    · simp at hb
theorem comR_len (la lb : List (Int × Int)) : ∀ k, (comR la lb k).length ≤ k
  | 0 => Nat.le_refl _
  | k + 1 => by
    have := comR_len la lb k
    rw [comR, List.length_append]
    split <;> simp <;> omega
theorem com_same {la lb : List (Int × Int)} (ha : Listed 1 999 la) (hb : Listed 1 999 lb) : comP la lb la.length = comR la lb 99 := by
  refine asc_ext ?_ (comR_pw la lb 99) fun t => ?_
  · rw [comP, List.take_length]; exact (pw_listed ha).filter _
  · rw [comR_mem, comP, List.take_length, List.mem_filter, has_num ha, has_num hb, hasE_iff (l := la), List.mem_map]
    constructor
    · rintro ⟨⟨x, hx, rfl⟩, h2⟩
      exact ⟨(ha.mem hx).1, ⟨x, hx, rfl⟩, h2⟩
    · rintro ⟨_, ⟨x, hx, rfl⟩, h2⟩
      exact ⟨⟨x, hx, rfl⟩, h2⟩
/-- what Common returns -/
def ComIs (ia : Int) (la : List (Int × Int)) (fa ta ib : Int) (lb : List (Int × Int)) (fb tb : Int) (L : List Int) (err : Int) : Prop :=
  (¬ (HV ia la fa ta ∧ HV ib lb fb tb) ∧ L = [] ∧ err = 1) ∨ (HV ia la fa ta ∧ HV ib lb fb tb ∧ comR la lb 99 = L ∧ err = 0)
theorem ComIs.ex (ia : Int) (la : List (Int × Int)) (fa ta ib : Int) (lb : List (Int × Int)) (fb tb : Int) : ∃ L err, ComIs ia la fa ta ib lb fb tb L err := by
  by_cases h : HV ia la fa ta ∧ HV ib lb fb tb
  · exact ⟨_, _, .inr ⟨h.1, h.2, rfl, rfl⟩⟩
  · exact ⟨_, _, .inl ⟨h, rfl, rfl⟩⟩
theorem ComIs.len {ia : Int} {la : List (Int × Int)} {fa ta ib : Int} {lb : List (Int × Int)} {fb tb : Int} {L : List Int} {err : Int} (h : ComIs ia la fa ta ib lb fb tb L err) : L.length ≤ 99 := by
  rcases h with ⟨_, rfl, _⟩ | ⟨_, _, rfl, _⟩
  · simp
  · exact comR_len la lb 99
def RetC (w : World) (L : List Int) (err : Int) (e : Ending) (w' : World) : Prop :=
  ∃ A c, e = .returned (.tuple #[.slice A L.length c, .int .i64 err]) ∧ IEs w' A L ∧ Below w.heap.size w w'
end Go.Proofs.YthempimelfmipaaGreatDoor

namespace Go.Proofs.YthempimelfmipaaGreatDoor
open Go.RowKit Go.Proofs Go

theorem BL.front {w W : World} {L : List (Nat × Array Value × TypeId)} (h : BL w W L) (k : Nat) : BL w W (L.take k) :=
  ⟨h.below, fun i p hp => h.blk i p (by
    by_cases hi : i < k
    · rwa [List.getElem?_take_of_lt hi] at hp
    · rw [List.getElem?_eq_none (by simp; omega)] at hp; cases hp)⟩
/-- one coin more -/
def stepS (s : Int × Int) (k y : Int) : Int × Int := if s.1 = 0 ∨ s.2 ≤ y then (k, y) else s
def lateS (ts : List (Int × Int)) : List (Int × Int) → Int × Int → Option (Int × Int)
  | [], s => some s
  | x :: l, s => match valE ts x.1 with
    | none => none
    | some y => lateS ts l (stepS s x.1 y)
theorem lateS_none {ts l : List (Int × Int)} {j : Nat} {x s : Int × Int} (hx : l[j]? = some x) (hv : valE ts x.1 = none) : lateS ts (l.drop j) s = none := by
  obtain ⟨hj, rfl⟩ := List.getElem?_eq_some_iff.1 hx
  rw [← List.getElem_cons_drop hj, lateS, hv]
theorem lateS_some {ts l : List (Int × Int)} {j : Nat} {x s : Int × Int} {y : Int} (hx : l[j]? = some x) (hv : valE ts x.1 = some y) : lateS ts (l.drop j) s = lateS ts (l.drop (j + 1)) (stepS s x.1 y) := by
  obtain ⟨hj, rfl⟩ := List.getElem?_eq_some_iff.1 hx
  rw [← List.getElem_cons_drop hj, lateS, hv]
/-- what Latest returns -/
def LateIs (id : Int) (l : List (Int × Int)) (f t : Int) (ts : List (Int × Int)) (r err : Int) : Prop :=
  (¬ (HV id l f t ∧ Listed (-9999) 9999 ts) ∧ r = 0 ∧ err = 1) ∨
  (HV id l f t ∧ Listed (-9999) 9999 ts ∧ ((lateS ts l (0, 0) = none ∧ r = 0 ∧ err = 7) ∨ (∃ y, lateS ts l (0, 0) = some (r, y) ∧ err = 0)))
theorem LateIs.ex (id : Int) (l : List (Int × Int)) (f t : Int) (ts : List (Int × Int)) : ∃ r err, LateIs id l f t ts r err := by
  by_cases h : HV id l f t ∧ Listed (-9999) 9999 ts
  · cases hl : lateS ts l (0, 0) with
    | none => exact ⟨_, _, .inr ⟨h.1, h.2, .inl ⟨hl, rfl, rfl⟩⟩⟩
    | some s => obtain ⟨r, y⟩ := s; exact ⟨r, 0, .inr ⟨h.1, h.2, .inr ⟨y, hl, rfl⟩⟩⟩
  · exact ⟨0, 1, .inl ⟨h, rfl, rfl⟩⟩
def RetL (w : World) (r err : Int) (e : Ending) (w' : World) : Prop := e = .returned (.tuple #[.int .i64 r, .int .i64 err]) ∧ Below w.heap.size w w'
theorem listed_len {lo hi : Int} {l : List (Int × Int)} (h : Listed lo hi l) : l.length ≤ 99 := by
  have key : ∀ (i : Nat) (x : Int × Int), l[i]? = some x → (i : Int) + 1 ≤ x.1 := by
    intro i
    induction i with
    | zero => intro x hx; have := (h.at_ hx).1.1; omega
    | succ i ih =>
      intro x hx
      have hi := (List.getElem?_eq_some_iff.1 hx).1
      have h1 := ih _ (List.getElem?_eq_getElem (show i < l.length by omega))
      have h2 := (h (i + 1) x hx).2.2 i _ rfl (List.getElem?_eq_getElem (show i < l.length by omega))
      omega
  rcases Nat.lt_or_ge 99 l.length with h1 | h1
  · have h2 := key 99 _ (List.getElem?_eq_getElem h1)
    have h3 := (h.at_ (List.getElem?_eq_getElem h1)).1.2
    omega
  · exact h1
theorem valE_succ {ts : List (Int × Int)} {m : Nat} {x : Int × Int} (hx : ts[m]? = some x) (t : Int) : valE (ts.take (m + 1)) t = (valE (ts.take m) t).or (if x.1 = t then some x.2 else none) := by
  unfold valE
  rw [take_succ hx, List.find?_append]
  cases (ts.take m).find? fun x => decide (x.1 = t)
  · by_cases h : x.1 = t
    · simp [h]
    · simp [h]
  · rfl
theorem valE_once {lo hi : Int} {ts : List (Int × Int)} (h : Listed lo hi ts) {m : Nat} {x : Int × Int} (hx : ts[m]? = some x) : valE (ts.take m) x.1 = none := by
  refine val_no fun j y hj hy => ?_
  rw [List.length_take] at hj
  rw [List.getElem?_take_of_lt (by omega)] at hy
  have key : ∀ (d i : Nat) (u v : Int × Int), i + d + 1 = m → ts[i]? = some u → ts[m]? = some v → u.1 < v.1 := by
    intro d
    induction d with
    | zero => intro i u v hi hu hv; exact (h m v hv).2.2 i u (by omega) hu
    | succ d ih =>
      intro i u v hi hu hv
      have hl := (List.getElem?_eq_some_iff.1 hv).1
      have h1 := (h (i + 1) _ (List.getElem?_eq_getElem (show i + 1 < ts.length by omega))).2.2 i u rfl hu
      have h2 := ih (i + 1) _ v (by omega) (List.getElem?_eq_getElem (show i + 1 < ts.length by omega)) hv
      omega
  have := key (m - j - 1) j y x (by omega) hy hx
  omega
end Go.Proofs.YthempimelfmipaaGreatDoor

namespace Go.Proofs.YthempimelfmipaaGreatDoor
open Go.RowKit Go.Proofs Go

/-- the same hoard -/
def SameH (ia : Int) (l : List (Int × Int)) (fa ta ib : Int) (m : List (Int × Int)) (fb tb : Int) : Prop := ia = ib ∧ (fa = fb ∧ ta = tb) ∧ l = m
end Go.Proofs.YthempimelfmipaaGreatDoor

namespace Go.Proofs.YthempimelfmipaaGreatDoor

/-- the numbers of the types up to k -/
def sumN (l : List (Int × Int)) : Nat → Int
  | 0 => 0
  | k + 1 => sumN l k + numE l ((k : Int) + 1)
theorem sumN_nil : ∀ k, sumN [] k = 0
  | 0 => rfl
  | k + 1 => by rw [sumN, sumN_nil k, numE]; rfl
theorem sumN_cons (x : Int × Int) (l : List (Int × Int)) : ∀ k : Nat, sumN (x :: l) k = (if 1 ≤ x.1 ∧ x.1 ≤ k then x.2 else 0) + sumN l k
  | 0 => by rw [sumN, sumN, if_neg (by omega)]; rfl
  | k + 1 => by
    rw [sumN, sumN, sumN_cons x l k, numE]
    by_cases h : x.1 = (k : Int) + 1
    · rw [if_pos h, if_neg (by omega), if_pos (by omega)]; omega
    · rw [if_neg h]
      by_cases h1 : 1 ≤ x.1 ∧ x.1 ≤ k
      · rw [if_pos h1, if_pos (by omega)]; omega
      · rw [if_neg h1, if_neg (by omega)]; omega
theorem sumN_tot : ∀ {l : List (Int × Int)}, (∀ x ∈ l, 1 ≤ x.1 ∧ x.1 ≤ 99) → sumN l 99 = totE l
  | [], _ => sumN_nil 99
  | x :: l, h => by
    have := h x List.mem_cons_self
    rw [sumN_cons, if_pos ⟨this.1, this.2⟩, sumN_tot fun y hy => h y (List.mem_cons_of_mem _ hy), totE]
theorem HV.nn {id : Int} {l : List (Int × Int)} {f t : Int} (h : HV id l f t) (s : Int) : 0 ≤ numE l s ∧ numE l s ≤ 32000 := by
  have := h.num l.length s
  rwa [List.take_length] at this
theorem HV.tt {id : Int} {l : List (Int × Int)} {f t : Int} (h : HV id l f t) : 0 ≤ totE l ∧ totE l ≤ 32000 := by
  have := h.tot l.length
  rwa [List.take_length] at this
theorem HV.sum {id : Int} {l : List (Int × Int)} {f t : Int} (h : HV id l f t) : sumN l 99 = totE l := sumN_tot fun _ hx => (h.2.2.1.mem hx).1
theorem HV.sums {id : Int} {l : List (Int × Int)} {f t : Int} (h : HV id l f t) : ∀ {k m : Nat}, k ≤ m → 0 ≤ sumN l k ∧ sumN l k ≤ sumN l m := by
  have h0 : ∀ k, 0 ≤ sumN l k := fun k => by
    induction k with
    | zero => exact Int.le_refl _
    | succ k ih => rw [sumN]; have := (h.nn ((k : Int) + 1)).1; omega
  intro k m hkm
  refine ⟨h0 k, ?_⟩
  induction m with
  | zero => obtain rfl : k = 0 := by omega
            exact Int.le_refl _
  | succ m ih =>
    by_cases hk : k = m + 1
    · subst hk; exact Int.le_refl _
    · have := ih (by omega)
      have := (h.nn ((m : Int) + 1)).1
      rw [sumN]; omega
theorem HV.first {id : Int} {l : List (Int × Int)} {f t : Int} (h : HV id l f t) : ∃ x, x ∈ l ∧ 1 ≤ numE l x.1 ∧ 1 ≤ x.1 ∧ x.1 ≤ 99 := by
  have h1 := h.2.1.1
  have hm : l[0]'(by omega) ∈ l := List.getElem_mem _
  have h2 := h.2.2.1.mem hm
  exact ⟨_, hm, by rw [h.2.2.1.num hm rfl]; omega, h2.1.1, h2.1.2⟩
theorem HV.pos {id : Int} {l : List (Int × Int)} {f t : Int} (h : HV id l f t) : 1 ≤ totE l := by
  obtain ⟨x, _, h1, h2, h3⟩ := h.first
  have h4 := (h.sums (k := x.1.toNat - 1) (m := x.1.toNat) (by omega)).1
  have h5 := (h.sums (k := x.1.toNat) (m := 99) (by omega)).2
  have h6 : sumN l x.1.toNat = sumN l (x.1.toNat - 1) + numE l x.1 := by
    obtain ⟨n, hn⟩ : ∃ n : Nat, x.1.toNat = n + 1 := ⟨x.1.toNat - 1, by omega⟩
    rw [hn, sumN, Nat.add_sub_cancel, show ((n : Int) + 1) = x.1 by omega]
  rw [← h.sum]; omega
theorem mergeP_num {a b : List (Int × Int)} (h : ∀ t, 0 ≤ numE a t + numE b t) (t : Int) : ∀ k : Nat, numE (mergeP a b k) t = if 1 ≤ t ∧ t ≤ k then numE a t + numE b t else 0
  | 0 => by rw [mergeP, numE, if_neg (by omega)]
  | k + 1 => by
    have ih := mergeP_num h t k
    have hk := h ((k : Int) + 1)
    by_cases h0 : 0 < numE a ((k : Int) + 1) + numE b ((k : Int) + 1)
    · rw [mergeP_yes h0, numE_append, ih]
      by_cases ht : (k : Int) + 1 = t
      · subst ht; rw [if_neg (by omega), if_pos (by omega), numE, numE, if_pos rfl]; omega
      · rw [numE, numE, if_neg ht]
        by_cases h1 : 1 ≤ t ∧ t ≤ k
        · rw [if_pos h1, if_pos (by omega)]; omega
        · rw [if_neg h1, if_neg (by omega)]; rfl
    · rw [mergeP_no h0, ih]
      by_cases ht : (k : Int) + 1 = t
      · subst ht; rw [if_neg (by omega), if_pos (by omega)]; omega
      · by_cases h1 : 1 ≤ t ∧ t ≤ k
        · rw [if_pos h1, if_pos (by omega)]
        · rw [if_neg h1, if_neg (by omega)]
theorem mergeP_tot {a b : List (Int × Int)} (h : ∀ t, 0 ≤ numE a t + numE b t) : ∀ k : Nat, totE (mergeP a b k) = sumN a k + sumN b k
  | 0 => rfl
  | k + 1 => by
    have ih := mergeP_tot h k
    have hk := h ((k : Int) + 1)
    rw [sumN, sumN]
    by_cases h0 : 0 < numE a ((k : Int) + 1) + numE b ((k : Int) + 1)
    · rw [mergeP_yes h0, totE_append, ih, totE, totE]; omega
    · rw [mergeP_no h0, ih]; omega
theorem mergeP_mem {a b : List (Int × Int)} {x : Int × Int} : ∀ {k : Nat}, x ∈ mergeP a b k → 1 ≤ x.1 ∧ x.1 ≤ k ∧ 0 < x.2 ∧ x.2 = numE a x.1 + numE b x.1
  | 0, h => by cases h
  | k + 1, h => by
    rw [mergeP, List.mem_append] at h
    rcases h with h | h
    · have := mergeP_mem h; omega
    · split at h
      · next h0 => rw [List.mem_singleton] at h; subst h; exact ⟨by simp only []; omega, by simp only []; omega, h0, rfl⟩
      · cases h
theorem Listed.snoc {lo hi : Int} {l : List (Int × Int)} {x : Int × Int} (h : Listed lo hi l) (h1 : 1 ≤ x.1 ∧ x.1 ≤ 99) (h2 : lo ≤ x.2 ∧ x.2 ≤ hi) (h3 : ∀ y ∈ l, y.1 < x.1) : Listed lo hi (l ++ [x]) := fun i y hy => by
  by_cases hi : i < l.length
  · rw [List.getElem?_append_left hi] at hy
    obtain ⟨a, b, c⟩ := h i y hy
    exact ⟨a, b, fun j z hj hz => c j z hj (by rwa [List.getElem?_append_left (by omega)] at hz)⟩
  · have hlen := (List.getElem?_eq_some_iff.1 hy).1
    rw [List.length_append, List.length_singleton] at hlen
    obtain rfl : i = l.length := by omega
    rw [List.getElem?_append_right (Nat.le_refl _), Nat.sub_self] at hy
    obtain rfl : x = y := Option.some.inj hy
    refine ⟨h1, h2, fun j z hj hz => ?_⟩
    rw [List.getElem?_append_left (by omega)] at hz
    exact h3 z (List.mem_of_getElem? hz)
theorem mergeP_listed {a b : List (Int × Int)} : ∀ {k : Nat}, k ≤ 99 → greatP a b k = false → Listed 1 999 (mergeP a b k)
  | 0, _, _ => fun i y hy => by rw [mergeP, List.getElem?_nil] at hy; cases hy
  | k + 1, hk, hg => by
    by_cases h0 : 0 < numE a ((k : Int) + 1) + numE b ((k : Int) + 1)
    · rw [greatP_yes h0, Bool.or_eq_false_iff, decide_eq_false_iff_not] at hg
      rw [mergeP_yes h0]
      refine (mergeP_listed (by omega) hg.1).snoc ⟨by simp only []; omega, by simp only []; omega⟩ ⟨by simp only []; omega, by simp only []; omega⟩ fun y hy => ?_
      have := mergeP_mem hy
      simp only []; omega
    · rw [greatP_no h0] at hg
      rw [mergeP_no h0]
      exact mergeP_listed (by omega) hg
theorem mergeP_congr {a b c d : List (Int × Int)} : ∀ {k : Nat}, (∀ i : Nat, i < k → numE a ((i : Int) + 1) + numE b ((i : Int) + 1) = numE c ((i : Int) + 1) + numE d ((i : Int) + 1)) → mergeP a b k = mergeP c d k
  | 0, _ => rfl
  | k + 1, h => by rw [mergeP, mergeP, mergeP_congr fun i hi => h i (by omega), h k (by omega)]
theorem mergeP_comm (a b : List (Int × Int)) (k : Nat) : mergeP a b k = mergeP b a k := mergeP_congr fun _ _ => Int.add_comm _ _
theorem greatP_comm (a b : List (Int × Int)) (k : Nat) : greatP a b k = greatP b a k := by rw [greatP, greatP, mergeP_comm]
theorem Com.comm {fa ta fb tb F T F' T' : Int} (h : Com fa ta fb tb F T) (h' : Com fb tb fa ta F' T') : F = F' ∧ T = T' := by
  obtain ⟨h1, h2⟩ := h
  obtain ⟨h3, h4⟩ := h'
  split at h1 <;> split at h2 <;> split at h3 <;> split at h4 <;> omega
theorem HV.merge {ia fa ta ib fb tb F T : Int} {la lb : List (Int × Int)} (ha : HV ia la fa ta) (hb : HV ib lb fb tb) (hc : Com fa ta fb tb F T) (hFT : F ≤ T) (hlen : (mergeP la lb 99).length ≤ 32) (hg : greatP la lb 99 = false) :
    HV ia (mergeP la lb 99) F T ∧ totE (mergeP la lb 99) = totE la + totE lb := by
  have hnn : ∀ t, 0 ≤ numE la t + numE lb t := fun t => by have := (ha.nn t).1; have := (hb.nn t).1; omega
  refine ⟨⟨ha.1, ⟨?_, hlen⟩, mergeP_listed (by omega) hg, (hc.yv ha.2.2.2 hb.2.2.2).2 hFT⟩, by rw [mergeP_tot hnn, ha.sum, hb.sum]⟩
  obtain ⟨x, _, h1, h2, h3⟩ := ha.first
  have h4 := mergeP_num hnn x.1 99
  rw [if_pos ⟨h2, h3⟩] at h4
  have h5 := (hb.nn x.1).1
  rcases Nat.eq_zero_or_pos (mergeP la lb 99).length with h6 | h6
  · rw [List.length_eq_zero_iff.1 h6, numE] at h4; omega
  · exact h6
theorem MergeIs.ok {ia fa ta ib fb tb id f t : Int} {la lb L : List (Int × Int)} (h : MergeIs ia la fa ta ib lb fb tb id L f t 0) :
    HV ia la fa ta ∧ HV ib lb fb tb ∧ Com fa ta fb tb f t ∧ f ≤ t ∧ (mergeP la lb 99).length ≤ 32 ∧ greatP la lb 99 = false ∧ ia = id ∧ mergeP la lb 99 = L := by
  rcases h with ⟨_, _, _, _, _, h⟩ | ⟨ha, hb, F, T, hc, ⟨_, _, _, _, _, h⟩ | ⟨_, _, _, _, _, _, h⟩ | ⟨_, _, _, _, _, _, _, h⟩ | ⟨h1, h2, h3, h4, h5, rfl, rfl, _⟩⟩
  · omega
  · omega
  · omega
  · omega
  · exact ⟨ha, hb, hc, h1, h2, h3, h4, h5⟩
theorem MergeIs.bad {ia fa ta ib fb tb id f t err : Int} {la lb L : List (Int × Int)} (h : MergeIs ia la fa ta ib lb fb tb id L f t err) (he : err ≠ 0) : id = 0 ∧ L = [] := by
  rcases h with ⟨_, h1, h2, _⟩ | ⟨_, _, F, T, _, ⟨_, h1, h2, _⟩ | ⟨_, _, h1, h2, _⟩ | ⟨_, _, _, h1, h2, _⟩ | ⟨_, _, _, _, _, _, _, h⟩⟩
  · exact ⟨h1, h2⟩
  · exact ⟨h1, h2⟩
  · exact ⟨h1, h2⟩
  · exact ⟨h1, h2⟩
  · omega
theorem MergeIs.same {ia fa ta ib fb tb ix fx tx e iy fy ty f : Int} {la lb lx ly : List (Int × Int)} (hx : MergeIs ia la fa ta ib lb fb tb ix lx fx tx e) (hy : MergeIs ib lb fb tb ia la fa ta iy ly fy ty f) : e = f := by
  rcases hx with ⟨hn, _, _, _, _, h1⟩ | ⟨ha, hb, F, T, hc, hx⟩
  · rcases hy with ⟨_, _, _, _, _, h2⟩ | ⟨ha, hb, _⟩
    · omega
    · exact absurd ⟨hb, ha⟩ hn
  · rcases hy with ⟨hn, _⟩ | ⟨_, _, F', T', hc', hy⟩
    · exact absurd ⟨hb, ha⟩ hn
    · obtain ⟨rfl, rfl⟩ := hc.comm hc'
      rw [mergeP_comm lb la, greatP_comm lb la] at hy
      rcases hx with ⟨x1, _, _, _, _, x5⟩ | ⟨x1, x2, _, _, _, _, x5⟩ | ⟨x1, x2, x3, _, _, _, _, x5⟩ | ⟨x1, x2, x3, _, _, _, _, x5⟩ <;>
        rcases hy with ⟨y1, _, _, _, _, y5⟩ | ⟨y1, y2, _, _, _, _, y5⟩ | ⟨y1, y2, y3, _, _, _, _, y5⟩ | ⟨y1, y2, y3, _, _, _, _, y5⟩ <;>
        first | omega | (rw [x3] at y3; cases y3)
/-- a merge both ways -/
theorem MergeIs.both {ia fa ta ib fb tb ix fx tx iy fy ty : Int} {la lb lx ly : List (Int × Int)} (hx : MergeIs ia la fa ta ib lb fb tb ix lx fx tx 0) (hy : MergeIs ib lb fb tb ia la fa ta iy ly fy ty 0) :
    ix = ia ∧ iy = ib ∧ ly = lx ∧ fy = fx ∧ ty = tx ∧ HV ia la fa ta ∧ HV ib lb fb tb ∧ HV ia lx fx tx ∧ totE lx = totE la + totE lb := by
  obtain ⟨ha, hb, hc, h1, h2, h3, h4, h5⟩ := hx.ok
  obtain ⟨_, _, hc', _, _, _, h6, h7⟩ := hy.ok
  obtain ⟨h8, h9⟩ := hc.comm hc'
  have := ha.merge hb hc h1 h2 h3
  rw [h5] at this
  exact ⟨h4.symm, h6.symm, by rw [← h7, ← h5, mergeP_comm], h8.symm, h9.symm, ha, hb, this.1, this.2⟩
/-- three hoards, merged either way -/
theorem MergeIs.three {ia fa ta ib fb tb ic fc tc ix fx tx il fl tl ip fp tp ir fr tr : Int} {la lb lc lx ll lp lr : List (Int × Int)} (hx : MergeIs ia la fa ta ib lb fb tb ix lx fx tx 0)
    (hl : MergeIs ix lx fx tx ic lc fc tc il ll fl tl 0) (hp : MergeIs ib lb fb tb ic lc fc tc ip lp fp tp 0) (hr : MergeIs ia la fa ta ip lp fp tp ir lr fr tr 0) : SameH il ll fl tl ir lr fr tr := by
  obtain ⟨ha, hb, hc, _, _, _, x1, x2⟩ := hx.ok
  obtain ⟨_, hv, hc2, _, _, _, l1, l2⟩ := hl.ok
  obtain ⟨_, _, hc3, _, _, _, p1, p2⟩ := hp.ok
  obtain ⟨_, _, hc4, _, _, _, r1, r2⟩ := hr.ok
  refine ⟨by omega, ?_, ?_⟩
  · obtain ⟨a1, a2⟩ := hc
    obtain ⟨b1, b2⟩ := hc2
    obtain ⟨c1, c2⟩ := hc3
    obtain ⟨d1, d2⟩ := hc4
    constructor
    · split at a1 <;> split at b1 <;> split at c1 <;> split at d1 <;> omega
    · split at a2 <;> split at b2 <;> split at c2 <;> split at d2 <;> omega
  · rw [← l2, ← r2]
    have n1 : ∀ t, 0 ≤ numE la t + numE lb t := fun t => by have := (ha.nn t).1; have := (hb.nn t).1; omega
    have n2 : ∀ t, 0 ≤ numE lb t + numE lc t := fun t => by have := (hb.nn t).1; have := (hv.nn t).1; omega
    refine mergeP_congr fun i hi => ?_
    rw [← x2, ← p2, mergeP_num n1, mergeP_num n2, if_pos (by omega), if_pos (by omega)]
    omega
/-- the latest of a list of types -/
def Top (ts l : List (Int × Int)) (r y : Int) : Prop := valE ts r = some y ∧ (∃ x ∈ l, x.1 = r) ∧ ∀ x ∈ l, ∃ v, valE ts x.1 = some v ∧ (v < y ∨ v = y ∧ x.1 ≤ r)
theorem late_top {ts : List (Int × Int)} {r y : Int} : ∀ {l : List (Int × Int)} {s : Int × Int}, (∀ x ∈ l, 1 ≤ x.1 ∧ s.1 < x.1) → l.Pairwise (fun x y => x.1 < y.1) → 0 ≤ s.1 → lateS ts l s = some (r, y) →
    (((r, y) = s ∧ (l = [] ∨ s.1 ≠ 0)) ∨ (valE ts r = some y ∧ ∃ x ∈ l, x.1 = r)) ∧ (∀ x ∈ l, ∃ v, valE ts x.1 = some v ∧ (v < y ∨ v = y ∧ x.1 ≤ r)) ∧ (s.1 ≠ 0 → s.2 < y ∨ s.2 = y ∧ s.1 ≤ r)
  | [], s, _, _, _, h => by
    obtain rfl : s = (r, y) := Option.some.inj h
    exact ⟨.inl ⟨rfl, .inl rfl⟩, fun x hx => (by cases hx), fun _ => .inr ⟨rfl, Int.le_refl _⟩⟩
  | x :: l, s, hk, hp, h0, h => by
    rw [List.pairwise_cons] at hp
    have hx := hk x List.mem_cons_self
    rw [lateS] at h
    cases hv : valE ts x.1 with
    | none => rw [hv] at h; cases h
    | some v =>
      rw [hv] at h
      simp only [] at h
      by_cases hs : s.1 = 0 ∨ s.2 ≤ v
      · rw [stepS, if_pos hs] at h
        obtain ⟨h1, h2, h3⟩ := late_top (s := (x.1, v)) (fun z hz => ⟨(hk z (List.mem_cons_of_mem _ hz)).1, hp.1 z hz⟩) hp.2 (by simp only []; omega) h
        have h4 := h3 (by simp only []; omega)
        simp only [] at h4
        refine ⟨.inr ?_, fun z hz => ?_, fun hn => ?_⟩
        · rcases h1 with ⟨h1, _⟩ | ⟨h1, z, hz, h5⟩
          · injection h1 with e1 e2
            subst e1 e2
            exact ⟨hv, x, List.mem_cons_self, rfl⟩
          · exact ⟨h1, z, List.mem_cons_of_mem _ hz, h5⟩
        · rcases List.mem_cons.1 hz with rfl | hz
          · exact ⟨v, hv, h4⟩
          · exact h2 z hz
        · rcases hs with hs | hs
          · exact absurd hs hn
          · rcases h4 with h4 | h4
            · left; omega
            · by_cases e : s.2 = v
              · right; omega
              · left; omega
      · rw [stepS, if_neg hs] at h
        have hs0 : s.1 ≠ 0 := fun e => hs (.inl e)
        have hsv : v < s.2 := by
          rcases Int.lt_or_le v s.2 with h | h
          · exact h
          · exact absurd (.inr h) hs
        obtain ⟨h1, h2, h3⟩ := late_top (s := s) (fun z hz => hk z (List.mem_cons_of_mem _ hz)) hp.2 h0 h
        have h4 := h3 hs0
        refine ⟨?_, fun z hz => ?_, fun _ => h4⟩
        · rcases h1 with ⟨h1, _⟩ | ⟨h1, z, hz, h5⟩
          · exact .inl ⟨h1, .inr hs0⟩
          · exact .inr ⟨h1, z, List.mem_cons_of_mem _ hz, h5⟩
        · rcases List.mem_cons.1 hz with rfl | hz
          · exact ⟨v, hv, .inl (by omega)⟩
          · exact h2 z hz
theorem pw_keys {lo hi : Int} {l : List (Int × Int)} (h : Listed lo hi l) : l.Pairwise (fun x y => x.1 < y.1) := List.pairwise_map.1 (pw_listed h)
theorem HV.top {id f t r y : Int} {l ts : List (Int × Int)} (h : HV id l f t) (hl : lateS ts l (0, 0) = some (r, y)) : Top ts l r y := by
  obtain ⟨h1, h2, _⟩ := late_top (s := (0, 0)) (fun x hx => by have := (h.2.2.1.mem hx).1; exact ⟨this.1, by simp only []; omega⟩) (pw_keys h.2.2.1) (Int.le_refl _) hl
  rcases h1 with ⟨_, h1 | h1⟩ | ⟨h1, h3⟩
  · have := h.2.1.1; rw [h1] at this; simp at this
  · exact absurd rfl h1
  · exact ⟨h1, h3, h2⟩
theorem late_some {ts : List (Int × Int)} : ∀ {l : List (Int × Int)} {s : Int × Int}, (∀ x ∈ l, ∃ v, valE ts x.1 = some v) → ∃ r y, lateS ts l s = some (r, y)
  | [], s, _ => ⟨s.1, s.2, rfl⟩
  | x :: l, s, h => by
    obtain ⟨v, hv⟩ := h x List.mem_cons_self
    obtain ⟨r, y, hr⟩ := late_some (s := stepS s x.1 v) fun z hz => h z (List.mem_cons_of_mem _ hz)
    exact ⟨r, y, by rw [lateS, hv]; exact hr⟩
theorem LateIs.ok {id f t r : Int} {l ts : List (Int × Int)} (h : LateIs id l f t ts r 0) : HV id l f t ∧ Listed (-9999) 9999 ts ∧ ∃ y, Top ts l r y := by
  rcases h with ⟨_, _, h⟩ | ⟨h1, h2, ⟨_, _, h⟩ | ⟨y, h3, _⟩⟩
  · omega
  · omega
  · exact ⟨h1, h2, y, h1.top h3⟩
theorem LateIs.num {id f t r : Int} {l ts : List (Int × Int)} (h : LateIs id l f t ts r 0) : 1 ≤ numE l r ∧ numE l r ≤ 32000 := by
  obtain ⟨h1, _, y, _, ⟨x, hx, rfl⟩, _⟩ := h.ok
  refine ⟨?_, (h1.nn _).2⟩
  rw [h1.2.2.1.num hx rfl]
  exact (h1.2.2.1.mem hx).2.1
theorem num_mem {lo hi : Int} {l : List (Int × Int)} {s : Int} (h : 0 < numE l s) (_ : Listed lo hi l) : ∃ x ∈ l, x.1 = s := by
  rcases Classical.em (∃ x ∈ l, x.1 = s) with h1 | h1
  · exact h1
  · rw [Listed.num_zero fun x hx e => h1 ⟨x, hx, e⟩] at h; omega
/-- the latest of a merged hoard -/
theorem late_merge {ia fa ta ib fb tb im fm tm rx ry rz err : Int} {la lb lm ts : List (Int × Int)} (hx : LateIs ia la fa ta ts rx 0) (hy : LateIs ib lb fb tb ts ry 0) (hm : MergeIs ia la fa ta ib lb fb tb im lm fm tm 0) (hz : LateIs im lm fm tm ts rz err) :
    err = 0 ∧ (rz = rx ∨ rz = ry) := by
  obtain ⟨ha, hts, yx, tx1, ⟨x, hx1, hx2⟩, tx3⟩ := hx.ok
  obtain ⟨hb, _, yy, ty1, ⟨y, hy1, hy2⟩, ty3⟩ := hy.ok
  obtain ⟨_, _, hc, h1, h2, h3, h4, h5⟩ := hm.ok
  have hv := (ha.merge hb hc h1 h2 h3).1
  rw [h5, h4] at hv
  have hnn : ∀ t, 0 ≤ numE la t + numE lb t := fun t => by have := (ha.nn t).1; have := (hb.nn t).1; omega
  have hmn : ∀ t, 1 ≤ t ∧ t ≤ 99 → numE lm t = numE la t + numE lb t := fun t ht => by rw [← h5, mergeP_num hnn, if_pos (by omega)]
  have hpa : ∀ x ∈ la, ∃ z ∈ lm, z.1 = x.1 := fun x hx => by
    have h6 := ha.2.2.1.mem hx
    refine num_mem ?_ hv.2.2.1
    rw [hmn _ h6.1, ha.2.2.1.num hx rfl]
    have := (hb.nn x.1).1; omega
  have hpb : ∀ x ∈ lb, ∃ z ∈ lm, z.1 = x.1 := fun x hx => by
    have h6 := hb.2.2.1.mem hx
    refine num_mem ?_ hv.2.2.1
    rw [hmn _ h6.1, hb.2.2.1.num hx rfl]
    have := (ha.nn x.1).1; omega
  have hab : ∀ z ∈ lm, (∃ x ∈ la, x.1 = z.1) ∨ (∃ x ∈ lb, x.1 = z.1) := fun z hz => by
    have h6 := hv.2.2.1.mem hz
    have h7 := hv.2.2.1.num hz rfl
    rw [hmn _ h6.1] at h7
    by_cases h8 : 0 < numE la z.1
    · exact .inl (num_mem h8 ha.2.2.1)
    · exact .inr (num_mem (by omega) hb.2.2.1)
  have hall : ∀ z ∈ lm, ∃ v, valE ts z.1 = some v := fun z hz => by
    rcases hab z hz with ⟨x, hx, h⟩ | ⟨x, hx, h⟩
    · obtain ⟨v, h6, _⟩ := tx3 x hx; exact ⟨v, by rw [← h]; exact h6⟩
    · obtain ⟨v, h6, _⟩ := ty3 x hx; exact ⟨v, by rw [← h]; exact h6⟩
  have he : err = 0 := by
    rcases hz with ⟨hn, _⟩ | ⟨_, _, ⟨h6, _⟩ | ⟨_, _, h⟩⟩
    · exact absurd ⟨hv, hts⟩ hn
    · obtain ⟨r, y, h7⟩ := late_some (s := (0, 0)) hall
      rw [h7] at h6; cases h6
    · exact h
  subst he
  refine ⟨rfl, ?_⟩
  obtain ⟨_, _, yz, tz1, ⟨z, hz1, hz2⟩, tz3⟩ := hz.ok
  rcases hab z hz1 with ⟨p, hp, h⟩ | ⟨p, hp, h⟩
  · left
    obtain ⟨v, h6, h7⟩ := tx3 p hp
    rw [h, hz2] at h6 h7
    obtain rfl : yz = v := Option.some.inj (tz1.symm.trans h6)
    obtain ⟨q, hq, h8⟩ := hpa x hx1
    obtain ⟨v, h9, h10⟩ := tz3 q hq
    rw [h8, hx2] at h9 h10
    obtain rfl : yx = v := Option.some.inj (tx1.symm.trans h9)
    omega
  · right
    obtain ⟨v, h6, h7⟩ := ty3 p hp
    rw [h, hz2] at h6 h7
    obtain rfl : yz = v := Option.some.inj (tz1.symm.trans h6)
    obtain ⟨q, hq, h8⟩ := hpb y hy1
    obtain ⟨v, h9, h10⟩ := tz3 q hq
    rw [h8, hy2] at h9 h10
    obtain rfl : yy = v := Option.some.inj (ty1.symm.trans h9)
    omega
end Go.Proofs.YthempimelfmipaaGreatDoor

namespace Go.Proofs.YthempimelfmipaaGreatDoor
open Go.RowKit Go.Proofs Go

theorem sumE_eq (l : List (Int × Int)) : ∀ k, sumE l k = sumN l k
  | 0 => rfl
  | k + 1 => by rw [sumE, sumN, sumE_eq l k]
theorem mul_bd32 {x y : Int} (h1 : 0 ≤ x) (h2 : x ≤ 32000) (h3 : 0 ≤ y) (h4 : y ≤ 32000) : 0 ≤ x * y ∧ x * y ≤ 1024000000 := by
  refine ⟨Int.mul_nonneg h1 h3, ?_⟩
  have := Int.mul_le_mul h2 h4 h3 (by omega)
  omega
section
variable {ia fa ta ib fb tb : Int} {la lb : List (Int × Int)}
theorem tots (va : HV ia la fa ta) (vb : HV ib lb fb tb) : 0 < totE la * totE lb ∧ totE la * totE lb ≤ 1024000000 := by
  have h1 := va.pos; have h2 := vb.pos; have h3 := va.tt; have h4 := vb.tt
  exact ⟨Int.mul_pos (by omega) (by omega), (mul_bd32 (by omega) (by omega) (by omega) (by omega)).2⟩
theorem sumD_bd (va : HV ia la fa ta) (vb : HV ib lb fb tb) {k : Nat} (hk : k ≤ 99) : 0 ≤ sumD la lb k ∧ sumD la lb k ≤ 2 * (totE la * totE lb) := by
  have h1 := va.pos; have h2 := vb.pos
  refine ⟨sumD_nn _ _ _, Int.le_trans (sumD_le (by omega) (by omega) (fun t => (va.nn t).1) (fun t => (vb.nn t).1) k) ?_⟩
  have h3 := (va.sums hk); have h4 := (vb.sums hk)
  rw [va.sum] at h3
  rw [vb.sum] at h4
  rw [sumE_eq, sumE_eq]
  have h5 := Int.mul_le_mul_of_nonneg_right h3.2 (show 0 ≤ totE lb by omega)
  have h6 := Int.mul_le_mul_of_nonneg_right h4.2 (show 0 ≤ totE la by omega)
  rw [Int.mul_comm (totE lb) (totE la)] at h6
  omega
theorem coD_sz (va : HV ia la fa ta) (vb : HV ib lb fb tb) {k : Nat} (hk : k ≤ 99) : Sz (coD la lb k) 2 := by
  have h1 := tots va vb; have h2 := sumD_bd va vb hk
  rw [coD]
  exact quo_sz (by omega) (by omega) (by omega) (by omega)
theorem dif_bd (va : HV ia la fa ta) (vb : HV ib lb fb tb) (t : Int) : (-1024000000 ≤ numE la t * totE lb - numE lb t * totE la ∧ numE la t * totE lb - numE lb t * totE la ≤ 1024000000) ∧ (0 ≤ difT la lb t ∧ difT la lb t ≤ 1024000000) := by
  have h1 := va.nn t; have h2 := vb.nn t; have h3 := va.tt; have h4 := vb.tt
  have h5 := mul_bd32 h1.1 h1.2 h4.1 h4.2
  have h6 := mul_bd32 h2.1 h2.2 h3.1 h3.2
  rw [difT, mag]
  split <;> omega
end
theorem fofq {w : World} {u : Rat} {x y : Int} (hy : 0 < y) (hu : Hid (quo x y = u)) (hx1 : -1000000000 < x) (hx2 : x < 1000000000) (hy2 : y < 1000000000) : Calls Tryz.prog 19 #[.int .i64 x, .int .i64 y] w (RetG w u 1) :=
  fof_h (Lib.hid ((of_quo x hy).trans hu.out)) (hu.out ▸ quo_sz1 hx1 hx2 hy hy2) (by omega) (by omega) (by omega) (by omega)
set_option maxHeartbeats 8000000 in
set_option maxRecDepth 100000 in
theorem coef_any {ia fa ta ib fb tb : Int} {u : Rat} (Aa Ab : Option Addr) (ca cb : Nat) (la lb : List (Int × Int)) (w : World) (HA : Es w Aa la) (HB : Es w Ab lb) (hla : la.length ≤ 9223372036854775807) (hlb : lb.length ≤ 9223372036854775807) (va : HV ia la fa ta) (vb : HV ib lb fb tb) (hu : Hid (coD la lb 99 = u)) :
    Calls Tryz.prog 41 #[.agg #[.int .i64 ia, .slice Aa la.length ca, .int .i64 fa, .int .i64 ta], .agg #[.int .i64 ib, .slice Ab lb.length cb, .int .i64 fb, .int .i64 tb]] w (RetG w u 2) := by
  have hpa := va.pos
  have hpb := vb.pos
  have VA := Lib.hid va
  have VB := Lib.hid vb
  obtain ⟨q0, hq0⟩ : ∃ q, Hid (coD la lb 0 = q) := ⟨_, Lib.hid rfl⟩
  have HO0 : Hid (quo 200 1 = q0) := Lib.hid ((coD_start (by omega) (by omega)).symm.trans hq0.out)
  obtain ⟨o1, HO1⟩ : ∃ o, Hid (quo 100 1 = o) := ⟨_, Lib.hid rfl⟩
  clear va vb
  go_enter Tryz.func41, Tryz.ntmps41
  go_wp2_with fail
  have HWA := HA
  have HWB := HB
  have HX := BL.three w #[.int .i64 ia, .slice Aa la.length ca, .int .i64 fa, .int .i64 ta] #[.int .i64 ib, .slice Ab lb.length cb, .int .i64 fb, .int .i64 tb] #[.bool false, .slice none 0 0, .slice none 0 0] 26 26 33
  replace HA := HA.ext HX.below
  replace HB := HB.ext HX.below
  refine (fofq (by decide) HO0 (by decide) (by decide) (by decide)).mono ?_
  rintro e w2 ⟨A3, c3, B3, d3, rfl, F3, hb⟩
  replace HX := HX.ext hb
  replace HA := HA.ext hb
  replace HB := HB.ext hb
  clear hb
  replace F3 : Fc w2 A3 c3 B3 d3 q0 2 := ⟨F3.num, F3.den, hq0.out ▸ coD_sz VA.out VB.out (by omega)⟩
  go_upto_region 2 with fail
  have hlg30 := HX.lt 0 rfl
  simp only [] at hlg30
  have hlg31 := HX.lt 1 rfl
  simp only [] at hlg31
  have hlg32 := HX.lt 2 rfl
  simp only [] at hlg32
  have hb := below_alloc w2 (.cells #[.bool (sg q0), .slice A3 (dig (nu q0)).length c3, .slice B3 (dig q0.den).length d3] 33)
  replace HX := HX.new #[.bool (sg q0), .slice A3 (dig (nu q0)).length c3, .slice B3 (dig q0.den).length d3] 33
  simp only [List.cons_append, List.nil_append] at HX
  replace HA := HA.ext hb
  replace HB := HB.ext hb
  replace F3 := F3.ext hb
  clear hb
  generalize w2.alloc (.cells #[.bool (sg q0), .slice A3 (dig (nu q0)).length c3, .slice B3 (dig q0.den).length d3] 33) = V3 at *
  generalize w2.heap.size = g3 at *
  go_wp2
  go_loopg [6] 99 (fun kk v wr => ∃ (k : Nat) (q : Rat) (A3 B3 : Option Addr) (c3 d3 : Nat), k + kk = 99 ∧ v = .int .i64 ((k : Int) + 1) ∧ Hid (coD la lb k = q) ∧ Fc wr A3 c3 B3 d3 q 2 ∧ BL w wr [(w.heap.size, #[.int .i64 ia, .slice Aa la.length ca, .int .i64 fa, .int .i64 ta], 26), (w.heap.size + 1, #[.int .i64 ib, .slice Ab lb.length cb, .int .i64 fb, .int .i64 tb], 26), (w.heap.size + 2, #[.bool false, .slice none 0 0, .slice none 0 0], 33), (g3, #[.bool (sg q), .slice A3 (dig (nu q)).length c3, .slice B3 (dig q.den).length d3], 33)])
  case atStart => exact ⟨0, q0, A3, B3, c3, d3, rfl, rfl, hq0, F3, HX⟩
  case round =>
    clear HX F3 HA HB hq0 HO0
    obtain ⟨k, q, A3, B3, c3, d3, hk, rfl, HQ, F3, HX⟩ := hrel
    by_cases hk0 : k < 99
    · have HA : Es wr Aa la := HWA.ext HX.below
      have HB : Es wr Ab lb := HWB.ext HX.below
      obtain ⟨q2, HQ2⟩ : ∃ q, Hid (shq la ((k : Int) + 1) = q) := ⟨_, Lib.hid rfl⟩
      obtain ⟨q3, HQ3⟩ : ∃ q, Hid (shq lb ((k : Int) + 1) = q) := ⟨_, Lib.hid rfl⟩
      obtain ⟨q4, HQ4⟩ : ∃ q, Hid (q2 - q3 = q) := ⟨_, Lib.hid rfl⟩
      have hq4 : Hid (quo (numE la ((k : Int) + 1) * totE lb - numE lb ((k : Int) + 1) * totE la) (totE la * totE lb) = q4) := Lib.hid (by rw [← HQ4.out, ← HQ2.out, ← HQ3.out, dif_quo (by omega) (by omega) (VA.out.nn _).1 (VB.out.nn _).1])
      have htt := tots VA.out VB.out
      have hdb := dif_bd VA.out VB.out ((k : Int) + 1)
      have z4 : Sz q4 2 := hq4.out ▸ quo_sz (by omega) (by omega) (by omega) (by omega)
      obtain ⟨q5, hq5⟩ : ∃ q, Hid (quo (-(difT la lb ((k : Int) + 1))) (totE la * totE lb) = q) := ⟨_, Lib.hid rfl⟩
      have z5 : Sz q5 2 := hq5.out ▸ quo_sz (by omega) (by omega) (by omega) (by omega)
      obtain ⟨q6, HM6⟩ : ∃ q, Hid (q5 * o1 = q) := ⟨_, Lib.hid rfl⟩
      have z6 : Sz q6 2 := by
        rw [← HM6.out, ← hq5.out, ← HO1.out, quo_mul _ _ (by omega) (by omega), Int.mul_one]
        exact quo_sz (by omega) (by omega) (by omega) (by omega)
      obtain ⟨q7, HQ7⟩ : ∃ q, Hid (coD la lb (k + 1) = q) := ⟨_, Lib.hid rfl⟩
      have z7 : Sz q7 2 := HQ7.out ▸ coD_sz VA.out VB.out (by omega)
      have HA7 : Hid (q + q6 = q7) := Lib.hid (by rw [← HQ7.out, coD_step (by omega) (by omega), HQ.out, hq5.out, HO1.out, HM6.out])
      obtain ⟨x, HS⟩ : ∃ x, Hid (sgn q4 = x) := ⟨_, Lib.hid rfl⟩
      have hcase : Hid ((0 < x ∧ -q4 = q5) ∨ (x ≤ 0 ∧ q4 = q5)) := Lib.hid (by
        have h1 := HS.out
        rw [← hq4.out, sgn_quo _ (by omega)] at h1
        by_cases hN : 0 < numE la ((k : Int) + 1) * totE lb - numE lb ((k : Int) + 1) * totE la
        · rw [if_neg (by omega), if_neg (by omega)] at h1
          refine .inl ⟨by omega, ?_⟩
          rw [← hq4.out, ← hq5.out, quo_neg, difT, mag, if_neg (by omega)]
        · refine .inr ⟨by split at h1 <;> (try split at h1) <;> omega, ?_⟩
          rw [← hq4.out, ← hq5.out, difT, mag]
          congr 1
          split <;> omega)
      clear htt hdb hq4 hq5 HQ
      have hi1 : (1 : Int) ≤ (k : Int) + 1 := by omega
      have hi2 : (k : Int) + 1 ≤ 99 := by omega
      generalize wr = V5 at *
      have hc00 := HX.cell 0 0 rfl rfl
      have hc01 := HX.cell 0 1 rfl rfl
      have hc02 := HX.cell 0 2 rfl rfl
      have hc03 := HX.cell 0 3 rfl rfl
      try simp only [List.getElem_toArray, List.getElem_cons_zero, List.getElem_cons_succ] at hc00 hc01 hc02 hc03
      go_wp2_with fail
      refine (hshare_yes Aa ca la _ HA hla VA.out HQ2).mono ?_
      rintro e w6 ⟨A6, c6, B6, d6, rfl, F6, hb⟩
      clear hc00 hc01 hc02 hc03
      replace HX := HX.ext hb
      replace HB := HB.ext hb
      replace F3 := F3.ext hb
      clear hb
      go_upto_region 6 with fail
      have hlg60 := HX.lt 0 rfl
      simp only [] at hlg60
      have hlg61 := HX.lt 1 rfl
      simp only [] at hlg61
      have hlg62 := HX.lt 2 rfl
      simp only [] at hlg62
      have hlg63 := HX.lt 3 rfl
      simp only [] at hlg63
      have hb := below_alloc w6 (.cells #[.bool (sg q2), .slice A6 (dig (nu q2)).length c6, .slice B6 (dig q2.den).length d6] 33)
      replace HX := HX.new #[.bool (sg q2), .slice A6 (dig (nu q2)).length c6, .slice B6 (dig q2.den).length d6] 33
      simp only [List.cons_append, List.nil_append] at HX
      replace HB := HB.ext hb
      replace F3 := F3.ext hb
      replace F6 := F6.ext hb
      clear hb
      generalize w6.alloc (.cells #[.bool (sg q2), .slice A6 (dig (nu q2)).length c6, .slice B6 (dig q2.den).length d6] 33) = V6 at *
      generalize w6.heap.size = g6 at *
      have hc10 := HX.cell 1 0 rfl rfl
      have hc11 := HX.cell 1 1 rfl rfl
      have hc12 := HX.cell 1 2 rfl rfl
      have hc13 := HX.cell 1 3 rfl rfl
      try simp only [List.getElem_toArray, List.getElem_cons_zero, List.getElem_cons_succ] at hc10 hc11 hc12 hc13
      go_wp2_with fail
      refine (hshare_yes Ab cb lb _ HB hlb VB.out HQ3).mono ?_
      rintro e w7 ⟨A7, c7, B7, d7, rfl, F7, hb⟩
      clear hc10 hc11 hc12 hc13
      replace HX := HX.ext hb
      replace F3 := F3.ext hb
      replace F6 := F6.ext hb
      clear hb
      go_upto_region 7 with fail
      have hlg70 := HX.lt 0 rfl
      simp only [] at hlg70
      have hlg71 := HX.lt 1 rfl
      simp only [] at hlg71
      have hlg72 := HX.lt 2 rfl
      simp only [] at hlg72
      have hlg73 := HX.lt 3 rfl
      simp only [] at hlg73
      have hlg74 := HX.lt 4 rfl
      simp only [] at hlg74
      have hb := below_alloc w7 (.cells #[.bool (sg q3), .slice A7 (dig (nu q3)).length c7, .slice B7 (dig q3.den).length d7] 33)
      replace HX := HX.new #[.bool (sg q3), .slice A7 (dig (nu q3)).length c7, .slice B7 (dig q3.den).length d7] 33
      simp only [List.cons_append, List.nil_append] at HX
      replace F3 := F3.ext hb
      replace F6 := F6.ext hb
      replace F7 := F7.ext hb
      clear hb
      generalize w7.alloc (.cells #[.bool (sg q3), .slice A7 (dig (nu q3)).length c7, .slice B7 (dig q3.den).length d7] 33) = V7 at *
      generalize w7.heap.size = g7 at *
      have hc40 := HX.cell 4 0 rfl rfl
      have hc41 := HX.cell 4 1 rfl rfl
      have hc42 := HX.cell 4 2 rfl rfl
      try simp only [List.getElem_toArray, List.getElem_cons_zero, List.getElem_cons_succ] at hc40 hc41 hc42
      have hc50 := HX.cell 5 0 rfl rfl
      have hc51 := HX.cell 5 1 rfl rfl
      have hc52 := HX.cell 5 2 rfl rfl
      try simp only [List.getElem_toArray, List.getElem_cons_zero, List.getElem_cons_succ] at hc50 hc51 hc52
      go_wp2_with fail
      refine (fsub_h HQ4 z4 F6.fr F7.fr (by omega) (by omega)).mono ?_
      rintro e w8 ⟨A8, c8, B8, d8, rfl, F8, hb⟩
      clear F6 F7 HA HB
      clear hc40 hc41 hc42
      clear hc50 hc51 hc52
      replace HX := HX.ext hb
      replace F3 := F3.ext hb
      clear hb
      go_upto_region 8 with fail
      have hlg80 := HX.lt 0 rfl
      simp only [] at hlg80
      have hlg81 := HX.lt 1 rfl
      simp only [] at hlg81
      have hlg82 := HX.lt 2 rfl
      simp only [] at hlg82
      have hlg83 := HX.lt 3 rfl
      simp only [] at hlg83
      have hlg84 := HX.lt 4 rfl
      simp only [] at hlg84
      have hlg85 := HX.lt 5 rfl
      simp only [] at hlg85
      have hb := below_alloc w8 (.cells #[.bool (sg q4), .slice A8 (dig (nu q4)).length c8, .slice B8 (dig q4.den).length d8] 33)
      replace HX := HX.new #[.bool (sg q4), .slice A8 (dig (nu q4)).length c8, .slice B8 (dig q4.den).length d8] 33
      simp only [List.cons_append, List.nil_append] at HX
      replace F3 := F3.ext hb
      replace F8 := F8.ext hb
      clear hb
      generalize w8.alloc (.cells #[.bool (sg q4), .slice A8 (dig (nu q4)).length c8, .slice B8 (dig q4.den).length d8] 33) = V8 at *
      generalize w8.heap.size = g8 at *
      have hc60 := HX.cell 6 0 rfl rfl
      have hc61 := HX.cell 6 1 rfl rfl
      have hc62 := HX.cell 6 2 rfl rfl
      try simp only [List.getElem_toArray, List.getElem_cons_zero, List.getElem_cons_succ] at hc60 hc61 hc62
      go_wp2_with fail
      refine (fsign_h HS F8.fr (by omega)).mono ?_
      rintro e w9 ⟨rfl, hb⟩
      clear hc60 hc61 hc62
      replace HX := HX.ext hb
      replace F3 := F3.ext hb
      replace F8 := F8.ext hb
      clear hb
      rcases hcase.out with ⟨hx, hn⟩ | ⟨hx, rfl⟩
      · have HN := Lib.hid hn
        have hdx : decide (0 < x) = true := decide_eq_true hx
        clear hn hcase
        have hc60 := HX.cell 6 0 rfl rfl
        have hf60 := HX.free 6 0 rfl
        have hc61 := HX.cell 6 1 rfl rfl
        have hf61 := HX.free 6 1 rfl
        have hc62 := HX.cell 6 2 rfl rfl
        have hf62 := HX.free 6 2 rfl
        try simp only [List.getElem_toArray, List.getElem_cons_zero, List.getElem_cons_succ] at hc60 hf60 hc61 hf61 hc62 hf62
        go_wp2_with fail
        refine (fneg_h HN z5 F8.fr (by omega)).mono ?_
        rintro e w10 ⟨A9, c9, B9, d9, rfl, F9, hb⟩
        clear F8
        clear hc60 hf60 hc61 hf61 hc62 hf62
        replace HX := HX.ext hb
        replace F3 := F3.ext hb
        clear hb
        have hc60 := HX.cell 6 0 rfl rfl
        have hf60 := HX.free 6 0 rfl
        have hc61 := HX.cell 6 1 rfl rfl
        have hf61 := HX.free 6 1 rfl
        have hc62 := HX.cell 6 2 rfl rfl
        have hf62 := HX.free 6 2 rfl
        try simp only [List.getElem_toArray, List.getElem_cons_zero, List.getElem_cons_succ] at hc60 hf60 hc61 hf61 hc62 hf62
        go_upto_region 10 with fail
        clear hc60 hf60 hc61 hf61 hc62 hf62
        have hl0 := HX.lt 0 rfl
        have hl1 := HX.lt 1 rfl
        have hl2 := HX.lt 2 rfl
        have hl3 := HX.lt 3 rfl
        have hl4 := HX.lt 4 rfl
        have hl5 := HX.lt 5 rfl
        have hl6 := HX.lt 6 rfl
        simp only [] at hl0 hl1 hl2 hl3 hl4 hl5 hl6
        have hk := HX.keep3 6 rfl rfl rfl rfl (by omega) (.bool (sg q5)) (.slice A9 (dig (nu q5)).length c9) (.slice B9 (dig q5.den).length d9)
        replace HX := HX.put3 6 rfl (by omega) (by intro k q hk hne; match k, hk with | 0, hk => (simp at hk; subst hk; simp at hne ⊢; try omega) | 1, hk => (simp at hk; subst hk; simp at hne ⊢; try omega) | 2, hk => (simp at hk; subst hk; simp at hne ⊢; try omega) | 3, hk => (simp at hk; subst hk; simp at hne ⊢; try omega) | 4, hk => (simp at hk; subst hk; simp at hne ⊢; try omega) | 5, hk => (simp at hk; subst hk; simp at hne ⊢; try omega) | 6, hk => (simp at hk; subst hk; simp at hne ⊢; try omega) | k + 7, hk => simp at hk) (.bool (sg q5)) (.slice A9 (dig (nu q5)).length c9) (.slice B9 (dig q5.den).length d9)
        replace F9 := F9.stay hk
        replace F3 := F3.stay hk
        clear hk
        simp only [List.set_cons_zero, List.set_cons_succ] at HX
        generalize ((w10.setCell ⟨g8, 0, none⟩ (.bool (sg q5))).setCell ⟨g8, 1, none⟩ (.slice A9 (dig (nu q5)).length c9)).setCell ⟨g8, 2, none⟩ (.slice B9 (dig q5.den).length d9) = V9 at *
        skip
        refine wp_region_x (al := []) (late := [5]) (dst := fun i => 0) (zt := fun _ => (#[], 0)) (B := V9.heap.size) (n := 5) (r := 1) (by kernel_rfl) (by kernel_rfl) (by decide) ?_ (by kernel_rfl) (by kernel_rfl) (by intro _ _ _ d _ h; cases d <;> exact h) (sz := 6) (by rfl) (by rfl) (Nat.le_refl _) ?_
        · intro i hi; cases hi
        have hE : Ext V9 V9.drew := drew_ext V9
        replace HX := HX.ext hE
        replace F3 := F3.ext hE
        replace F9 := F9.ext hE
        clear hE
        refine wpX_take (i := 0) (v := .agg #[.bool (sg q), .slice A3 (dig (nu q)).length c3, .slice B3 (dig q.den).length d3]) rfl (by kernel_rfl) (by kernel_rfl) (by kernel_rfl) (fun _ _ _ h => h) (Or.inl ⟨by rfl, fun W hW => ?_⟩) ?_
        · have h0 := (HX.ext hW).cell 3 0 rfl rfl
          have h1 := (HX.ext hW).cell 3 1 rfl rfl
          have h2 := (HX.ext hW).cell 3 2 rfl rfl
          simp only [] at h0 h1 h2
          go_simp
          try rfl
        try simp only [Act.put, List.setIfInBounds_toArray]
        refine wpX_take (i := 1) (v := .agg #[.bool (sg q5), .slice A9 (dig (nu q5)).length c9, .slice B9 (dig q5.den).length d9]) rfl (by kernel_rfl) (by kernel_rfl) (by kernel_rfl) (fun _ _ _ h => h) (Or.inl ⟨by rfl, fun W hW => ?_⟩) ?_
        · have h0 := (HX.ext hW).cell 6 0 rfl rfl
          have h1 := (HX.ext hW).cell 6 1 rfl rfl
          have h2 := (HX.ext hW).cell 6 2 rfl rfl
          simp only [] at h0 h1 h2
          go_simp
          try rfl
        try simp only [Act.put]
        refine wpX_step (i := 2) (by kernel_rfl) rfl (fun W1 K hE hK => ?_)
        replace HX := HX.ext hE
        replace F3 := F3.ext hE
        replace F9 := F9.ext hE
        clear hE
        go_simp
        refine (fofq (by decide) HO1 (by decide) (by decide) (by decide)).mono ?_
        rintro e W2 ⟨A10, c10, B10, d10, rfl, F10, hb⟩
        go_wp2_with fail
        refine hK.out _ _ hb ?_
        clear hK K
        replace HX := HX.ext hb
        replace F3 := F3.ext hb
        replace F9 := F9.ext hb
        clear hb
        try simp only [Act.put, List.setIfInBounds_toArray, List.set_cons_zero, List.set_cons_succ]
        skip
        refine wpX_step (i := 3) (by kernel_rfl) rfl (fun W1 K hE hK => ?_)
        replace HX := HX.ext hE
        replace F3 := F3.ext hE
        replace F9 := F9.ext hE
        replace F10 := F10.ext hE
        clear hE
        go_simp
        refine (fmul_h HM6 z6 F9.fr F10.fr (by omega) (by omega)).mono ?_
        rintro e W2 ⟨A11, c11, B11, d11, rfl, F11, hb⟩
        go_wp2_with fail
        refine hK.out _ _ hb ?_
        clear hK K
        replace HX := HX.ext hb
        replace F3 := F3.ext hb
        replace F9 := F9.ext hb
        replace F10 := F10.ext hb
        clear hb
        try simp only [Act.put, List.setIfInBounds_toArray, List.set_cons_zero, List.set_cons_succ]
        skip
        refine wpX_step (i := 4) (by kernel_rfl) rfl (fun W1 K hE hK => ?_)
        replace HX := HX.ext hE
        replace F3 := F3.ext hE
        replace F9 := F9.ext hE
        replace F10 := F10.ext hE
        replace F11 := F11.ext hE
        clear hE
        go_simp
        refine (fadd_h HA7 z7 F3.fr F11.fr (by omega) (by omega)).mono ?_
        rintro e W2 ⟨A12, c12, B12, d12, rfl, F12, hb⟩
        go_wp2_with fail
        refine hK.out _ _ hb ?_
        clear hK K
        replace HX := HX.ext hb
        replace F3 := F3.ext hb
        replace F9 := F9.ext hb
        replace F10 := F10.ext hb
        replace F11 := F11.ext hb
        clear hb
        try simp only [Act.put, List.setIfInBounds_toArray, List.set_cons_zero, List.set_cons_succ]
        skip
        clear F3 F9 F10 F11
        refine wpX_end (by kernel_rfl) (fun W12 ga m hE hg hm => ?_)
        replace HX := HX.ext hE
        replace F12 := F12.ext hE
        clear hE
        clear hg
        simp only [putAll, setAll]
        clear ga
        have hc30 := HX.cell 3 0 rfl rfl
        have hf30 := HX.free 3 0 rfl
        have hc31 := HX.cell 3 1 rfl rfl
        have hf31 := HX.free 3 1 rfl
        have hc32 := HX.cell 3 2 rfl rfl
        have hf32 := HX.free 3 2 rfl
        try simp only [List.getElem_toArray, List.getElem_cons_zero, List.getElem_cons_succ] at hc30 hf30 hc31 hf31 hc32 hf32
        refine wpAny_step (i := 5) (by kernel_rfl) rfl (by omega) (fun K hK => ?_)
        go_simp
        refine hK.out _ _ ?_
        clear hK K
        clear hc30 hf30 hc31 hf31 hc32 hf32
        have hk := HX.keep3 3 rfl rfl rfl rfl (by omega) (.bool (sg q7)) (.slice A12 (dig (nu q7)).length c12) (.slice B12 (dig q7.den).length d12)
        replace HX := HX.put3 3 rfl (by omega) (by intro k q hk hne; match k, hk with | 0, hk => (simp at hk; subst hk; simp at hne ⊢; try omega) | 1, hk => (simp at hk; subst hk; simp at hne ⊢; try omega) | 2, hk => (simp at hk; subst hk; simp at hne ⊢; try omega) | 3, hk => (simp at hk; subst hk; simp at hne ⊢; try omega) | 4, hk => (simp at hk; subst hk; simp at hne ⊢; try omega) | 5, hk => (simp at hk; subst hk; simp at hne ⊢; try omega) | 6, hk => (simp at hk; subst hk; simp at hne ⊢; try omega) | k + 7, hk => simp at hk) (.bool (sg q7)) (.slice A12 (dig (nu q7)).length c12) (.slice B12 (dig q7.den).length d12)
        replace F12 := F12.stay hk
        clear hk
        simp only [List.set_cons_zero, List.set_cons_succ] at HX
        refine wpAny_done (by kernel_rfl) ?_ _
        generalize ((W12.setCell ⟨g3, 0, none⟩ (.bool (sg q7))).setCell ⟨g3, 1, none⟩ (.slice A12 (dig (nu q7)).length c12)).setCell ⟨g3, 2, none⟩ (.slice B12 (dig q7.den).length d12) = W13 at *
        replace HX := HX.front 4
        simp only [List.take_succ_cons, List.take_zero] at HX
        go_wp2
        go_roundg (99 - (k + 1))
        case measure => omega
        case rel => exact ⟨k + 1, q7, A12, B12, c12, d12, by omega, by go_num, HQ7, F12, HX⟩
      · have hdx : decide (0 < x) = false := decide_eq_false (by omega)
        clear hcase
        have F9 := F8
        obtain ⟨A9, hA9⟩ : ∃ A, A8 = A := ⟨_, rfl⟩
        subst hA9
        generalize w9 = V9 at *
        go_upto_region 10 with fail
        refine wp_region_x (al := []) (late := [5]) (dst := fun i => 0) (zt := fun _ => (#[], 0)) (B := V9.heap.size) (n := 5) (r := 1) (by kernel_rfl) (by kernel_rfl) (by decide) ?_ (by kernel_rfl) (by kernel_rfl) (by intro _ _ _ d _ h; cases d <;> exact h) (sz := 6) (by rfl) (by rfl) (Nat.le_refl _) ?_
        · intro i hi; cases hi
        have hE : Ext V9 V9.drew := drew_ext V9
        replace HX := HX.ext hE
        replace F3 := F3.ext hE
        replace F9 := F9.ext hE
        clear hE
        refine wpX_take (i := 0) (v := .agg #[.bool (sg q), .slice A3 (dig (nu q)).length c3, .slice B3 (dig q.den).length d3]) rfl (by kernel_rfl) (by kernel_rfl) (by kernel_rfl) (fun _ _ _ h => h) (Or.inl ⟨by rfl, fun W hW => ?_⟩) ?_
        · have h0 := (HX.ext hW).cell 3 0 rfl rfl
          have h1 := (HX.ext hW).cell 3 1 rfl rfl
          have h2 := (HX.ext hW).cell 3 2 rfl rfl
          simp only [] at h0 h1 h2
          go_simp
          try rfl
        try simp only [Act.put, List.setIfInBounds_toArray]
        refine wpX_take (i := 1) (v := .agg #[.bool (sg q4), .slice A8 (dig (nu q4)).length c8, .slice B8 (dig q4.den).length d8]) rfl (by kernel_rfl) (by kernel_rfl) (by kernel_rfl) (fun _ _ _ h => h) (Or.inl ⟨by rfl, fun W hW => ?_⟩) ?_
        · have h0 := (HX.ext hW).cell 6 0 rfl rfl
          have h1 := (HX.ext hW).cell 6 1 rfl rfl
          have h2 := (HX.ext hW).cell 6 2 rfl rfl
          simp only [] at h0 h1 h2
          go_simp
          try rfl
        try simp only [Act.put]
        refine wpX_step (i := 2) (by kernel_rfl) rfl (fun W1 K hE hK => ?_)
        replace HX := HX.ext hE
        replace F3 := F3.ext hE
        replace F9 := F9.ext hE
        clear hE
        go_simp
        refine (fofq (by decide) HO1 (by decide) (by decide) (by decide)).mono ?_
        rintro e W2 ⟨A10, c10, B10, d10, rfl, F10, hb⟩
        go_wp2_with fail
        refine hK.out _ _ hb ?_
        clear hK K
        replace HX := HX.ext hb
        replace F3 := F3.ext hb
        replace F9 := F9.ext hb
        clear hb
        try simp only [Act.put, List.setIfInBounds_toArray, List.set_cons_zero, List.set_cons_succ]
        skip
        refine wpX_step (i := 3) (by kernel_rfl) rfl (fun W1 K hE hK => ?_)
        replace HX := HX.ext hE
        replace F3 := F3.ext hE
        replace F9 := F9.ext hE
        replace F10 := F10.ext hE
        clear hE
        go_simp
        refine (fmul_h HM6 z6 F9.fr F10.fr (by omega) (by omega)).mono ?_
        rintro e W2 ⟨A11, c11, B11, d11, rfl, F11, hb⟩
        go_wp2_with fail
        refine hK.out _ _ hb ?_
        clear hK K
        replace HX := HX.ext hb
        replace F3 := F3.ext hb
        replace F9 := F9.ext hb
        replace F10 := F10.ext hb
        clear hb
        try simp only [Act.put, List.setIfInBounds_toArray, List.set_cons_zero, List.set_cons_succ]
        skip
        refine wpX_step (i := 4) (by kernel_rfl) rfl (fun W1 K hE hK => ?_)
        replace HX := HX.ext hE
        replace F3 := F3.ext hE
        replace F9 := F9.ext hE
        replace F10 := F10.ext hE
        replace F11 := F11.ext hE
        clear hE
        go_simp
        refine (fadd_h HA7 z7 F3.fr F11.fr (by omega) (by omega)).mono ?_
        rintro e W2 ⟨A12, c12, B12, d12, rfl, F12, hb⟩
        go_wp2_with fail
        refine hK.out _ _ hb ?_
        clear hK K
        replace HX := HX.ext hb
        replace F3 := F3.ext hb
        replace F9 := F9.ext hb
        replace F10 := F10.ext hb
        replace F11 := F11.ext hb
        clear hb
        try simp only [Act.put, List.setIfInBounds_toArray, List.set_cons_zero, List.set_cons_succ]
        skip
        clear F3 F9 F10 F11
        refine wpX_end (by kernel_rfl) (fun W12 ga m hE hg hm => ?_)
        replace HX := HX.ext hE
        replace F12 := F12.ext hE
        clear hE
        clear hg
        simp only [putAll, setAll]
        clear ga
        have hc30 := HX.cell 3 0 rfl rfl
        have hf30 := HX.free 3 0 rfl
        have hc31 := HX.cell 3 1 rfl rfl
        have hf31 := HX.free 3 1 rfl
        have hc32 := HX.cell 3 2 rfl rfl
        have hf32 := HX.free 3 2 rfl
        try simp only [List.getElem_toArray, List.getElem_cons_zero, List.getElem_cons_succ] at hc30 hf30 hc31 hf31 hc32 hf32
        refine wpAny_step (i := 5) (by kernel_rfl) rfl (by omega) (fun K hK => ?_)
        go_simp
        refine hK.out _ _ ?_
        clear hK K
        clear hc30 hf30 hc31 hf31 hc32 hf32
        have hk := HX.keep3 3 rfl rfl rfl rfl (by omega) (.bool (sg q7)) (.slice A12 (dig (nu q7)).length c12) (.slice B12 (dig q7.den).length d12)
        replace HX := HX.put3 3 rfl (by omega) (by intro k q hk hne; match k, hk with | 0, hk => (simp at hk; subst hk; simp at hne ⊢; try omega) | 1, hk => (simp at hk; subst hk; simp at hne ⊢; try omega) | 2, hk => (simp at hk; subst hk; simp at hne ⊢; try omega) | 3, hk => (simp at hk; subst hk; simp at hne ⊢; try omega) | 4, hk => (simp at hk; subst hk; simp at hne ⊢; try omega) | 5, hk => (simp at hk; subst hk; simp at hne ⊢; try omega) | 6, hk => (simp at hk; subst hk; simp at hne ⊢; try omega) | k + 7, hk => simp at hk) (.bool (sg q7)) (.slice A12 (dig (nu q7)).length c12) (.slice B12 (dig q7.den).length d12)
        replace F12 := F12.stay hk
        clear hk
        simp only [List.set_cons_zero, List.set_cons_succ] at HX
        refine wpAny_done (by kernel_rfl) ?_ _
        generalize ((W12.setCell ⟨g3, 0, none⟩ (.bool (sg q7))).setCell ⟨g3, 1, none⟩ (.slice A12 (dig (nu q7)).length c12)).setCell ⟨g3, 2, none⟩ (.slice B12 (dig q7.den).length d12) = W13 at *
        replace HX := HX.front 4
        simp only [List.take_succ_cons, List.take_zero] at HX
        go_wp2
        go_roundg (99 - (k + 1))
        case measure => omega
        case rel => exact ⟨k + 1, q7, A12, B12, c12, d12, by omega, by go_num, HQ7, F12, HX⟩
    · obtain rfl : k = 99 := by omega
      obtain rfl : q = u := by rw [← HQ.out, hu.out]
      have hl0 := HX.lt 0 rfl
      have hl1 := HX.lt 1 rfl
      have hl2 := HX.lt 2 rfl
      have hl3 := HX.lt 3 rfl
      simp only [] at hl0 hl1 hl2 hl3
      have hc30 := HX.cell 3 0 rfl rfl
      have hc31 := HX.cell 3 1 rfl rfl
      have hc32 := HX.cell 3 2 rfl rfl
      try simp only [List.getElem_toArray, List.getElem_cons_zero, List.getElem_cons_succ] at hc30 hc31 hc32
      have hc20 := HX.cell 2 0 rfl rfl
      have hf20 := HX.free 2 0 rfl
      have hc21 := HX.cell 2 1 rfl rfl
      have hf21 := HX.free 2 1 rfl
      have hc22 := HX.cell 2 2 rfl rfl
      have hf22 := HX.free 2 2 rfl
      try simp only [List.getElem_toArray, List.getElem_cons_zero, List.getElem_cons_succ] at hc20 hf20 hc21 hf21 hc22 hf22
      go_wp2
      clear hc30 hc31 hc32
      clear hc20 hf20 hc21 hf21 hc22 hf22
      have hk := HX.keep3 2 rfl rfl rfl rfl (by omega) (.bool (sg q)) (.slice A3 (dig (nu q)).length c3) (.slice B3 (dig q.den).length d3)
      replace HX := HX.put3 2 rfl (by omega) (by intro k q hk hne; match k, hk with | 0, hk => (simp at hk; subst hk; simp at hne ⊢; try omega) | 1, hk => (simp at hk; subst hk; simp at hne ⊢; try omega) | 2, hk => (simp at hk; subst hk; simp at hne ⊢; try omega) | 3, hk => (simp at hk; subst hk; simp at hne ⊢; try omega) | k + 4, hk => simp at hk) (.bool (sg q)) (.slice A3 (dig (nu q)).length c3) (.slice B3 (dig q.den).length d3)
      replace F3 := F3.stay hk
      clear hk
      simp only [List.set_cons_zero, List.set_cons_succ] at HX
      have hc20 := HX.cell 2 0 rfl rfl
      have hc21 := HX.cell 2 1 rfl rfl
      have hc22 := HX.cell 2 2 rfl rfl
      try simp only [List.getElem_toArray, List.getElem_cons_zero, List.getElem_cons_succ] at hc20 hc21 hc22
      exact bodyPost_ret (v := .agg #[.bool (sg q), .slice A3 (dig (nu q)).length c3, .slice B3 (dig q.den).length d3]) (by simp [results, Tryz.results41, go_sem, hc20, hc21, hc22]) rfl ⟨A3, c3, B3, d3, rfl, F3, HX.below⟩
set_option maxHeartbeats 2000000 in
set_option maxRecDepth 100000 in
theorem coeff_any {ia fa ta ib fb tb : Int} {u : Rat} (Aa Ab : Option Addr) (ca cb : Nat) (la lb : List (Int × Int)) (w : World) (HA : Es w Aa la) (HB : Es w Ab lb) (hla : la.length ≤ 9223372036854775807) (hlb : lb.length ≤ 9223372036854775807) (va : HV ia la fa ta) (vb : HV ib lb fb tb) (hu : Hid (coD la lb 99 = u)) :
    Calls Tryz.prog 13 #[.agg #[.int .i64 ia, .slice Aa la.length ca, .int .i64 fa, .int .i64 ta], .agg #[.int .i64 ib, .slice Ab lb.length cb, .int .i64 fb, .int .i64 tb]] w (RetGE w u 2) := by
  have YA := yes va
  have YB := yes vb
  have VA := Lib.hid va
  have VB := Lib.hid vb
  clear va vb
  go_enter Tryz.func13, Tryz.ntmps13
  go_wp2_with fail
  have HX := BL.three w #[.int .i64 ia, .slice Aa la.length ca, .int .i64 fa, .int .i64 ta] #[.int .i64 ib, .slice Ab lb.length cb, .int .i64 fb, .int .i64 tb] #[.bool false, .slice none 0 0, .slice none 0 0] 26 26 33
  replace HA := HA.ext HX.below
  replace HB := HB.ext HX.below
  refine (hvalid_any (b := true) Aa ca la _ HA hla YA).mono ?_
  rintro e w2 ⟨rfl, hb⟩
  replace HX := HX.ext hb
  replace HA := HA.ext hb
  replace HB := HB.ext hb
  clear hb
  have hc10 := HX.cell 1 0 rfl rfl
  have hc11 := HX.cell 1 1 rfl rfl
  have hc12 := HX.cell 1 2 rfl rfl
  have hc13 := HX.cell 1 3 rfl rfl
  try simp only [List.getElem_toArray, List.getElem_cons_zero, List.getElem_cons_succ] at hc10 hc11 hc12 hc13
  go_wp2_with fail
  refine (hvalid_any (b := true) Ab cb lb _ HB hlb YB).mono ?_
  rintro e w3 ⟨rfl, hb⟩
  clear hc10 hc11 hc12 hc13
  replace HX := HX.ext hb
  replace HA := HA.ext hb
  replace HB := HB.ext hb
  clear hb
  have hc00 := HX.cell 0 0 rfl rfl
  have hc01 := HX.cell 0 1 rfl rfl
  have hc02 := HX.cell 0 2 rfl rfl
  have hc03 := HX.cell 0 3 rfl rfl
  try simp only [List.getElem_toArray, List.getElem_cons_zero, List.getElem_cons_succ] at hc00 hc01 hc02 hc03
  have hc10 := HX.cell 1 0 rfl rfl
  have hc11 := HX.cell 1 1 rfl rfl
  have hc12 := HX.cell 1 2 rfl rfl
  have hc13 := HX.cell 1 3 rfl rfl
  try simp only [List.getElem_toArray, List.getElem_cons_zero, List.getElem_cons_succ] at hc10 hc11 hc12 hc13
  go_wp2_with fail
  refine (coef_any Aa Ab ca cb la lb _ HA HB hla hlb VA.out VB.out hu).mono ?_
  rintro e w4 ⟨A5, c5, B5, d5, rfl, F5, hb⟩
  clear hc00 hc01 hc02 hc03
  clear hc10 hc11 hc12 hc13
  replace HX := HX.ext hb
  clear hb
  have hc20 := HX.cell 2 0 rfl rfl
  have hf20 := HX.free 2 0 rfl
  have hc21 := HX.cell 2 1 rfl rfl
  have hf21 := HX.free 2 1 rfl
  have hc22 := HX.cell 2 2 rfl rfl
  have hf22 := HX.free 2 2 rfl
  try simp only [List.getElem_toArray, List.getElem_cons_zero, List.getElem_cons_succ] at hc20 hf20 hc21 hf21 hc22 hf22
  go_wp2
  clear hc20 hf20 hc21 hf21 hc22 hf22
  have hk := HX.keep3 2 rfl rfl rfl rfl (by omega) (.bool (sg u)) (.slice A5 (dig (nu u)).length c5) (.slice B5 (dig u.den).length d5)
  replace HX := HX.put3 2 rfl (by omega) (by intro k q hk hne; match k, hk with | 0, hk => (simp at hk; subst hk; simp at hne ⊢; try omega) | 1, hk => (simp at hk; subst hk; simp at hne ⊢; try omega) | 2, hk => (simp at hk; subst hk; simp at hne ⊢; try omega) | k + 3, hk => simp at hk) (.bool (sg u)) (.slice A5 (dig (nu u)).length c5) (.slice B5 (dig u.den).length d5)
  replace F5 := F5.stay hk
  clear hk
  simp only [List.set_cons_zero, List.set_cons_succ] at HX
  have hc20 := HX.cell 2 0 rfl rfl
  have hc21 := HX.cell 2 1 rfl rfl
  have hc22 := HX.cell 2 2 rfl rfl
  try simp only [List.getElem_toArray, List.getElem_cons_zero, List.getElem_cons_succ] at hc20 hc21 hc22
  exact bodyPost_ret (v := .tuple #[.agg #[.bool (sg u), .slice A5 (dig (nu u)).length c5, .slice B5 (dig u.den).length d5], .int .i64 0]) (by simp [results, Tryz.results13, go_sem, hc20, hc21, hc22]) rfl ⟨A5, c5, B5, d5, rfl, F5, HX.below⟩
set_option maxHeartbeats 2000000 in
set_option maxRecDepth 100000 in
theorem dist_any {ia fa ta ib fb tb : Int} {u : Rat} (Aa Ab : Option Addr) (ca cb : Nat) (la lb : List (Int × Int)) (w : World) (HA : Es w Aa la) (HB : Es w Ab lb) (hla : la.length ≤ 9223372036854775807) (hlb : lb.length ≤ 9223372036854775807) (va : HV ia la fa ta) (vb : HV ib lb fb tb) (hu : Hid (disD la lb = u)) :
    Calls Tryz.prog 29 #[.agg #[.int .i64 ia, .slice Aa la.length ca, .int .i64 fa, .int .i64 ta], .agg #[.int .i64 ib, .slice Ab lb.length cb, .int .i64 fb, .int .i64 tb]] w (RetGE w u 2) := by
  have hpa := va.pos
  have hpb := vb.pos
  have htt := tots va vb
  have hsd := sumD_bd va vb (Nat.le_refl 99)
  obtain ⟨v, hv⟩ : ∃ v, Hid (coD la lb 99 = v) := ⟨_, Lib.hid rfl⟩
  obtain ⟨o1, HO1⟩ : ∃ o, Hid (quo 200 1 = o) := ⟨_, Lib.hid rfl⟩
  obtain ⟨o2, HO2⟩ : ∃ o, Hid (quo 1 2 = o) := ⟨_, Lib.hid rfl⟩
  obtain ⟨q1, HQ1⟩ : ∃ q, Hid (o1 - v = q) := ⟨_, Lib.hid rfl⟩
  have z1 : Sz q1 2 := by
    rw [← HQ1.out, ← HO1.out, ← hv.out, coD, quo_sub _ _ (by omega) (by omega), Int.mul_one, Int.one_mul]
    exact quo_sz (by omega) (by omega) (by omega) (by omega)
  have HM : Hid (q1 * o2 = u) := Lib.hid (by rw [← HQ1.out, ← HO1.out, ← HO2.out, ← hv.out, dis_eq (by omega) (by omega), hu.out])
  have zu : Sz u 2 := by
    rw [← hu.out, disD]
    exact quo_sz (by omega) (by omega) (by omega) (by omega)
  have VA := Lib.hid va
  have VB := Lib.hid vb
  clear va vb htt hsd hu
  go_enter Tryz.func29, Tryz.ntmps29
  go_wp2_with fail
  have HX := BL.three w #[.int .i64 ia, .slice Aa la.length ca, .int .i64 fa, .int .i64 ta] #[.int .i64 ib, .slice Ab lb.length cb, .int .i64 fb, .int .i64 tb] #[.bool false, .slice none 0 0, .slice none 0 0] 26 26 33
  replace HA := HA.ext HX.below
  replace HB := HB.ext HX.below
  refine (coeff_any Aa Ab ca cb la lb _ HA HB hla hlb VA.out VB.out hv).mono ?_
  rintro e w3 ⟨A3, c3, B3, d3, rfl, F3, hb⟩
  clear HA HB
  replace HX := HX.ext hb
  clear hb
  go_upto_region 2 with fail
  have hlg30 := HX.lt 0 rfl
  simp only [] at hlg30
  have hlg31 := HX.lt 1 rfl
  simp only [] at hlg31
  have hlg32 := HX.lt 2 rfl
  simp only [] at hlg32
  have hb := below_alloc w3 (.cells #[.bool (sg v), .slice A3 (dig (nu v)).length c3, .slice B3 (dig v.den).length d3] 33)
  replace HX := HX.new #[.bool (sg v), .slice A3 (dig (nu v)).length c3, .slice B3 (dig v.den).length d3] 33
  simp only [List.cons_append, List.nil_append] at HX
  replace F3 := F3.ext hb
  clear hb
  generalize w3.alloc (.cells #[.bool (sg v), .slice A3 (dig (nu v)).length c3, .slice B3 (dig v.den).length d3] 33) = V3 at *
  generalize w3.heap.size = g3 at *
  go_upto_region 4 with fail
  have held : ∀ {W' : World} {u : Array Value}, BL w W' [(w.heap.size, #[.int .i64 ia, .slice Aa la.length ca, .int .i64 fa, .int .i64 ta], 26), (w.heap.size + 1, #[.int .i64 ib, .slice Ab lb.length cb, .int .i64 fb, .int .i64 tb], 26), (w.heap.size + 2, u, 33), (g3, #[.bool (sg v), .slice A3 (dig (nu v)).length c3, .slice B3 (dig v.den).length d3], 33)] → W'.cell? ⟨g3, 0, none⟩ = some (.bool (sg v)) ∧ W'.cell? ⟨g3, 1, none⟩ = some (.slice A3 (dig (nu v)).length c3) ∧ W'.cell? ⟨g3, 2, none⟩ = some (.slice B3 (dig v.den).length d3) := fun h => ⟨h.cell 3 0 rfl rfl, h.cell 3 1 rfl rfl, h.cell 3 2 rfl rfl⟩
  replace HX := HX.ext (drew_ext _)
  replace F3 := F3.ext (drew_ext _)
  go_region_held3 (fun W' => W'.cell? ⟨g3, 0, none⟩ = some (.bool (sg v)) ∧ W'.cell? ⟨g3, 1, none⟩ = some (.slice A3 (dig (nu v)).length c3) ∧ W'.cell? ⟨g3, 2, none⟩ = some (.slice B3 (dig v.den).length d3))
    (first | exact held HX | exact held (HX.put3 2 rfl (by omega) (by intro k q hk hne; match k, hk with | 0, hk => (simp at hk; subst hk; simp at hne ⊢; try omega) | 1, hk => (simp at hk; subst hk; simp at hne ⊢; try omega) | 2, hk => (simp at hk; subst hk; simp at hne ⊢; try omega) | 3, hk => (simp at hk; subst hk; simp at hne ⊢; try omega) | k + 4, hk => simp at hk) _ _ _))
    (first
      | (go_at_call_of 19 (Value.int IntKind.i64 200); refine (fofq (by decide) HO1 (by decide) (by decide) (by decide)).mono ?_; rintro e w7 ⟨A7, c7, B7, d7, rfl, F7, hb⟩; replace HX := HX.ext hb; replace F3 := F3.ext hb; (try replace F8 := F8.ext hb); (try replace F9 := F9.ext hb); clear hb)
      | (go_at_call_of 19 (Value.int IntKind.i64 2); refine (fofq (by decide) HO2 (by decide) (by decide) (by decide)).mono ?_; rintro e w9 ⟨A9, c9, B9, d9, rfl, F9, hb⟩; replace HX := HX.ext hb; replace F3 := F3.ext hb; (try replace F7 := F7.ext hb); (try replace F8 := F8.ext hb); clear hb)
      | (go_at_call 70; refine (fsub_h HQ1 z1 F7.fr F3.fr (by omega) (by omega)).mono ?_; rintro e w8 ⟨A8, c8, B8, d8, rfl, F8, hb⟩; replace HX := HX.ext hb; replace F3 := F3.ext hb; (try replace F7 := F7.ext hb); (try replace F9 := F9.ext hb); clear hb)
      | (go_at_call 69; refine (fmul_h HM zu F8.fr F9.fr (by omega) (by omega)).mono ?_; rintro e w10 ⟨A5, c5, B5, d5, rfl, F5, hb⟩; replace HX := HX.ext hb; replace F3 := F3.ext hb; clear hb; have hc20 := HX.cell 2 0 rfl rfl; have hf20 := HX.free 2 0 rfl; have hc21 := HX.cell 2 1 rfl rfl; have hf21 := HX.free 2 1 rfl; have hc22 := HX.cell 2 2 rfl rfl; have hf22 := HX.free 2 2 rfl; (try simp only [List.getElem_toArray, List.getElem_cons_zero, List.getElem_cons_succ] at hc20 hf20 hc21 hf21 hc22 hf22)))
  all_goals (
    clear held hc20 hf20 hc21 hf21 hc22 hf22
    have hk := HX.keep3 2 rfl rfl rfl rfl (by omega) (.bool (sg u)) (.slice A5 (dig (nu u)).length c5) (.slice B5 (dig u.den).length d5)
    replace HX := HX.put3 2 rfl (by omega) (by intro k q hk hne; match k, hk with | 0, hk => (simp at hk; subst hk; simp at hne ⊢; try omega) | 1, hk => (simp at hk; subst hk; simp at hne ⊢; try omega) | 2, hk => (simp at hk; subst hk; simp at hne ⊢; try omega) | 3, hk => (simp at hk; subst hk; simp at hne ⊢; try omega) | k + 4, hk => simp at hk) (.bool (sg u)) (.slice A5 (dig (nu u)).length c5) (.slice B5 (dig u.den).length d5)
    replace F5 := F5.stay hk
    clear hk
    simp only [List.set_cons_zero, List.set_cons_succ] at HX
    have hc20 := HX.cell 2 0 rfl rfl
    have hc21 := HX.cell 2 1 rfl rfl
    have hc22 := HX.cell 2 2 rfl rfl
    try simp only [List.getElem_toArray, List.getElem_cons_zero, List.getElem_cons_succ] at hc20 hc21 hc22
    go_wp2
    exact bodyPost_ret (v := .tuple #[.agg #[.bool (sg u), .slice A5 (dig (nu u)).length c5, .slice B5 (dig u.den).length d5], .int .i64 0]) (by simp [results, Tryz.results29, go_sem, hc20, hc21, hc22]) rfl ⟨A5, c5, B5, d5, rfl, F5, HX.below⟩)
end Go.Proofs.YthempimelfmipaaGreatDoor
