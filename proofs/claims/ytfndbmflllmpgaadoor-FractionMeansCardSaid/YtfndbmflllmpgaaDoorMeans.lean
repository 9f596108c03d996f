/- The statement FractionMeans: its plain law and its walk. -/
import Derived.Test.YtfndbmflllmpgaaDoorMean
namespace Go.Proofs.YtfndbmflllmpgaaDoor
open Go.RowKit Go.Proofs Go

theorem foldl_rat (a : Rat) : ∀ qs : List Rat, qs.foldl (· + ·) a = a + qs.foldl (· + ·) 0
  | [] => (Rat.add_zero a).symm
  | q :: qs => by
    simp only [List.foldl_cons]
    rw [foldl_rat (a + q), foldl_rat (0 + q)]; grind
theorem rsum_cons (q : Rat) (qs : List Rat) : rsum (q :: qs) = q + rsum qs := by
  rw [rsum, List.foldl_cons, foldl_rat, rsum]; grind
theorem rsum_gt {u : Rat} : ∀ {qs : List Rat}, (∀ q ∈ qs, u < q) → u * (qs.length : Rat) ≤ rsum qs ∧ (qs ≠ [] → u * (qs.length : Rat) < rsum qs)
  | [], _ => ⟨by simp [rsum], fun h => absurd rfl h⟩
  | q :: qs, h => by
    have h1 := h q List.mem_cons_self
    obtain ⟨h2, _⟩ := rsum_gt (qs := qs) (fun x hx => h x (List.mem_cons_of_mem _ hx))
    have e : u * (((q :: qs).length : Nat) : Rat) = u + u * (qs.length : Rat) := by rw [List.length_cons, Rat.natCast_add]; grind
    rw [rsum_cons, e]
    exact ⟨by grind, fun _ => by grind⟩
theorem rsum_lt {u : Rat} : ∀ {qs : List Rat}, (∀ q ∈ qs, q < u) → rsum qs ≤ u * (qs.length : Rat) ∧ (qs ≠ [] → rsum qs < u * (qs.length : Rat))
  | [], _ => ⟨by simp [rsum], fun h => absurd rfl h⟩
  | q :: qs, h => by
    have h1 := h q List.mem_cons_self
    obtain ⟨h2, _⟩ := rsum_lt (qs := qs) (fun x hx => h x (List.mem_cons_of_mem _ hx))
    have e : u * (((q :: qs).length : Nat) : Rat) = u + u * (qs.length : Rat) := by rw [List.length_cons, Rat.natCast_add]; grind
    rw [rsum_cons, e]
    exact ⟨by grind, fun _ => by grind⟩
def anyLe (qs : List Rat) (u : Rat) : Bool := qs.any (fun q => decide (cmpQ q u ≤ 0))
def anyGe (qs : List Rat) (u : Rat) : Bool := qs.any (fun q => decide (0 ≤ cmpQ q u))
theorem rv_nat (n : Nat) : rv false n 1 = (n : Rat) := by
  rw [rv_one]; rfl
theorem mean_mul {qs : List Rat} (h : qs ≠ []) {u : Rat} (hu : rsum qs * (rv false qs.length 1)⁻¹ = u) : u * (qs.length : Rat) = rsum qs := by
  have h0 : (rv false qs.length 1) ≠ 0 := fun e => by
    rw [rv_eq_zero] at e
    rcases e with e | e
    · exact h (List.length_eq_zero_iff.1 e)
    · omega
  rw [← hu, Rat.mul_assoc, ← rv_nat, Rat.inv_mul_cancel _ h0, Rat.mul_one]
/-- some number is at most the mean, some at least the mean -/
theorem mean_le {qs : List Rat} (h : qs ≠ []) {u : Rat} (hu : rsum qs * (rv false qs.length 1)⁻¹ = u) : anyLe qs u = true := by
  rw [← Bool.not_eq_false]
  intro hf
  have hall : ∀ q ∈ qs, u < q := fun q hq => by
    have := List.any_eq_false.1 hf q hq
    simp only [decide_eq_true_eq] at this
    rw [cmpQ_le] at this
    exact Rat.not_le.1 this
  have h1 := (rsum_gt hall).2 h
  rw [mean_mul h hu] at h1
  exact Rat.lt_irrefl h1
theorem mean_ge {qs : List Rat} (h : qs ≠ []) {u : Rat} (hu : rsum qs * (rv false qs.length 1)⁻¹ = u) : anyGe qs u = true := by
  rw [← Bool.not_eq_false]
  intro hf
  have hall : ∀ q ∈ qs, q < u := fun q hq => by
    have := List.any_eq_false.1 hf q hq
    simp only [decide_eq_true_eq] at this
    exact cmpQ_neg.1 (by omega)
  have h1 := (rsum_lt hall).2 h
  rw [mean_mul h hu] at h1
  exact Rat.lt_irrefl h1
theorem anyLe_succ {qs : List Rat} {k : Nat} {q u : Rat} (h : qs[k]? = some q) : anyLe (qs.take (k + 1)) u = (anyLe (qs.take k) u || decide (cmpQ q u ≤ 0)) := by
  obtain ⟨hk, rfl⟩ := List.getElem?_eq_some_iff.1 h
  rw [List.take_succ_eq_append_getElem hk, anyLe, anyLe, List.any_append]; simp
theorem anyGe_succ {qs : List Rat} {k : Nat} {q u : Rat} (h : qs[k]? = some q) : anyGe (qs.take (k + 1)) u = (anyGe (qs.take k) u || decide (0 ≤ cmpQ q u)) := by
  obtain ⟨hk, rfl⟩ := List.getElem?_eq_some_iff.1 h
  rw [List.take_succ_eq_append_getElem hk, anyGe, anyGe, List.any_append]; simp

set_option maxHeartbeats 1000000 in
set_option maxRecDepth 100000 in
theorem fmeans_few (A : Option Addr) (n c : Nat) (fs : List FE) (w : World) (hT : Tab w) (H : FS w A fs) (hn : n = fs.length) (hl : n ≤ 9223372036854775807) (hlens : Hid (∀ x ∈ fs, x.n ≤ 9223372036854775807 ∧ x.m ≤ 9223372036854775807)) (hfew : Hid (fewB fs = false)) :
    Calls Tryd.prog 9 #[.slice A n c] w (RetB w true) := by
  have HN := Lib.hid hn
  clear hn
  go_enter Tryd.func9, Tryd.ntmps9
  go_wp2_with fail
  refine (awake_h hT).mono ?_
  rintro e w1 ⟨rfl, hb1⟩
  go_wp2_with fail
  refine (few_any A n c fs w1 (H.ext hb1) HN.out (by omega) hlens.out).mono ?_
  rintro e w2 ⟨rfl, rfl⟩
  rw [hfew.out]
  go_wp2_with fail
  refine (awake_h (hT.ext hb1)).mono ?_
  rintro e w3 ⟨rfl, hb3⟩
  go_wp2
  go_ret
  exact ⟨rfl, bel_trans hb1 hb3⟩

set_option maxHeartbeats 1000000 in
set_option maxRecDepth 100000 in
theorem fmeans_nil (A : Option Addr) (c : Nat) (w : World) (hT : Tab w) :
    Calls Tryd.prog 9 #[.slice A 0 c] w (RetB w true) := by
  have H : FS w A [] := fun h => by simp at h
  have HF : FA w [] [] := ⟨rfl, fun i x q h => by simp at h⟩
  have hfew : Hid (fewB [] = true) := Lib.hid rfl
  go_enter Tryd.func9, Tryd.ntmps9
  go_wp2_with fail
  refine (awake_h hT).mono ?_
  rintro e w1 ⟨rfl, hb1⟩
  go_wp2_with fail
  refine (few_any A 0 c [] w1 (H.ext hb1) rfl (by omega) (by simp)).mono ?_
  rintro e w2 ⟨rfl, rfl⟩
  rw [hfew.out]
  have HX := (BL.nil w).ext hb1
  replace HF := HF.ext hb1
  replace H := H.ext hb1
  clear hb1
  go_wp2_with fail
  refine (fmean_no A c _).mono ?_
  rintro e w3 ⟨rfl, hb⟩
  replace HX := HX.ext hb
  replace H := H.ext hb
  replace HF := HF.ext hb
  clear hb
  go_upto_region 4 with fail
  have hb := below_alloc w3 (.cells #[.bool false, .slice none 0 0, .slice none 0 0] 26)
  replace HX := HX.new #[.bool false, .slice none 0 0, .slice none 0 0] 26
  simp only [List.nil_append] at HX
  replace H := H.ext hb
  replace HF := HF.ext hb
  clear hb
  generalize w3.alloc (.cells #[.bool false, .slice none 0 0, .slice none 0 0] 26) = W4 at *
  generalize w3.heap.size = g4 at *
  go_wp2_with fail
  refine (qmean_no A c _).mono ?_
  rintro e w5 ⟨rfl, hb⟩
  replace HX := HX.ext hb
  replace H := H.ext hb
  replace HF := HF.ext hb
  clear hb
  go_upto_region 5 with fail
  have hb := below_alloc w5 (.cells #[.bool false, .slice none 0 0, .slice none 0 0] 26)
  replace HX := HX.new #[.bool false, .slice none 0 0, .slice none 0 0] 26
  simp only [List.cons_append, List.nil_append] at HX
  replace H := H.ext hb
  replace HF := HF.ext hb
  clear hb
  generalize w5.alloc (.cells #[.bool false, .slice none 0 0, .slice none 0 0] 26) = W6 at *
  generalize w5.heap.size = g6 at *
  go_wp2_with fail
  refine (fsum_any A 0 c [] [] _ H HF rfl (by omega)).mono ?_
  rintro e w7 ⟨A1, c1, B1, d1, rfl, F1, hb⟩
  replace HX := HX.ext hb
  replace H := H.ext hb
  replace HF := HF.ext hb
  clear hb
  go_wp2_with fail
  refine (qsum_any A 0 c [] [] _ H HF rfl (by omega)).mono ?_
  rintro e w8 ⟨A2, c2, B2, d2, rfl, F2, hb⟩
  replace F1 := F1.ext hb
  replace HX := HX.ext hb
  replace H := H.ext hb
  replace HF := HF.ext hb
  clear hb
  go_wp2_with fail
  refine (bfrac_s F1 F2 (by omega) (by omega)).mono ?_
  rintro e w9 ⟨rfl, hb⟩
  replace HX := HX.ext hb
  replace H := H.ext hb
  replace HF := HF.ext hb
  clear hb
  clear F1 F2
  have hc00 := HX.cell 0 0 rfl rfl
  have hc01 := HX.cell 0 1 rfl rfl
  have hc02 := HX.cell 0 2 rfl rfl
  try simp only [List.getElem_toArray, List.getElem_cons_zero, List.getElem_cons_succ] at hc00 hc01 hc02
  have hc10 := HX.cell 1 0 rfl rfl
  have hc11 := HX.cell 1 1 rfl rfl
  have hc12 := HX.cell 1 2 rfl rfl
  try simp only [List.getElem_toArray, List.getElem_cons_zero, List.getElem_cons_succ] at hc10 hc11 hc12
  go_wp2_with fail
  refine bfrac_0.mono ?_
  rintro e w10 ⟨rfl, hb⟩
  clear hc00 hc01 hc02
  clear hc10 hc11 hc12
  replace HX := HX.ext hb
  replace H := H.ext hb
  replace HF := HF.ext hb
  clear hb
  go_wp2
  go_loopg [7, 8, 9] 0 (fun k x y i wr => x = .bool false ∧ y = .bool false ∧ i = .int .i64 0 ∧ Below w.heap.size w wr)
  case atStart => exact ⟨rfl, rfl, rfl, HX.below⟩
  case round =>
    obtain ⟨rfl, rfl, rfl, hb⟩ := hrel
    go_wp2
    go_ret
    exact ⟨rfl, hb⟩

set_option maxHeartbeats 4000000 in
set_option maxRecDepth 100000 in
theorem fmeans_yes (A : Option Addr) (n c : Nat) (fs : List FE) (qs : List Rat) (w : World) (hT : Tab w) (H : FS w A fs) (HF : FA w fs qs) (hn : n = fs.length) (hl : n ≤ 20) (h0 : 0 < n) (hlens : Hid (∀ x ∈ fs, x.n ≤ 9223372036854775807 ∧ x.m ≤ 9223372036854775807)) (hfew : Hid (fewB fs = true)) :
    Calls Tryd.prog 9 #[.slice A n c] w (RetB w true) := by
  have hq0 : qs ≠ [] := fun e => by have h1 := HF.len; rw [e, List.length_nil] at h1; omega
  have hqn : qs.length = n := by rw [hn]; exact HF.len.symm
  have H0 := H
  have HF0 := HF
  obtain ⟨u, hu⟩ : ∃ u, rsum qs * (rv false n 1)⁻¹ = u := ⟨_, rfl⟩
  have hu1 := hu
  rw [hn, HF.len] at hu1
  have HLE := Lib.hid (mean_le hq0 hu1)
  have HGE := Lib.hid (mean_ge hq0 hu1)
  have HU := Lib.hid hu
  have HN := Lib.hid hn
  have hz : (((n : Nat) : Int) == 0) = false := beq_eq_false_iff_ne.2 (by omega)
  clear hu hu1 hq0 hn
  go_enter Tryd.func9, Tryd.ntmps9
  go_wp2_with fail
  refine (awake_h hT).mono ?_
  rintro e w1 ⟨rfl, hb1⟩
  go_wp2_with fail
  refine (few_any A n c fs w1 (H.ext hb1) HN.out (by omega) hlens.out).mono ?_
  rintro e w2 ⟨rfl, rfl⟩
  rw [hfew.out]
  have HX := (BL.nil w).ext hb1
  replace HF := HF.ext hb1
  replace H := H.ext hb1
  clear hb1
  go_wp2_with fail
  refine (fmean_any A n c fs qs u _ H HF HN.out (by omega) h0 HU).mono ?_
  rintro e w3 ⟨A1, c1, B1, d1, rfl, F1, hb⟩
  replace HX := HX.ext hb
  replace H := H.ext hb
  replace HF := HF.ext hb
  clear hb
  go_upto_region 4 with fail
  have hb := below_alloc w3 (.cells #[.bool (sg u), .slice A1 (dig (nu u)).length c1, .slice B1 (dig u.den).length d1] 26)
  replace HX := HX.new #[.bool (sg u), .slice A1 (dig (nu u)).length c1, .slice B1 (dig u.den).length d1] 26
  simp only [List.nil_append] at HX
  replace H := H.ext hb
  replace HF := HF.ext hb
  replace F1 := F1.ext hb
  clear hb
  generalize w3.alloc (.cells #[.bool (sg u), .slice A1 (dig (nu u)).length c1, .slice B1 (dig u.den).length d1] 26) = W4 at *
  generalize w3.heap.size = g4 at *
  go_wp2_with fail
  refine (qmean_any A n c fs qs u _ H HF HN.out (by omega) h0 HU).mono ?_
  rintro e w5 ⟨A2, c2, B2, d2, rfl, F2, hb⟩
  replace HX := HX.ext hb
  replace H := H.ext hb
  replace HF := HF.ext hb
  replace F1 := F1.ext hb
  clear hb
  go_upto_region 5 with fail
  have hb := below_alloc w5 (.cells #[.bool (sg u), .slice A2 (dig (nu u)).length c2, .slice B2 (dig u.den).length d2] 26)
  replace HX := HX.new #[.bool (sg u), .slice A2 (dig (nu u)).length c2, .slice B2 (dig u.den).length d2] 26
  simp only [List.cons_append, List.nil_append] at HX
  replace H := H.ext hb
  replace HF := HF.ext hb
  replace F1 := F1.ext hb
  replace F2 := F2.ext hb
  clear hb
  generalize w5.alloc (.cells #[.bool (sg u), .slice A2 (dig (nu u)).length c2, .slice B2 (dig u.den).length d2] 26) = W6 at *
  generalize w5.heap.size = g6 at *
  go_wp2_with fail
  refine (fsum_any A n c fs qs _ H HF HN.out (by omega)).mono ?_
  rintro e w7 ⟨A3, c3, B3, d3, rfl, F3, hb⟩
  replace HX := HX.ext hb
  replace H := H.ext hb
  replace HF := HF.ext hb
  replace F1 := F1.ext hb
  replace F2 := F2.ext hb
  clear hb
  go_wp2_with fail
  refine (qsum_any A n c fs qs _ H HF HN.out (by omega)).mono ?_
  rintro e w8 ⟨A4, c4, B4, d4, rfl, F4, hb⟩
  replace F3 := F3.ext hb
  replace HX := HX.ext hb
  replace H := H.ext hb
  replace HF := HF.ext hb
  replace F1 := F1.ext hb
  replace F2 := F2.ext hb
  clear hb
  go_wp2_with fail
  refine (bfrac_s F3 F4 (by omega) (by omega)).mono ?_
  rintro e w9 ⟨rfl, hb⟩
  replace HX := HX.ext hb
  replace H := H.ext hb
  replace HF := HF.ext hb
  replace F1 := F1.ext hb
  replace F2 := F2.ext hb
  clear hb
  clear F3 F4
  have hc00 := HX.cell 0 0 rfl rfl
  have hc01 := HX.cell 0 1 rfl rfl
  have hc02 := HX.cell 0 2 rfl rfl
  try simp only [List.getElem_toArray, List.getElem_cons_zero, List.getElem_cons_succ] at hc00 hc01 hc02
  have hc10 := HX.cell 1 0 rfl rfl
  have hc11 := HX.cell 1 1 rfl rfl
  have hc12 := HX.cell 1 2 rfl rfl
  try simp only [List.getElem_toArray, List.getElem_cons_zero, List.getElem_cons_succ] at hc10 hc11 hc12
  go_wp2_with fail
  refine (bfrac_s F1 F2 (by omega) (by omega)).mono ?_
  rintro e w10 ⟨rfl, hb⟩
  clear hc00 hc01 hc02
  clear hc10 hc11 hc12
  replace HX := HX.ext hb
  replace H := H.ext hb
  replace HF := HF.ext hb
  replace F1 := F1.ext hb
  replace F2 := F2.ext hb
  clear hb
  clear F2
  go_wp2
  go_loopg [7, 8, 9] n (fun k x y i wr => ∃ j : Nat, j + k = n ∧ x = .bool (anyLe (qs.take j) u) ∧ y = .bool (anyGe (qs.take j) u) ∧ i = .int .i64 (j : Int) ∧ Fc wr A1 c1 B1 d1 u 162 ∧ BL w wr [(g4, #[.bool (sg u), .slice A1 (dig (nu u)).length c1, .slice B1 (dig u.den).length d1], 26), (g6, #[.bool (sg u), .slice A2 (dig (nu u)).length c2, .slice B2 (dig u.den).length d2], 26)])
  case atStart => exact ⟨0, by omega, rfl, rfl, rfl, F1, HX⟩
  case round =>
    clear F1 HX H HF
    obtain ⟨j, hj, rfl, rfl, rfl, F1, HX⟩ := hrel
    by_cases hj0 : j < n
    · have hjq : j < qs.length := hqn.symm ▸ hj0
      have hjf : j < fs.length := HN.out ▸ hj0
      obtain ⟨ad, rfl, hb, hc⟩ := (H0.ext HX.below) (by omega)
      obtain ⟨hc0, hc1, hc2⟩ := hc j _ (List.getElem?_eq_getElem hjf)
      have AT : At3 wr (ad.add (j * 3)) fs[j] := ⟨hc0, hc1, hc2⟩
      have Fx := (HF0.ext HX.below).fr j _ _ (List.getElem?_eq_getElem hjf) (List.getElem?_eq_getElem hjq)
      have hle := Lib.hid (anyLe_succ (u := u) (List.getElem?_eq_getElem hjq))
      have hge := Lib.hid (anyGe_succ (u := u) (List.getElem?_eq_getElem hjq))
      clear hc hc0 hc1 hc2 hb
      generalize fs[j] = x at *
      generalize qs[j] = q at *
      obtain ⟨v, HV⟩ : ∃ v, Hid (cmpQ q u = v) := ⟨_, Lib.hid rfl⟩
      rw [HV.out] at hle hge
      generalize anyLe (List.take j qs) u = bl at *
      generalize anyGe (List.take j qs) u = bg at *
      have held : ∀ {W' : World}, BL w W' [(g4, #[.bool (sg u), .slice A1 (dig (nu u)).length c1, .slice B1 (dig u.den).length d1], 26), (g6, #[.bool (sg u), .slice A2 (dig (nu u)).length c2, .slice B2 (dig u.den).length d2], 26)] → At3 W' (ad.add (j * 3)) x → W'.cell? (ad.add (j * 3)) = some (.bool x.s) ∧ W'.cell? ⟨(ad.add (j * 3)).block, (ad.add (j * 3)).off + 1, none⟩ = some (.slice x.A x.n x.c) ∧ W'.cell? ⟨(ad.add (j * 3)).block, (ad.add (j * 3)).off + 2, none⟩ = some (.slice x.B x.m x.d) ∧ W'.cell? ⟨g4, 0, none⟩ = some (.bool (sg u)) ∧ W'.cell? ⟨g4, 1, none⟩ = some (.slice A1 (dig (nu u)).length c1) ∧ W'.cell? ⟨g4, 2, none⟩ = some (.slice B1 (dig u.den).length d1) := fun h k => ⟨k.c0, k.c1, k.c2, h.cell 0 0 rfl rfl, h.cell 0 1 rfl rfl, h.cell 0 2 rfl rfl⟩
      cases bl
      · cases bg
        · go_wp2_with fail
          replace HX := HX.ext (drew_ext _)
          replace AT := AT.ext (drew_ext _)
          replace Fx := Fx.ext (drew_ext _)
          replace F1 := F1.ext (drew_ext _)
          go_region_held3 (fun W' => W'.cell? (ad.add (j * 3)) = some (.bool x.s) ∧ W'.cell? ⟨(ad.add (j * 3)).block, (ad.add (j * 3)).off + 1, none⟩ = some (.slice x.A x.n x.c) ∧ W'.cell? ⟨(ad.add (j * 3)).block, (ad.add (j * 3)).off + 2, none⟩ = some (.slice x.B x.m x.d) ∧ W'.cell? ⟨g4, 0, none⟩ = some (.bool (sg u)) ∧ W'.cell? ⟨g4, 1, none⟩ = some (.slice A1 (dig (nu u)).length c1) ∧ W'.cell? ⟨g4, 2, none⟩ = some (.slice B1 (dig u.den).length d1))
            (exact held HX AT)
            (first
              | (go_at_call 33; refine (fcmp_h HV Fx F1.fr (by omega) (by omega)).mono ?_; rintro e V1 ⟨rfl, hb⟩; replace HX := HX.ext hb; replace AT := AT.ext hb; replace Fx := Fx.ext hb; replace F1 := F1.ext hb; clear hb))
          go_wp2_with fail
          replace HX := HX.ext (drew_ext _)
          replace AT := AT.ext (drew_ext _)
          replace Fx := Fx.ext (drew_ext _)
          replace F1 := F1.ext (drew_ext _)
          go_region_held3 (fun W' => W'.cell? (ad.add (j * 3)) = some (.bool x.s) ∧ W'.cell? ⟨(ad.add (j * 3)).block, (ad.add (j * 3)).off + 1, none⟩ = some (.slice x.A x.n x.c) ∧ W'.cell? ⟨(ad.add (j * 3)).block, (ad.add (j * 3)).off + 2, none⟩ = some (.slice x.B x.m x.d) ∧ W'.cell? ⟨g4, 0, none⟩ = some (.bool (sg u)) ∧ W'.cell? ⟨g4, 1, none⟩ = some (.slice A1 (dig (nu u)).length c1) ∧ W'.cell? ⟨g4, 2, none⟩ = some (.slice B1 (dig u.den).length d1))
            (exact held HX AT)
            (first
              | (go_at_call 33; refine (fcmp_h HV Fx F1.fr (by omega) (by omega)).mono ?_; rintro e V2 ⟨rfl, hb⟩; replace HX := HX.ext hb; replace AT := AT.ext hb; replace Fx := Fx.ext hb; replace F1 := F1.ext hb; clear hb))
          go_wp2
          go_roundg (n - (j + 1))
          case measure => omega
          case rel => exact ⟨j + 1, by omega, by rw [hle.out]; simp, by rw [hge.out]; simp, by go_num, by first | exact F1 | (rw [← World.drewN_drewN]; exact F1), by first | exact HX | (rw [← World.drewN_drewN]; exact HX)⟩
        · go_wp2_with fail
          replace HX := HX.ext (drew_ext _)
          replace AT := AT.ext (drew_ext _)
          replace Fx := Fx.ext (drew_ext _)
          replace F1 := F1.ext (drew_ext _)
          go_region_held3 (fun W' => W'.cell? (ad.add (j * 3)) = some (.bool x.s) ∧ W'.cell? ⟨(ad.add (j * 3)).block, (ad.add (j * 3)).off + 1, none⟩ = some (.slice x.A x.n x.c) ∧ W'.cell? ⟨(ad.add (j * 3)).block, (ad.add (j * 3)).off + 2, none⟩ = some (.slice x.B x.m x.d) ∧ W'.cell? ⟨g4, 0, none⟩ = some (.bool (sg u)) ∧ W'.cell? ⟨g4, 1, none⟩ = some (.slice A1 (dig (nu u)).length c1) ∧ W'.cell? ⟨g4, 2, none⟩ = some (.slice B1 (dig u.den).length d1))
            (exact held HX AT)
            (first
              | (go_at_call 33; refine (fcmp_h HV Fx F1.fr (by omega) (by omega)).mono ?_; rintro e V1 ⟨rfl, hb⟩; replace HX := HX.ext hb; replace AT := AT.ext hb; replace Fx := Fx.ext hb; replace F1 := F1.ext hb; clear hb))
          go_wp2_with fail
          go_quiet (fail)
          replace HX := HX.ext (drew_below (Below.refl _ _) nq)
          replace AT := AT.ext (drew_below (Below.refl _ _) nq)
          replace Fx := Fx.ext (drew_below (Below.refl _ _) nq)
          replace F1 := F1.ext (drew_below (Below.refl _ _) nq)
          go_wp2
          go_roundg (n - (j + 1))
          case measure => omega
          case rel => exact ⟨j + 1, by omega, by rw [hle.out]; simp, by rw [hge.out]; simp, by go_num, by first | exact F1 | (rw [← World.drewN_drewN]; exact F1), by first | exact HX | (rw [← World.drewN_drewN]; exact HX)⟩
      · cases bg
        · go_wp2_with fail
          go_quiet (fail)
          replace HX := HX.ext (drew_below (Below.refl _ _) nq)
          replace AT := AT.ext (drew_below (Below.refl _ _) nq)
          replace Fx := Fx.ext (drew_below (Below.refl _ _) nq)
          replace F1 := F1.ext (drew_below (Below.refl _ _) nq)
          go_wp2_with fail
          replace HX := HX.ext (drew_ext _)
          replace AT := AT.ext (drew_ext _)
          replace Fx := Fx.ext (drew_ext _)
          replace F1 := F1.ext (drew_ext _)
          go_region_held3 (fun W' => W'.cell? (ad.add (j * 3)) = some (.bool x.s) ∧ W'.cell? ⟨(ad.add (j * 3)).block, (ad.add (j * 3)).off + 1, none⟩ = some (.slice x.A x.n x.c) ∧ W'.cell? ⟨(ad.add (j * 3)).block, (ad.add (j * 3)).off + 2, none⟩ = some (.slice x.B x.m x.d) ∧ W'.cell? ⟨g4, 0, none⟩ = some (.bool (sg u)) ∧ W'.cell? ⟨g4, 1, none⟩ = some (.slice A1 (dig (nu u)).length c1) ∧ W'.cell? ⟨g4, 2, none⟩ = some (.slice B1 (dig u.den).length d1))
            (exact held HX AT)
            (first
              | (go_at_call 33; refine (fcmp_h HV Fx F1.fr (by omega) (by omega)).mono ?_; rintro e V2 ⟨rfl, hb⟩; replace HX := HX.ext hb; replace AT := AT.ext hb; replace Fx := Fx.ext hb; replace F1 := F1.ext hb; clear hb))
          go_wp2
          go_roundg (n - (j + 1))
          case measure => omega
          case rel => exact ⟨j + 1, by omega, by rw [hle.out]; simp, by rw [hge.out]; simp, by go_num, by first | exact F1 | (rw [← World.drewN_drewN]; exact F1), by first | exact HX | (rw [← World.drewN_drewN]; exact HX)⟩
        · go_wp2_with fail
          go_quiet (fail)
          replace HX := HX.ext (drew_below (Below.refl _ _) nq)
          replace AT := AT.ext (drew_below (Below.refl _ _) nq)
          replace Fx := Fx.ext (drew_below (Below.refl _ _) nq)
          replace F1 := F1.ext (drew_below (Below.refl _ _) nq)
          go_wp2_with fail
          go_quiet (fail)
          replace HX := HX.ext (drew_below (Below.refl _ _) nq)
          replace AT := AT.ext (drew_below (Below.refl _ _) nq)
          replace Fx := Fx.ext (drew_below (Below.refl _ _) nq)
          replace F1 := F1.ext (drew_below (Below.refl _ _) nq)
          go_wp2
          go_roundg (n - (j + 1))
          case measure => omega
          case rel => exact ⟨j + 1, by omega, by rw [hle.out]; simp, by rw [hge.out]; simp, by go_num, by first | exact F1 | (rw [← World.drewN_drewN]; exact F1), by first | exact HX | (rw [← World.drewN_drewN]; exact HX)⟩
    · have hjn : j = n := by omega
      have e1 : anyLe (qs.take j) u = true := by rw [List.take_of_length_le (by omega)]; exact HLE.out
      have e2 : anyGe (qs.take j) u = true := by rw [List.take_of_length_le (by omega)]; exact HGE.out
      rw [e1, e2]
      go_wp2
      go_ret
      exact ⟨rfl, HX.below⟩

theorem list_rat {w : World} : ∀ (fs : List FE), (∀ x ∈ fs, ∃ q, Fr w x.s x.A x.n x.c x.B x.m x.d q 6) → ∃ qs, FA w fs qs
  | [], _ => ⟨[], rfl, fun i x q h => by simp at h⟩
  | y :: fs, h => by
    obtain ⟨qs, hq⟩ := list_rat fs (fun x hx => h x (List.mem_cons_of_mem _ hx))
    obtain ⟨q, hy⟩ := h y List.mem_cons_self
    refine ⟨q :: qs, by simp [hq.len], fun i x r h1 h2 => ?_⟩
    cases i with
    | zero => simp at h1 h2; subst h1; subst h2; exact hy
    | succ i => exact hq.fr i x r (by simpa using h1) (by simpa using h2)
theorem fmeans_any {A : Option Addr} {c : Nat} {fs : List FE} (w : World) (hT : Tab w) (H : FS w A fs) (HA : ∀ x ∈ fs, Arg w x.s x.A x.n x.c x.B x.m x.d) (hl : fs.length ≤ 9223372036854775807) :
    Calls Tryd.prog 9 #[.slice A fs.length c] w (RetB w true) := by
  have hlens : ∀ x ∈ fs, x.n ≤ 9223372036854775807 ∧ x.m ≤ 9223372036854775807 := fun x hx => ⟨(HA x hx).hn, (HA x hx).hm⟩
  cases hf : fewB fs
  · exact fmeans_few A _ c fs w hT H rfl hl (Lib.hid hlens) (Lib.hid hf)
  · have hf2 := hf
    rw [fewB, Bool.and_eq_true, decide_eq_true_eq, List.all_eq_true] at hf2
    obtain ⟨h1, h2⟩ := hf2
    by_cases h0 : fs = []
    · subst h0; exact fmeans_nil A c w hT
    · obtain ⟨qs, hq⟩ := list_rat (w := w) fs (fun x hx => by
        have := h1 x hx
        simp only [Bool.and_eq_true, decide_eq_true_eq] at this
        exact (HA x hx).fr this.1 this.2)
      exact fmeans_yes A _ c fs qs w hT H hq rfl h2 (List.length_pos_iff.2 h0) (Lib.hid hlens) (Lib.hid hf)
end Go.Proofs.YtfndbmflllmpgaaDoor
