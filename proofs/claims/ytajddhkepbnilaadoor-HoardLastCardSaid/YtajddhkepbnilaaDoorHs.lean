/- The share of a type, and the reference's. -/
import Derived.Test.YtajddhkepbnilaaDoorHq
import Derived.Test.YtajddhkepbnilaaDoorHops
namespace Go.Proofs.YtajddhkepbnilaaDoor
open Go.RowKit Go.Proofs Go

/-- the number that a share is -/
def shq (l : List (Int × Int)) (s : Int) : Rat := rv (!(decide (numE l s < 0) == decide (totE l < 0))) (numE l s).natAbs (totE l).natAbs
theorem shq_sz {id f t : Int} {l : List (Int × Int)} (h : HV id l f t) (s : Int) : Sz (shq l s) 1 := by
  have h1 := h.num l.length s
  have h2 := h.tot l.length
  rw [List.take_length] at h1 h2
  exact sz_lit _ (by omega) (by omega)
set_option maxRecDepth 100000 in
theorem hshare_no {id f t s : Int} (A : Option Addr) (c : Nat) (l : List (Int × Int)) (w : World) (H : Es w A l) (hl : l.length ≤ 9223372036854775807) (hv : ¬ HV id l f t) :
    Calls Tryd.prog 11 #[.agg #[.int .i64 id, .slice A l.length c, .int .i64 f, .int .i64 t], .int .i64 s] w (RetZE w 1) := by
  have HV1 := no hv
  clear hv
  go_enter Tryd.func11, Tryd.ntmps11
  go_wp2_with fail
  have HX := BL.two w #[.int .i64 id, .slice A l.length c, .int .i64 f, .int .i64 t] #[.bool false, .slice none 0 0, .slice none 0 0] 26 33
  replace H := H.ext HX.below
  refine (hvalid_any (b := false) A c l _ H hl HV1).mono ?_
  rintro e w1 ⟨rfl, hb⟩
  replace HX := HX.ext hb
  replace H := H.ext hb
  clear hb
  have hc10 := HX.cell 1 0 rfl rfl
  have hf10 := HX.free 1 0 rfl
  have hc11 := HX.cell 1 1 rfl rfl
  have hf11 := HX.free 1 1 rfl
  have hc12 := HX.cell 1 2 rfl rfl
  have hf12 := HX.free 1 2 rfl
  try simp only [List.getElem_toArray, List.getElem_cons_zero, List.getElem_cons_succ] at hc10 hf10 hc11 hf11 hc12 hf12
  go_wp2
  clear hc10 hf10 hc11 hf11 hc12 hf12
  replace HX := HX.put3 1 rfl (by omega) (by intro k q hk hne; match k, hk with | 0, hk => (simp at hk; subst hk; simp at hne ⊢; try omega) | 1, hk => (simp at hk; subst hk; simp at hne ⊢; try omega) | k + 2, hk => simp at hk) (.bool false) (.slice none 0 0) (.slice none 0 0)
  simp only [List.set_cons_zero, List.set_cons_succ] at HX
  have hc10 := HX.cell 1 0 rfl rfl
  have hc11 := HX.cell 1 1 rfl rfl
  have hc12 := HX.cell 1 2 rfl rfl
  try simp only [List.getElem_toArray, List.getElem_cons_zero, List.getElem_cons_succ] at hc10 hc11 hc12
  exact bodyPost_ret (v := .tuple #[.agg #[.bool false, .slice none 0 0, .slice none 0 0], .int .i64 1]) (by simp [results, Tryd.results11, go_sem, hc10, hc11, hc12]) rfl ⟨rfl, HX.below⟩
set_option maxHeartbeats 2000000 in
set_option maxRecDepth 100000 in
theorem hshare_yes {id f t s : Int} {q : Rat} (A : Option Addr) (c : Nat) (l : List (Int × Int)) (w : World) (H : Es w A l) (hl : l.length ≤ 9223372036854775807) (hv : HV id l f t) (hq : Hid (shq l s = q)) :
    Calls Tryd.prog 11 #[.agg #[.int .i64 id, .slice A l.length c, .int .i64 f, .int .i64 t], .int .i64 s] w (RetGE w q 1) := by
  have HV1 := yes hv
  have NN : NumIs id l f t s (numE l s) := ⟨fun _ => rfl, fun h => absurd hv h⟩
  have NT : TotIs id l f t (totE l) := ⟨fun _ => rfl, fun h => absurd hv h⟩
  have hSz : Sz q 1 := hq.out ▸ shq_sz hv s
  obtain ⟨b1, b2⟩ := NN.bd
  obtain ⟨b3, b4⟩ := NT.bd
  have HQ : Hid (rv (!(decide (numE l s < 0) == decide (totE l < 0))) (numE l s).natAbs (totE l).natAbs = q) := hq
  clear hv hq
  generalize numE l s = n at *
  generalize totE l = m at *
  go_enter Tryd.func11, Tryd.ntmps11
  go_wp2_with fail
  have HX := BL.two w #[.int .i64 id, .slice A l.length c, .int .i64 f, .int .i64 t] #[.bool false, .slice none 0 0, .slice none 0 0] 26 33
  replace H := H.ext HX.below
  refine (hvalid_any (b := true) A c l _ H hl HV1).mono ?_
  rintro e w1 ⟨rfl, hb⟩
  replace HX := HX.ext hb
  replace H := H.ext hb
  clear hb
  go_upto_region 3 with fail
  have held : ∀ {W' : World} {u : Array Value}, BL w W' [(w.heap.size, #[.int .i64 id, .slice A l.length c, .int .i64 f, .int .i64 t], 26), (w.heap.size + 1, u, 33)] → W'.cell? ⟨w.heap.size, 0, none⟩ = some (.int .i64 id) ∧ W'.cell? ⟨w.heap.size, 1, none⟩ = some (.slice A l.length c) ∧ W'.cell? ⟨w.heap.size, 2, none⟩ = some (.int .i64 f) ∧ W'.cell? ⟨w.heap.size, 3, none⟩ = some (.int .i64 t) := fun h => ⟨h.cell 0 0 rfl rfl, h.cell 0 1 rfl rfl, h.cell 0 2 rfl rfl, h.cell 0 3 rfl rfl⟩
  replace HX := HX.ext (drew_ext _)
  replace H := H.ext (drew_ext _)
  go_region_held3 (fun W' => W'.cell? ⟨w.heap.size, 0, none⟩ = some (.int .i64 id) ∧ W'.cell? ⟨w.heap.size, 1, none⟩ = some (.slice A l.length c) ∧ W'.cell? ⟨w.heap.size, 2, none⟩ = some (.int .i64 f) ∧ W'.cell? ⟨w.heap.size, 3, none⟩ = some (.int .i64 t))
    (first | exact held HX | exact held (HX.put3 1 rfl (by omega) (by intro k q hk hne; match k, hk with | 0, hk => (simp at hk; subst hk; simp at hne ⊢; try omega) | 1, hk => (simp at hk; subst hk; simp at hne ⊢; try omega) | k + 2, hk => simp at hk) _ _ _))
    (first
      | (go_at_call 15; refine (hnumber_any A c l _ H hl NN).mono ?_; rintro e w3 ⟨rfl, hb⟩; replace HX := HX.ext hb; replace H := H.ext hb; clear hb)
      | (go_at_call 13; refine (htotal_any A c l _ H hl NT).mono ?_; rintro e w4 ⟨rfl, hb⟩; replace HX := HX.ext hb; replace H := H.ext hb; clear hb)
      | (go_at_call 27; refine (fof_h HQ hSz (by omega) (by omega) (by omega) (by omega)).mono ?_; rintro e w5 ⟨A5, c5, B5, d5, rfl, F5, hb⟩; replace HX := HX.ext hb; clear hb; have hc10 := HX.cell 1 0 rfl rfl; have hf10 := HX.free 1 0 rfl; have hc11 := HX.cell 1 1 rfl rfl; have hf11 := HX.free 1 1 rfl; have hc12 := HX.cell 1 2 rfl rfl; have hf12 := HX.free 1 2 rfl; (try simp only [List.getElem_toArray, List.getElem_cons_zero, List.getElem_cons_succ] at hc10 hf10 hc11 hf11 hc12 hf12)))
  all_goals (
    clear held hc10 hc11 hc12 hf10 hf11 hf12
    have hk := HX.keep3 1 rfl rfl rfl rfl (by omega) (.bool (sg q)) (.slice A5 (dig (nu q)).length c5) (.slice B5 (dig q.den).length d5)
    replace HX := HX.put3 1 rfl (by omega) (by intro k q hk hne; match k, hk with | 0, hk => (simp at hk; subst hk; simp at hne ⊢; try omega) | 1, hk => (simp at hk; subst hk; simp at hne ⊢; try omega) | k + 2, hk => simp at hk) (.bool (sg q)) (.slice A5 (dig (nu q)).length c5) (.slice B5 (dig q.den).length d5)
    replace F5 := F5.stay hk
    clear hk
    simp only [List.set_cons_zero, List.set_cons_succ] at HX
    have hc10 := HX.cell 1 0 rfl rfl
    have hc11 := HX.cell 1 1 rfl rfl
    have hc12 := HX.cell 1 2 rfl rfl
    try simp only [List.getElem_toArray, List.getElem_cons_zero, List.getElem_cons_succ] at hc10 hc11 hc12
    go_wp2
    exact bodyPost_ret (v := .tuple #[.agg #[.bool (sg q), .slice A5 (dig (nu q)).length c5, .slice B5 (dig q.den).length d5], .int .i64 0]) (by simp [results, Tryd.results11, go_sem, hc10, hc11, hc12]) rfl ⟨A5, c5, B5, d5, rfl, F5, HX.below⟩)
set_option maxRecDepth 100000 in
theorem rshare_no {id f t s : Int} (A : Option Addr) (c : Nat) (l : List (Int × Int)) (w : World) (H : Es w A l) (hl : l.length ≤ 9223372036854775807) (hv : ¬ HV id l f t) :
    Calls Tryd.prog 12 #[.agg #[.int .i64 id, .slice A l.length c, .int .i64 f, .int .i64 t], .int .i64 s] w (RetZE w 1) := by
  have HV1 := no hv
  clear hv
  go_enter Tryd.func12, Tryd.ntmps12
  go_wp2_with fail
  have HX := BL.two w #[.int .i64 id, .slice A l.length c, .int .i64 f, .int .i64 t] #[.bool false, .slice none 0 0, .slice none 0 0] 26 33
  replace H := H.ext HX.below
  refine (bhoard_any (b := false) A c l _ H hl HV1).mono ?_
  rintro e w1 ⟨rfl, hb⟩
  replace HX := HX.ext hb
  replace H := H.ext hb
  clear hb
  have hc10 := HX.cell 1 0 rfl rfl
  have hf10 := HX.free 1 0 rfl
  have hc11 := HX.cell 1 1 rfl rfl
  have hf11 := HX.free 1 1 rfl
  have hc12 := HX.cell 1 2 rfl rfl
  have hf12 := HX.free 1 2 rfl
  try simp only [List.getElem_toArray, List.getElem_cons_zero, List.getElem_cons_succ] at hc10 hf10 hc11 hf11 hc12 hf12
  go_wp2
  clear hc10 hf10 hc11 hf11 hc12 hf12
  replace HX := HX.put3 1 rfl (by omega) (by intro k q hk hne; match k, hk with | 0, hk => (simp at hk; subst hk; simp at hne ⊢; try omega) | 1, hk => (simp at hk; subst hk; simp at hne ⊢; try omega) | k + 2, hk => simp at hk) (.bool false) (.slice none 0 0) (.slice none 0 0)
  simp only [List.set_cons_zero, List.set_cons_succ] at HX
  have hc10 := HX.cell 1 0 rfl rfl
  have hc11 := HX.cell 1 1 rfl rfl
  have hc12 := HX.cell 1 2 rfl rfl
  try simp only [List.getElem_toArray, List.getElem_cons_zero, List.getElem_cons_succ] at hc10 hc11 hc12
  exact bodyPost_ret (v := .tuple #[.agg #[.bool false, .slice none 0 0, .slice none 0 0], .int .i64 1]) (by simp [results, Tryd.results12, go_sem, hc10, hc11, hc12]) rfl ⟨rfl, HX.below⟩
set_option maxHeartbeats 2000000 in
set_option maxRecDepth 100000 in
theorem rshare_yes {id f t s : Int} {q : Rat} (A : Option Addr) (c : Nat) (l : List (Int × Int)) (w : World) (H : Es w A l) (hl : l.length ≤ 9223372036854775807) (hv : HV id l f t) (hq : Hid (shq l s = q)) :
    Calls Tryd.prog 12 #[.agg #[.int .i64 id, .slice A l.length c, .int .i64 f, .int .i64 t], .int .i64 s] w (RetGE w q 1) := by
  have HV1 := yes hv
  have NN : NumIs id l f t s (numE l s) := ⟨fun _ => rfl, fun h => absurd hv h⟩
  have NT : TotIs id l f t (totE l) := ⟨fun _ => rfl, fun h => absurd hv h⟩
  have hSz : Sz q 1 := hq.out ▸ shq_sz hv s
  obtain ⟨b1, b2⟩ := NN.bd
  obtain ⟨b3, b4⟩ := NT.bd
  have HQ : Hid (rv (!(decide (numE l s < 0) == decide (totE l < 0))) (numE l s).natAbs (totE l).natAbs = q) := hq
  clear hv hq
  generalize numE l s = n at *
  generalize totE l = m at *
  go_enter Tryd.func12, Tryd.ntmps12
  go_wp2_with fail
  have HX := BL.two w #[.int .i64 id, .slice A l.length c, .int .i64 f, .int .i64 t] #[.bool false, .slice none 0 0, .slice none 0 0] 26 33
  replace H := H.ext HX.below
  refine (bhoard_any (b := true) A c l _ H hl HV1).mono ?_
  rintro e w1 ⟨rfl, hb⟩
  replace HX := HX.ext hb
  replace H := H.ext hb
  clear hb
  go_upto_region 3 with fail
  have held : ∀ {W' : World} {u : Array Value}, BL w W' [(w.heap.size, #[.int .i64 id, .slice A l.length c, .int .i64 f, .int .i64 t], 26), (w.heap.size + 1, u, 33)] → W'.cell? ⟨w.heap.size, 0, none⟩ = some (.int .i64 id) ∧ W'.cell? ⟨w.heap.size, 1, none⟩ = some (.slice A l.length c) ∧ W'.cell? ⟨w.heap.size, 2, none⟩ = some (.int .i64 f) ∧ W'.cell? ⟨w.heap.size, 3, none⟩ = some (.int .i64 t) := fun h => ⟨h.cell 0 0 rfl rfl, h.cell 0 1 rfl rfl, h.cell 0 2 rfl rfl, h.cell 0 3 rfl rfl⟩
  replace HX := HX.ext (drew_ext _)
  replace H := H.ext (drew_ext _)
  go_region_held3 (fun W' => W'.cell? ⟨w.heap.size, 0, none⟩ = some (.int .i64 id) ∧ W'.cell? ⟨w.heap.size, 1, none⟩ = some (.slice A l.length c) ∧ W'.cell? ⟨w.heap.size, 2, none⟩ = some (.int .i64 f) ∧ W'.cell? ⟨w.heap.size, 3, none⟩ = some (.int .i64 t))
    (first | exact held HX | exact held (HX.put3 1 rfl (by omega) (by intro k q hk hne; match k, hk with | 0, hk => (simp at hk; subst hk; simp at hne ⊢; try omega) | 1, hk => (simp at hk; subst hk; simp at hne ⊢; try omega) | k + 2, hk => simp at hk) _ _ _))
    (first
      | (go_at_call 16; refine (rnumber_any A c l _ H hl NN).mono ?_; rintro e w3 ⟨rfl, hb⟩; replace HX := HX.ext hb; replace H := H.ext hb; clear hb)
      | (go_at_call 14; refine (rtotal_any A c l _ H hl NT).mono ?_; rintro e w4 ⟨rfl, hb⟩; replace HX := HX.ext hb; replace H := H.ext hb; clear hb)
      | (go_at_call 34; refine (qof_h HQ hSz (by omega) (by omega) (by omega) (by omega)).mono ?_; rintro e w5 ⟨A5, c5, B5, d5, rfl, F5, hb⟩; replace HX := HX.ext hb; clear hb; have hc10 := HX.cell 1 0 rfl rfl; have hf10 := HX.free 1 0 rfl; have hc11 := HX.cell 1 1 rfl rfl; have hf11 := HX.free 1 1 rfl; have hc12 := HX.cell 1 2 rfl rfl; have hf12 := HX.free 1 2 rfl; (try simp only [List.getElem_toArray, List.getElem_cons_zero, List.getElem_cons_succ] at hc10 hf10 hc11 hf11 hc12 hf12)))
  all_goals (
    clear held hc10 hc11 hc12 hf10 hf11 hf12
    have hk := HX.keep3 1 rfl rfl rfl rfl (by omega) (.bool (sg q)) (.slice A5 (dig (nu q)).length c5) (.slice B5 (dig q.den).length d5)
    replace HX := HX.put3 1 rfl (by omega) (by intro k q hk hne; match k, hk with | 0, hk => (simp at hk; subst hk; simp at hne ⊢; try omega) | 1, hk => (simp at hk; subst hk; simp at hne ⊢; try omega) | k + 2, hk => simp at hk) (.bool (sg q)) (.slice A5 (dig (nu q)).length c5) (.slice B5 (dig q.den).length d5)
    replace F5 := F5.stay hk
    clear hk
    simp only [List.set_cons_zero, List.set_cons_succ] at HX
    have hc10 := HX.cell 1 0 rfl rfl
    have hc11 := HX.cell 1 1 rfl rfl
    have hc12 := HX.cell 1 2 rfl rfl
    try simp only [List.getElem_toArray, List.getElem_cons_zero, List.getElem_cons_succ] at hc10 hc11 hc12
    go_wp2
    exact bodyPost_ret (v := .tuple #[.agg #[.bool (sg q), .slice A5 (dig (nu q)).length c5, .slice B5 (dig q.den).length d5], .int .i64 0]) (by simp [results, Tryd.results12, go_sem, hc10, hc11, hc12]) rfl ⟨A5, c5, B5, d5, rfl, F5, HX.below⟩)
end Go.Proofs.YtajddhkepbnilaaDoor
