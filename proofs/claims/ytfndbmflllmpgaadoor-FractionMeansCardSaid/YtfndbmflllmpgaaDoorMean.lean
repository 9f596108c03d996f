/- Means of lists of fractions. -/
import Derived.Test.YtfndbmflllmpgaaDoorSum2
namespace Go.Proofs.YtfndbmflllmpgaaDoor
open Go.RowKit Go.Proofs Go

set_option maxHeartbeats 400000 in
set_option maxRecDepth 100000 in
theorem fmean_no (A : Option Addr) (c : Nat) (w : World) :
    Calls Tryd.prog 35 #[.slice A 0 c] w (RetZE w 7) := by
  go_enter Tryd.func35, Tryd.ntmps35
  go_wp2_with fail
  have HX := BL.one w #[.bool false, .slice none 0 0, .slice none 0 0] 26
  have hc00 := HX.cell 0 0 rfl rfl
  have hc01 := HX.cell 0 1 rfl rfl
  have hc02 := HX.cell 0 2 rfl rfl
  try simp only [List.getElem_toArray, List.getElem_cons_zero, List.getElem_cons_succ] at hc00 hc01 hc02
  exact bodyPost_ret (v := .tuple #[.agg #[.bool false, .slice none 0 0, .slice none 0 0], .int .i64 7]) (by simp [results, Tryd.results35, go_sem, hc00, hc01, hc02]) rfl ⟨rfl, HX.below⟩

set_option maxHeartbeats 400000 in
set_option maxRecDepth 100000 in
theorem fmean_any (A : Option Addr) (n c : Nat) (fs : List FE) (qs : List Rat) (u : Rat) (w : World) (H : FS w A fs) (HF : FA w fs qs) (hn : n = fs.length) (hl : n ≤ 20) (h0 : 0 < n) (hu : Hid (rsum qs * (rv false n 1)⁻¹ = u)) :
    Calls Tryd.prog 35 #[.slice A n c] w (RetGE w u 162) := by
  have zd : Sz (rv false n 1) 1 := sz_lit false (by omega) (by omega)
  have zs := rsum_sz HF qs.length (Nat.le_refl _)
  rw [List.take_length] at zs
  have zu : Sz u 162 := by
    have := HF.len
    rw [← hu.out]; exact (zs.div zd).mono (by omega)
  have hd0 : Hid (rv false n 1 ≠ 0) := Lib.hid (fun e => by rw [rv_eq_zero] at e; omega)
  have hdv : Hid (rv (!(decide (((n : Nat) : Int) < 0) == decide ((1 : Int) < 0))) ((n : Nat) : Int).natAbs (1 : Int).natAbs = rv false n 1) := Lib.hid (by
    have : decide (((n : Nat) : Int) < 0) = false := decide_eq_false (by omega)
    rw [this]; rfl)
  have hz : (((n : Nat) : Int) == 0) = false := by simp; omega
  have HN := Lib.hid hn
  clear zs hn
  generalize hD : rv false n 1 = D at *
  have HD := Lib.hid hD
  clear hD
  generalize hS : rsum qs = S at *
  have HS := Lib.hid hS
  clear hS
  go_enter Tryd.func35, Tryd.ntmps35
  go_wp2_with fail
  have HX := BL.one w #[.bool false, .slice none 0 0, .slice none 0 0] 26
  refine (fsum_any A n c fs qs _ (H.ext HX.below) (HF.ext HX.below) HN.out hl).mono ?_
  rw [HS.out]
  rintro e w1 ⟨A1, c1, B1, d1, rfl, F1, hb⟩
  replace HX := HX.ext hb
  clear hb
  go_wp2_with fail
  refine (fof_h hdv zd (by omega) (by omega) (by omega) (by omega)).mono ?_
  rintro e w2 ⟨A2, c2, B2, d2, rfl, F2, hb⟩
  replace HX := HX.ext hb
  replace F1 := F1.ext hb
  clear hb
  go_wp2_with fail
  refine (fdiv_h hu hd0 zu F1.fr F2.fr (by omega) (by omega)).mono ?_
  rintro e w3 ⟨A9, c9, B9, d9, rfl, F9, hb⟩
  replace HX := HX.ext hb
  clear hb F1 F2
  have hc00 := HX.cell 0 0 rfl rfl
  have hf00 := HX.free 0 0 rfl
  have hc01 := HX.cell 0 1 rfl rfl
  have hf01 := HX.free 0 1 rfl
  have hc02 := HX.cell 0 2 rfl rfl
  have hf02 := HX.free 0 2 rfl
  try simp only [List.getElem_toArray, List.getElem_cons_zero, List.getElem_cons_succ] at hc00 hf00 hc01 hf01 hc02 hf02
  go_wp2
  clear hc00 hf00 hc01 hf01 hc02 hf02
  have hk := HX.keep3 0 rfl rfl rfl rfl (by omega) (.bool (sg u)) (.slice A9 (dig (nu u)).length c9) (.slice B9 (dig u.den).length d9)
  replace HX := HX.put3 0 rfl (by omega) (by intro k q hk hne; match k, hk with | 0, hk => (simp at hk; subst hk; simp at hne ⊢; try omega) | k + 1, hk => simp at hk) (.bool (sg u)) (.slice A9 (dig (nu u)).length c9) (.slice B9 (dig u.den).length d9)
  replace F9 := F9.stay hk
  clear hk
  simp only [List.set_cons_zero] at HX
  have hc00 := HX.cell 0 0 rfl rfl
  have hc01 := HX.cell 0 1 rfl rfl
  have hc02 := HX.cell 0 2 rfl rfl
  try simp only [List.getElem_toArray, List.getElem_cons_zero, List.getElem_cons_succ] at hc00 hc01 hc02
  exact bodyPost_ret (v := .tuple #[.agg #[.bool (sg u), .slice A9 (dig (nu u)).length c9, .slice B9 (dig u.den).length d9], .int .i64 0]) (by simp [results, Tryd.results35, go_sem, hc00, hc01, hc02]) rfl ⟨A9, c9, B9, d9, rfl, F9, HX.below⟩

set_option maxHeartbeats 400000 in
set_option maxRecDepth 100000 in
theorem qmean_no (A : Option Addr) (c : Nat) (w : World) :
    Calls Tryd.prog 36 #[.slice A 0 c] w (RetZE w 7) := by
  go_enter Tryd.func36, Tryd.ntmps36
  go_wp2_with fail
  have HX := BL.one w #[.bool false, .slice none 0 0, .slice none 0 0] 26
  have hc00 := HX.cell 0 0 rfl rfl
  have hc01 := HX.cell 0 1 rfl rfl
  have hc02 := HX.cell 0 2 rfl rfl
  try simp only [List.getElem_toArray, List.getElem_cons_zero, List.getElem_cons_succ] at hc00 hc01 hc02
  exact bodyPost_ret (v := .tuple #[.agg #[.bool false, .slice none 0 0, .slice none 0 0], .int .i64 7]) (by simp [results, Tryd.results36, go_sem, hc00, hc01, hc02]) rfl ⟨rfl, HX.below⟩

set_option maxHeartbeats 400000 in
set_option maxRecDepth 100000 in
theorem qmean_any (A : Option Addr) (n c : Nat) (fs : List FE) (qs : List Rat) (u : Rat) (w : World) (H : FS w A fs) (HF : FA w fs qs) (hn : n = fs.length) (hl : n ≤ 20) (h0 : 0 < n) (hu : Hid (rsum qs * (rv false n 1)⁻¹ = u)) :
    Calls Tryd.prog 36 #[.slice A n c] w (RetGE w u 162) := by
  have zd : Sz (rv false n 1) 1 := sz_lit false (by omega) (by omega)
  have zs := rsum_sz HF qs.length (Nat.le_refl _)
  rw [List.take_length] at zs
  have zu : Sz u 162 := by
    have := HF.len
    rw [← hu.out]; exact (zs.div zd).mono (by omega)
  have hd0 : Hid (rv false n 1 ≠ 0) := Lib.hid (fun e => by rw [rv_eq_zero] at e; omega)
  have hdv : Hid (rv (!(decide (((n : Nat) : Int) < 0) == decide ((1 : Int) < 0))) ((n : Nat) : Int).natAbs (1 : Int).natAbs = rv false n 1) := Lib.hid (by
    have : decide (((n : Nat) : Int) < 0) = false := decide_eq_false (by omega)
    rw [this]; rfl)
  have hz : (((n : Nat) : Int) == 0) = false := by simp; omega
  have HN := Lib.hid hn
  clear zs hn
  generalize hD : rv false n 1 = D at *
  have HD := Lib.hid hD
  clear hD
  generalize hS : rsum qs = S at *
  have HS := Lib.hid hS
  clear hS
  go_enter Tryd.func36, Tryd.ntmps36
  go_wp2_with fail
  have HX := BL.one w #[.bool false, .slice none 0 0, .slice none 0 0] 26
  refine (qsum_any A n c fs qs _ (H.ext HX.below) (HF.ext HX.below) HN.out hl).mono ?_
  rw [HS.out]
  rintro e w1 ⟨A1, c1, B1, d1, rfl, F1, hb⟩
  replace HX := HX.ext hb
  clear hb
  go_wp2_with fail
  refine (qof_h hdv zd (by omega) (by omega) (by omega) (by omega)).mono ?_
  rintro e w2 ⟨A2, c2, B2, d2, rfl, F2, hb⟩
  replace HX := HX.ext hb
  replace F1 := F1.ext hb
  clear hb
  go_wp2_with fail
  refine (qdiv_h hu hd0 zu F1.fr F2.fr (by omega) (by omega)).mono ?_
  rintro e w3 ⟨A9, c9, B9, d9, rfl, F9, hb⟩
  replace HX := HX.ext hb
  clear hb F1 F2
  have hc00 := HX.cell 0 0 rfl rfl
  have hf00 := HX.free 0 0 rfl
  have hc01 := HX.cell 0 1 rfl rfl
  have hf01 := HX.free 0 1 rfl
  have hc02 := HX.cell 0 2 rfl rfl
  have hf02 := HX.free 0 2 rfl
  try simp only [List.getElem_toArray, List.getElem_cons_zero, List.getElem_cons_succ] at hc00 hf00 hc01 hf01 hc02 hf02
  go_wp2
  clear hc00 hf00 hc01 hf01 hc02 hf02
  have hk := HX.keep3 0 rfl rfl rfl rfl (by omega) (.bool (sg u)) (.slice A9 (dig (nu u)).length c9) (.slice B9 (dig u.den).length d9)
  replace HX := HX.put3 0 rfl (by omega) (by intro k q hk hne; match k, hk with | 0, hk => (simp at hk; subst hk; simp at hne ⊢; try omega) | k + 1, hk => simp at hk) (.bool (sg u)) (.slice A9 (dig (nu u)).length c9) (.slice B9 (dig u.den).length d9)
  replace F9 := F9.stay hk
  clear hk
  simp only [List.set_cons_zero] at HX
  have hc00 := HX.cell 0 0 rfl rfl
  have hc01 := HX.cell 0 1 rfl rfl
  have hc02 := HX.cell 0 2 rfl rfl
  try simp only [List.getElem_toArray, List.getElem_cons_zero, List.getElem_cons_succ] at hc00 hc01 hc02
  exact bodyPost_ret (v := .tuple #[.agg #[.bool (sg u), .slice A9 (dig (nu u)).length c9, .slice B9 (dig u.den).length d9], .int .i64 0]) (by simp [results, Tryd.results36, go_sem, hc00, hc01, hc02]) rfl ⟨A9, c9, B9, d9, rfl, F9, HX.below⟩

end Go.Proofs.YtfndbmflllmpgaaDoor
