/- The reference's Measure, Valid. -/
import Derived.Test.YtolkijelldlmeaaGreatDoorYScM
namespace Go.Proofs.YtolkijelldlmeaaGreatDoor
open Go.RowKit Go.Proofs Go

set_option maxHeartbeats 4000000 in
set_option maxRecDepth 100000 in
theorem rcount_any : ∀ (t : TT) (bi : Int) (b : Nat) (w : World), Hid (bi = (b : Int)) → b ≤ 100000 → t.Mem w →
    Calls Tryz.prog 82 #[t.val, .int .i64 bi] w (RetI w (t.tm.cnt b : Nat)) := by
  refine fun t => TT.ind (P := fun t => ∀ (bi : Int) (b : Nat) (w : World), Hid (bi = (b : Int)) → b ≤ 100000 → t.Mem w → Calls Tryz.prog 82 #[t.val, .int .i64 bi] w (RetI w (t.tm.cnt b : Nat))) (fun t ih0 bi b w hbi hb HM0 => ?_) t
  obtain ⟨k, f, o, v, A, c, ks⟩ := t
  obtain ⟨HK0, hl, HM⟩ := HM0.kids
  clear HM0
  have ih : ∀ x ∈ ks, ∀ (bi : Int) (b : Nat) (w : World), Hid (bi = (b : Int)) → b ≤ 100000 → x.Mem w → Calls Tryz.prog 82 #[x.val, .int .i64 bi] w (RetI w (x.tm.cnt b : Nat)) := ih0
  clear ih0
  show Calls _ _ #[.agg #[.int .i64 k, .int .i64 f, .int .i64 o, .int .i64 v, .slice A ks.length c], .int .i64 bi] w _
  have hres := Lib.hid (show (TT.mk k f o v A c ks).tm.cnt b = Tm.cntL (ks.map TT.tm) b by rw [TT.tm_mk, Tm.cnt_mk])
  rw [hres.out]
  have h0 := Lib.hid (show Tm.cntL (TT.pre ks 0) b = 1 from Tm.cntL_nil b)
  have HX := BL.one w #[.int .i64 k, .int .i64 f, .int .i64 o, .int .i64 v, .slice A ks.length c] 55
  go_enter Tryz.func82, Tryz.ntmps82
  go_upto_region 1 with fail
  generalize w.alloc (.cells #[.int .i64 k, .int .i64 f, .int .i64 o, .int .i64 v, .slice A ks.length c] 55) = W0 at *
  go_wp2
  go_loopg [5, 6] ks.length (fun g n i wr => ∃ (j m : Nat), j + g = ks.length ∧ i = .int .i64 (j : Int) ∧ n = .int .i64 (m : Int) ∧ Hid (Tm.cntL (TT.pre ks j) b = m) ∧ BL w wr [(w.heap.size, #[.int .i64 k, .int .i64 f, .int .i64 o, .int .i64 v, .slice A ks.length c], 55)])
  case atStart => exact ⟨0, 1, by omega, rfl, rfl, h0, HX⟩
  case round =>
    clear HX h0
    obtain ⟨j, m, hj, rfl, rfl, hm, HX⟩ := hrel
    have HK := HK0.ext HX.below
    have hmb := Lib.hid (show m ≤ b + 1 by rw [← hm.out, Tm.cntL]; omega)
    have hc04 := HX.cell 0 4 rfl rfl
    try simp only [List.getElem_toArray, List.getElem_cons_zero, List.getElem_cons_succ] at hc04
    by_cases hjl : j < ks.length
    · obtain ⟨x, hx⟩ : ∃ x, Hid (ks[j]? = some x) := ⟨_, Lib.hid (List.getElem?_eq_getElem hjl)⟩
      have hxm : x ∈ ks := List.mem_of_getElem? hx.out
      obtain ⟨ad, rfl, hadb, e0, e1, e2, e3, e4⟩ := HK.at_ hx.out
      by_cases hmB : m ≤ b
      · have hd : decide ((m : Int) ≤ bi) = true := decide_eq_true (by rw [hbi.out]; omega)
        obtain ⟨d, hd2⟩ : ∃ d : Int, Hid (bi - (m : Int) = d) := ⟨_, Lib.hid rfl⟩
        have hdn := Lib.hid (show d = ((b - m : Nat) : Int) by rw [← hd2.out, hbi.out]; omega)
        obtain ⟨s, hs⟩ : ∃ s, Hid (x.tm.cnt (b - m) = s) := ⟨_, Lib.hid rfl⟩
        have hnext := Lib.hid (show Tm.cntL (TT.pre ks (j + 1)) b = m + s by rw [TT.pre_succ hx.out, Tm.cntL_snoc (by rw [hm.out]; exact hmB), hm.out, hs.out])
        have hsb := Lib.hid (show s ≤ b - m + 1 by rw [← hs.out, Tm.cnt]; omega)
        have hmI : (m : Int) ≤ bi := by rw [hbi.out]; omega
        have hbI : bi ≤ 100000 := by rw [hbi.out]; omega
        go_wp2_with fail
        rw [hd2.out]
        refine (ih x hxm d (b - m) _ hdn (by omega) ((HM x hxm).ext HX.below)).mono ?_
        rw [hs.out]
        rintro e w5 ⟨rfl, hb5⟩
        replace HX := HX.ext hb5
        clear hb5 hc04
        have hsb2 := hsb.out
        go_wp2
        go_roundg (ks.length - (j + 1))
        case measure => omega
        case rel => exact ⟨j + 1, m + s, by omega, by go_num, by go_num, hnext, HX⟩
      · have hd : decide ((m : Int) ≤ bi) = false := decide_eq_false (by rw [hbi.out]; omega)
        have hfin := Lib.hid (show Tm.cntL (ks.map TT.tm) b = m by rw [TT.pre_split ks j, Tm.cntL_stop (by rw [hm.out]; exact hmB), hm.out])
        go_wp2
        go_ret
        exact ⟨by rw [hfin.out]; rfl, HX.below⟩
    · obtain rfl : j = ks.length := by omega
      have hfin := Lib.hid (show Tm.cntL (ks.map TT.tm) b = m by rw [← TT.pre_all, hm.out])
      go_wp2
      go_ret
      exact ⟨by rw [hfin.out]; rfl, HX.below⟩
set_option maxHeartbeats 1000000 in
set_option maxRecDepth 100000 in
theorem rfew_any {b : Bool} (t : TT) (w : World) (HM : t.Mem w) (hb : Tells b (t.tm.size ≤ 60)) : Calls Tryz.prog 22 #[t.val, .int .i64 60] w (RetB w b) := by
  have HX := BL.one w #[.int .i64 t.k, .int .i64 t.f, .int .i64 t.o, .int .i64 t.v, .slice t.A t.ks.length t.c] 55
  replace HM := TT.Mem.ext HX.below HM
  obtain ⟨s, hs⟩ : ∃ s, Hid (t.tm.cnt 60 = s) := ⟨_, Lib.hid rfl⟩
  have hd : decide ((s : Int) ≤ 60) = b := by
    rw [← Tm.cnt_le, hs.out] at hb
    cases b with
    | true => exact decide_eq_true (by have := hb.1 rfl; omega)
    | false => exact decide_eq_false (fun h => by have := hb.2 (by omega); cases this)
  have c1 := rcount_any t 60 60 _ (Lib.hid rfl) (by omega) HM
  rw [hs.out] at c1
  show Calls _ _ #[.agg #[.int .i64 t.k, .int .i64 t.f, .int .i64 t.o, .int .i64 t.v, .slice t.A t.ks.length t.c], _] w _
  go_enter Tryz.func22, Tryz.ntmps22
  go_upto_region 1 with fail
  generalize w.alloc (.cells #[.int .i64 t.k, .int .i64 t.f, .int .i64 t.o, .int .i64 t.v, .slice t.A t.ks.length t.c] 55) = W0 at *
  have hc00 := HX.cell 0 0 rfl rfl
  have hc01 := HX.cell 0 1 rfl rfl
  have hc02 := HX.cell 0 2 rfl rfl
  have hc03 := HX.cell 0 3 rfl rfl
  have hc04 := HX.cell 0 4 rfl rfl
  try simp only [List.getElem_toArray, List.getElem_cons_zero, List.getElem_cons_succ] at hc00 hc01 hc02 hc03 hc04
  go_wp2_with fail
  refine c1.mono ?_
  rintro e w5 ⟨rfl, hb5⟩
  replace HX := HX.ext hb5
  go_wp2
  go_ret
  exact ⟨by first | rfl | (rw [hd]; rfl), HX.below⟩
set_option maxHeartbeats 8000000 in
set_option maxRecDepth 100000 in
theorem rsame_any : ∀ (t u : TT) (b : Bool) (w : World), t.Mem w → u.Mem w → Tells b (t.tm = u.tm) →
    Calls Tryz.prog 38 #[t.val, u.val] w (RetB w b) := by
  refine fun t => TT.ind (P := fun t => ∀ (u : TT) (b : Bool) (w : World), t.Mem w → u.Mem w → Tells b (t.tm = u.tm) → Calls Tryz.prog 38 #[t.val, u.val] w (RetB w b)) (fun t ih0 u b w HM0 HMu hb => ?_) t
  obtain ⟨k, f, o, v, A, c, ks⟩ := t
  obtain ⟨k2, f2, o2, v2, A2, c2, ks2⟩ := u
  obtain ⟨HK0, hl, HM⟩ := HM0.kids
  obtain ⟨HK20, hl2, HM2⟩ := HMu.kids
  clear HM0 HMu
  have ih : ∀ x ∈ ks, ∀ (u : TT) (b : Bool) (w : World), x.Mem w → u.Mem w → Tells b (x.tm = u.tm) → Calls Tryz.prog 38 #[x.val, u.val] w (RetB w b) := ih0
  clear ih0
  show Calls _ _ #[.agg #[.int .i64 k, .int .i64 f, .int .i64 o, .int .i64 v, .slice A ks.length c], .agg #[.int .i64 k2, .int .i64 f2, .int .i64 o2, .int .i64 v2, .slice A2 ks2.length c2]] w _
  have HX := BL.two w #[.int .i64 k, .int .i64 f, .int .i64 o, .int .i64 v, .slice A ks.length c] #[.int .i64 k2, .int .i64 f2, .int .i64 o2, .int .i64 v2, .slice A2 ks2.length c2] 55 55
  by_cases hk : k = k2
  · subst hk
    by_cases hf : f = f2
    · subst hf
      by_cases ho : o = o2
      · subst ho
        by_cases hv : v = v2
        · subst hv
          by_cases hn : ks.length = ks2.length
          · have hn2 := Lib.hid hn
            clear hn
            rw [hn2.out.symm] at HX ⊢
            go_enter Tryz.func38, Tryz.ntmps38
            go_upto_region 1 with fail
            generalize (w.alloc (.cells #[.int .i64 k, .int .i64 f, .int .i64 o, .int .i64 v, .slice A ks.length c] 55)).alloc (.cells #[.int .i64 k, .int .i64 f, .int .i64 o, .int .i64 v, .slice A2 ks.length c2] 55) = W0 at *
            have hc00 := HX.cell 0 0 rfl rfl
            have hc01 := HX.cell 0 1 rfl rfl
            have hc02 := HX.cell 0 2 rfl rfl
            have hc03 := HX.cell 0 3 rfl rfl
            have hc04 := HX.cell 0 4 rfl rfl
            try simp only [List.getElem_toArray, List.getElem_cons_zero, List.getElem_cons_succ] at hc00 hc01 hc02 hc03 hc04
            have hc10 := HX.cell 1 0 rfl rfl
            have hc11 := HX.cell 1 1 rfl rfl
            have hc12 := HX.cell 1 2 rfl rfl
            have hc13 := HX.cell 1 3 rfl rfl
            have hc14 := HX.cell 1 4 rfl rfl
            try simp only [List.getElem_toArray, List.getElem_cons_zero, List.getElem_cons_succ] at hc10 hc11 hc12 hc13 hc14
            go_wp2
            go_loopg [5] ks.length (fun g i wr => ∃ (j : Nat), j + g = ks.length ∧ i = .int .i64 (j : Int) ∧ Hid (TT.pre ks j = TT.pre ks2 j) ∧ BL w wr [(w.heap.size, #[.int .i64 k, .int .i64 f, .int .i64 o, .int .i64 v, .slice A ks.length c], 55), (w.heap.size + 1, #[.int .i64 k, .int .i64 f, .int .i64 o, .int .i64 v, .slice A2 ks.length c2], 55)])
            case atStart => exact ⟨0, by omega, rfl, Lib.hid rfl, HX⟩
            case round =>
              clear HX hc00 hc10 hc01 hc11 hc02 hc12 hc03 hc13 hc04 hc14
              obtain ⟨j, hj, rfl, hp, HX⟩ := hrel
              have HK := HK0.ext HX.below
              have HK2 := HK20.ext HX.below
              by_cases hjl : j < ks.length
              · obtain ⟨x, hx⟩ : ∃ x, Hid (ks[j]? = some x) := ⟨_, Lib.hid (List.getElem?_eq_getElem hjl)⟩
                have hxm : x ∈ ks := List.mem_of_getElem? hx.out
                obtain ⟨y, hy⟩ : ∃ y, Hid (ks2[j]? = some y) := ⟨_, Lib.hid (List.getElem?_eq_getElem (by have := hn2.out; omega))⟩
                have hym : y ∈ ks2 := List.mem_of_getElem? hy.out
                obtain ⟨ad, rfl, hadb, e0, e1, e2, e3, e4⟩ := HK.at_ hx.out
                obtain ⟨ad2, rfl, hadb2, g0, g1, g2, g3, g4⟩ := HK2.at_ hy.out
                by_cases hxy : x.tm = y.tm
                · have yp := yes hxy
                  have hp2 := Lib.hid (show TT.pre ks (j + 1) = TT.pre ks2 (j + 1) by rw [TT.pre_succ hx.out, TT.pre_succ hy.out, hp.out, hxy])
                  clear hxy
                  have hc04 := HX.cell 0 4 rfl rfl
                  try simp only [List.getElem_toArray, List.getElem_cons_zero, List.getElem_cons_succ] at hc04
                  have held : ∀ {W' : World}, BL w W' [(w.heap.size, #[.int .i64 k, .int .i64 f, .int .i64 o, .int .i64 v, .slice (some ad) ks.length c], 55), (w.heap.size + 1, #[.int .i64 k, .int .i64 f, .int .i64 o, .int .i64 v, .slice (some ad2) ks.length c2], 55)] → Below wr.heap.size wr W' → W'.cell? ⟨w.heap.size, 4, none⟩ = some (.slice (some ad) ks.length c) ∧ W'.cell? ⟨w.heap.size + 1, 4, none⟩ = some (.slice (some ad2) ks.length c2) ∧ W'.cell? (ad.add (j * 5)) = some (.int .i64 x.k) ∧ W'.cell? ⟨(ad.add (j * 5)).block, (ad.add (j * 5)).off + 1, none⟩ = some (.int .i64 x.f) ∧ W'.cell? ⟨(ad.add (j * 5)).block, (ad.add (j * 5)).off + 2, none⟩ = some (.int .i64 x.o) ∧ W'.cell? ⟨(ad.add (j * 5)).block, (ad.add (j * 5)).off + 3, none⟩ = some (.int .i64 x.v) ∧ W'.cell? ⟨(ad.add (j * 5)).block, (ad.add (j * 5)).off + 4, none⟩ = some (.slice x.A x.ks.length x.c) ∧ W'.cell? (ad2.add (j * 5)) = some (.int .i64 y.k) ∧ W'.cell? ⟨(ad2.add (j * 5)).block, (ad2.add (j * 5)).off + 1, none⟩ = some (.int .i64 y.f) ∧ W'.cell? ⟨(ad2.add (j * 5)).block, (ad2.add (j * 5)).off + 2, none⟩ = some (.int .i64 y.o) ∧ W'.cell? ⟨(ad2.add (j * 5)).block, (ad2.add (j * 5)).off + 3, none⟩ = some (.int .i64 y.v) ∧ W'.cell? ⟨(ad2.add (j * 5)).block, (ad2.add (j * 5)).off + 4, none⟩ = some (.slice y.A y.ks.length y.c) := fun h hb => ⟨h.cell 0 4 rfl rfl, h.cell 1 4 rfl rfl, cellup hb e0, cellup hb e1, cellup hb e2, cellup hb e3, cellup hb e4, cellup hb g0, cellup hb g1, cellup hb g2, cellup hb g3, cellup hb g4⟩
                  have HD := Below.refl wr.heap.size wr
                  go_upto_region 6 with fail
                  replace HX := HX.ext (drew_ext _)
                  replace HD := drew_below HD 1
                  have hxM2 := ((HM x hxm).ext HX.below)
                  have hyM2 := ((HM2 y hym).ext HX.below)
                  go_region_held3 (fun W' => W'.cell? ⟨w.heap.size, 4, none⟩ = some (.slice (some ad) ks.length c) ∧ W'.cell? ⟨w.heap.size + 1, 4, none⟩ = some (.slice (some ad2) ks.length c2) ∧ W'.cell? (ad.add (j * 5)) = some (.int .i64 x.k) ∧ W'.cell? ⟨(ad.add (j * 5)).block, (ad.add (j * 5)).off + 1, none⟩ = some (.int .i64 x.f) ∧ W'.cell? ⟨(ad.add (j * 5)).block, (ad.add (j * 5)).off + 2, none⟩ = some (.int .i64 x.o) ∧ W'.cell? ⟨(ad.add (j * 5)).block, (ad.add (j * 5)).off + 3, none⟩ = some (.int .i64 x.v) ∧ W'.cell? ⟨(ad.add (j * 5)).block, (ad.add (j * 5)).off + 4, none⟩ = some (.slice x.A x.ks.length x.c) ∧ W'.cell? (ad2.add (j * 5)) = some (.int .i64 y.k) ∧ W'.cell? ⟨(ad2.add (j * 5)).block, (ad2.add (j * 5)).off + 1, none⟩ = some (.int .i64 y.f) ∧ W'.cell? ⟨(ad2.add (j * 5)).block, (ad2.add (j * 5)).off + 2, none⟩ = some (.int .i64 y.o) ∧ W'.cell? ⟨(ad2.add (j * 5)).block, (ad2.add (j * 5)).off + 3, none⟩ = some (.int .i64 y.v) ∧ W'.cell? ⟨(ad2.add (j * 5)).block, (ad2.add (j * 5)).off + 4, none⟩ = some (.slice y.A y.ks.length y.c))
                    (exact held HX HD)
                    (first
                      | (go_at_call 38; refine (ih x hxm y true _ hxM2 hyM2 yp).mono ?_; rintro e wz ⟨rfl, hb⟩; replace HX := HX.ext hb; replace HD := bel_trans HD hb; replace hxM2 := hxM2.ext hb; replace hyM2 := hyM2.ext hb; clear hb))
                  all_goals (
                    go_wp2
                    go_roundg (ks.length - (j + 1))
                    case measure => omega
                    case rel => exact ⟨j + 1, by omega, by go_num, hp2, HX⟩)
                · have yp := no hxy
                  obtain rfl : b = false := hb.f fun h => hxy (by
                    rw [TT.tm_mk, TT.tm_mk] at h
                    injection h with _ _ _ _ h
                    have h2 : (ks.map TT.tm)[j]? = (ks2.map TT.tm)[j]? := by rw [h]
                    rw [List.getElem?_map, List.getElem?_map, hx.out, hy.out] at h2
                    exact Option.some.inj h2)
                  clear hxy hb
                  have hc04 := HX.cell 0 4 rfl rfl
                  try simp only [List.getElem_toArray, List.getElem_cons_zero, List.getElem_cons_succ] at hc04
                  have held : ∀ {W' : World}, BL w W' [(w.heap.size, #[.int .i64 k, .int .i64 f, .int .i64 o, .int .i64 v, .slice (some ad) ks.length c], 55), (w.heap.size + 1, #[.int .i64 k, .int .i64 f, .int .i64 o, .int .i64 v, .slice (some ad2) ks.length c2], 55)] → Below wr.heap.size wr W' → W'.cell? ⟨w.heap.size, 4, none⟩ = some (.slice (some ad) ks.length c) ∧ W'.cell? ⟨w.heap.size + 1, 4, none⟩ = some (.slice (some ad2) ks.length c2) ∧ W'.cell? (ad.add (j * 5)) = some (.int .i64 x.k) ∧ W'.cell? ⟨(ad.add (j * 5)).block, (ad.add (j * 5)).off + 1, none⟩ = some (.int .i64 x.f) ∧ W'.cell? ⟨(ad.add (j * 5)).block, (ad.add (j * 5)).off + 2, none⟩ = some (.int .i64 x.o) ∧ W'.cell? ⟨(ad.add (j * 5)).block, (ad.add (j * 5)).off + 3, none⟩ = some (.int .i64 x.v) ∧ W'.cell? ⟨(ad.add (j * 5)).block, (ad.add (j * 5)).off + 4, none⟩ = some (.slice x.A x.ks.length x.c) ∧ W'.cell? (ad2.add (j * 5)) = some (.int .i64 y.k) ∧ W'.cell? ⟨(ad2.add (j * 5)).block, (ad2.add (j * 5)).off + 1, none⟩ = some (.int .i64 y.f) ∧ W'.cell? ⟨(ad2.add (j * 5)).block, (ad2.add (j * 5)).off + 2, none⟩ = some (.int .i64 y.o) ∧ W'.cell? ⟨(ad2.add (j * 5)).block, (ad2.add (j * 5)).off + 3, none⟩ = some (.int .i64 y.v) ∧ W'.cell? ⟨(ad2.add (j * 5)).block, (ad2.add (j * 5)).off + 4, none⟩ = some (.slice y.A y.ks.length y.c) := fun h hb => ⟨h.cell 0 4 rfl rfl, h.cell 1 4 rfl rfl, cellup hb e0, cellup hb e1, cellup hb e2, cellup hb e3, cellup hb e4, cellup hb g0, cellup hb g1, cellup hb g2, cellup hb g3, cellup hb g4⟩
                  have HD := Below.refl wr.heap.size wr
                  go_upto_region 6 with fail
                  replace HX := HX.ext (drew_ext _)
                  replace HD := drew_below HD 1
                  have hxM2 := ((HM x hxm).ext HX.below)
                  have hyM2 := ((HM2 y hym).ext HX.below)
                  go_region_held3 (fun W' => W'.cell? ⟨w.heap.size, 4, none⟩ = some (.slice (some ad) ks.length c) ∧ W'.cell? ⟨w.heap.size + 1, 4, none⟩ = some (.slice (some ad2) ks.length c2) ∧ W'.cell? (ad.add (j * 5)) = some (.int .i64 x.k) ∧ W'.cell? ⟨(ad.add (j * 5)).block, (ad.add (j * 5)).off + 1, none⟩ = some (.int .i64 x.f) ∧ W'.cell? ⟨(ad.add (j * 5)).block, (ad.add (j * 5)).off + 2, none⟩ = some (.int .i64 x.o) ∧ W'.cell? ⟨(ad.add (j * 5)).block, (ad.add (j * 5)).off + 3, none⟩ = some (.int .i64 x.v) ∧ W'.cell? ⟨(ad.add (j * 5)).block, (ad.add (j * 5)).off + 4, none⟩ = some (.slice x.A x.ks.length x.c) ∧ W'.cell? (ad2.add (j * 5)) = some (.int .i64 y.k) ∧ W'.cell? ⟨(ad2.add (j * 5)).block, (ad2.add (j * 5)).off + 1, none⟩ = some (.int .i64 y.f) ∧ W'.cell? ⟨(ad2.add (j * 5)).block, (ad2.add (j * 5)).off + 2, none⟩ = some (.int .i64 y.o) ∧ W'.cell? ⟨(ad2.add (j * 5)).block, (ad2.add (j * 5)).off + 3, none⟩ = some (.int .i64 y.v) ∧ W'.cell? ⟨(ad2.add (j * 5)).block, (ad2.add (j * 5)).off + 4, none⟩ = some (.slice y.A y.ks.length y.c))
                    (exact held HX HD)
                    (first
                      | (go_at_call 38; refine (ih x hxm y false _ hxM2 hyM2 yp).mono ?_; rintro e wz ⟨rfl, hb⟩; replace HX := HX.ext hb; replace HD := bel_trans HD hb; replace hxM2 := hxM2.ext hb; replace hyM2 := hyM2.ext hb; clear hb))
                  all_goals (
                    go_wp2
                    go_ret
                    exact ⟨rfl, HX.below⟩)
              · obtain rfl : j = ks.length := by omega
                obtain rfl : b = true := hb.t (by
                  have h := hp.out
                  rw [TT.pre_all, hn2.out, TT.pre_all] at h
                  rw [TT.tm_mk, TT.tm_mk, h])
                clear hb
                have hc04 := HX.cell 0 4 rfl rfl
                try simp only [List.getElem_toArray, List.getElem_cons_zero, List.getElem_cons_succ] at hc04
                go_wp2
                go_ret
                exact ⟨rfl, HX.below⟩
          · obtain rfl : b = false := hb.f fun h => hn (by rw [TT.tm_mk, TT.tm_mk] at h; injection h with _ _ _ _ h; have := congrArg List.length h; rwa [List.length_map, List.length_map] at this)
            have qn : ((ks.length : Int) != (ks2.length : Int)) = true := bne_iff_ne.2 (by omega)
            clear hn hb
            go_enter Tryz.func38, Tryz.ntmps38
            go_upto_region 1 with fail
            generalize (w.alloc (.cells #[.int .i64 k, .int .i64 f, .int .i64 o, .int .i64 v, .slice A ks.length c] 55)).alloc (.cells #[.int .i64 k, .int .i64 f, .int .i64 o, .int .i64 v, .slice A2 ks2.length c2] 55) = W0 at *
            have hc00 := HX.cell 0 0 rfl rfl
            have hc01 := HX.cell 0 1 rfl rfl
            have hc02 := HX.cell 0 2 rfl rfl
            have hc03 := HX.cell 0 3 rfl rfl
            have hc04 := HX.cell 0 4 rfl rfl
            try simp only [List.getElem_toArray, List.getElem_cons_zero, List.getElem_cons_succ] at hc00 hc01 hc02 hc03 hc04
            have hc10 := HX.cell 1 0 rfl rfl
            have hc11 := HX.cell 1 1 rfl rfl
            have hc12 := HX.cell 1 2 rfl rfl
            have hc13 := HX.cell 1 3 rfl rfl
            have hc14 := HX.cell 1 4 rfl rfl
            try simp only [List.getElem_toArray, List.getElem_cons_zero, List.getElem_cons_succ] at hc10 hc11 hc12 hc13 hc14
            go_wp2
            go_ret
            exact ⟨rfl, HX.below⟩
        · obtain rfl : b = false := hb.f fun h => hv (by rw [TT.tm_mk, TT.tm_mk] at h; injection h)
          have qv : (v != v2) = true := bne_iff_ne.2 hv
          clear hv hb
          go_enter Tryz.func38, Tryz.ntmps38
          go_upto_region 1 with fail
          generalize (w.alloc (.cells #[.int .i64 k, .int .i64 f, .int .i64 o, .int .i64 v, .slice A ks.length c] 55)).alloc (.cells #[.int .i64 k, .int .i64 f, .int .i64 o, .int .i64 v2, .slice A2 ks2.length c2] 55) = W0 at *
          have hc00 := HX.cell 0 0 rfl rfl
          have hc01 := HX.cell 0 1 rfl rfl
          have hc02 := HX.cell 0 2 rfl rfl
          have hc03 := HX.cell 0 3 rfl rfl
          have hc04 := HX.cell 0 4 rfl rfl
          try simp only [List.getElem_toArray, List.getElem_cons_zero, List.getElem_cons_succ] at hc00 hc01 hc02 hc03 hc04
          have hc10 := HX.cell 1 0 rfl rfl
          have hc11 := HX.cell 1 1 rfl rfl
          have hc12 := HX.cell 1 2 rfl rfl
          have hc13 := HX.cell 1 3 rfl rfl
          have hc14 := HX.cell 1 4 rfl rfl
          try simp only [List.getElem_toArray, List.getElem_cons_zero, List.getElem_cons_succ] at hc10 hc11 hc12 hc13 hc14
          go_wp2
          go_ret
          exact ⟨rfl, HX.below⟩
      · obtain rfl : b = false := hb.f fun h => ho (by rw [TT.tm_mk, TT.tm_mk] at h; injection h)
        have qo : (o != o2) = true := bne_iff_ne.2 ho
        clear ho hb
        go_enter Tryz.func38, Tryz.ntmps38
        go_upto_region 1 with fail
        generalize (w.alloc (.cells #[.int .i64 k, .int .i64 f, .int .i64 o, .int .i64 v, .slice A ks.length c] 55)).alloc (.cells #[.int .i64 k, .int .i64 f, .int .i64 o2, .int .i64 v2, .slice A2 ks2.length c2] 55) = W0 at *
        have hc00 := HX.cell 0 0 rfl rfl
        have hc01 := HX.cell 0 1 rfl rfl
        have hc02 := HX.cell 0 2 rfl rfl
        have hc03 := HX.cell 0 3 rfl rfl
        have hc04 := HX.cell 0 4 rfl rfl
        try simp only [List.getElem_toArray, List.getElem_cons_zero, List.getElem_cons_succ] at hc00 hc01 hc02 hc03 hc04
        have hc10 := HX.cell 1 0 rfl rfl
        have hc11 := HX.cell 1 1 rfl rfl
        have hc12 := HX.cell 1 2 rfl rfl
        have hc13 := HX.cell 1 3 rfl rfl
        have hc14 := HX.cell 1 4 rfl rfl
        try simp only [List.getElem_toArray, List.getElem_cons_zero, List.getElem_cons_succ] at hc10 hc11 hc12 hc13 hc14
        go_wp2
        go_ret
        exact ⟨rfl, HX.below⟩
    · obtain rfl : b = false := hb.f fun h => hf (by rw [TT.tm_mk, TT.tm_mk] at h; injection h)
      have qf : (f != f2) = true := bne_iff_ne.2 hf
      clear hf hb
      go_enter Tryz.func38, Tryz.ntmps38
      go_upto_region 1 with fail
      generalize (w.alloc (.cells #[.int .i64 k, .int .i64 f, .int .i64 o, .int .i64 v, .slice A ks.length c] 55)).alloc (.cells #[.int .i64 k, .int .i64 f2, .int .i64 o2, .int .i64 v2, .slice A2 ks2.length c2] 55) = W0 at *
      have hc00 := HX.cell 0 0 rfl rfl
      have hc01 := HX.cell 0 1 rfl rfl
      have hc02 := HX.cell 0 2 rfl rfl
      have hc03 := HX.cell 0 3 rfl rfl
      have hc04 := HX.cell 0 4 rfl rfl
      try simp only [List.getElem_toArray, List.getElem_cons_zero, List.getElem_cons_succ] at hc00 hc01 hc02 hc03 hc04
      have hc10 := HX.cell 1 0 rfl rfl
      have hc11 := HX.cell 1 1 rfl rfl
      have hc12 := HX.cell 1 2 rfl rfl
      have hc13 := HX.cell 1 3 rfl rfl
      have hc14 := HX.cell 1 4 rfl rfl
      try simp only [List.getElem_toArray, List.getElem_cons_zero, List.getElem_cons_succ] at hc10 hc11 hc12 hc13 hc14
      go_wp2
      go_ret
      exact ⟨rfl, HX.below⟩
  · obtain rfl : b = false := hb.f fun h => hk (by rw [TT.tm_mk, TT.tm_mk] at h; injection h)
    have qk : (k != k2) = true := bne_iff_ne.2 hk
    clear hk hb
    go_enter Tryz.func38, Tryz.ntmps38
    go_upto_region 1 with fail
    generalize (w.alloc (.cells #[.int .i64 k, .int .i64 f, .int .i64 o, .int .i64 v, .slice A ks.length c] 55)).alloc (.cells #[.int .i64 k2, .int .i64 f2, .int .i64 o2, .int .i64 v2, .slice A2 ks2.length c2] 55) = W0 at *
    have hc00 := HX.cell 0 0 rfl rfl
    have hc01 := HX.cell 0 1 rfl rfl
    have hc02 := HX.cell 0 2 rfl rfl
    have hc03 := HX.cell 0 3 rfl rfl
    have hc04 := HX.cell 0 4 rfl rfl
    try simp only [List.getElem_toArray, List.getElem_cons_zero, List.getElem_cons_succ] at hc00 hc01 hc02 hc03 hc04
    have hc10 := HX.cell 1 0 rfl rfl
    have hc11 := HX.cell 1 1 rfl rfl
    have hc12 := HX.cell 1 2 rfl rfl
    have hc13 := HX.cell 1 3 rfl rfl
    have hc14 := HX.cell 1 4 rfl rfl
    try simp only [List.getElem_toArray, List.getElem_cons_zero, List.getElem_cons_succ] at hc10 hc11 hc12 hc13 hc14
    go_wp2
    go_ret
    exact ⟨rfl, HX.below⟩
end Go.Proofs.YtolkijelldlmeaaGreatDoor

namespace Go.Proofs.YtolkijelldlmeaaGreatDoor
open Go.RowKit Go.Proofs Go

namespace Tm
/-- size and depth; 1000 and more: something is wrong -/
def Meas (t : Tm) (b : Nat) (n d : Int) : Prop := ((wf t ∧ size t ≤ b) ∧ n = (size t : Nat) ∧ d = (depth t : Nat)) ∨ (¬ (wf t ∧ size t ≤ b) ∧ 1000 ≤ n ∧ n ≤ 1000 + (b : Int) ∧ 0 ≤ d ∧ d ≤ 1000 + (b : Int))
theorem depthL_append (a b : List Tm) : depthL (a ++ b) = max (depthL a) (depthL b) := by
  induction a with
  | nil => simp [depthL]
  | cons t a ih => rw [List.cons_append, depthL, depthL, ih]; omega
theorem depth_size : ∀ t : Tm, depth t ≤ size t := by
  refine ind fun k f o v ks ih => ?_
  rw [depth, size]
  have : depthL ks ≤ sizeL ks := depthL_le.2 fun t ht => Nat.le_trans (ih t ht) (sizeL_mem ht)
  omega
theorem depthL_size (ks : List Tm) : depthL ks ≤ sizeL ks := depthL_le.2 fun t ht => Nat.le_trans (depth_size t) (sizeL_mem ht)
end Tm
theorem bin_any {n lo hi : Int} {b : Bool} (w : World) (hb : Tells b (lo ≤ n ∧ n ≤ hi)) : Calls Tryz.prog 80 #[.int .i64 n, .int .i64 lo, .int .i64 hi] w fun e w' => e = .returned (.bool b) ∧ w' = w := by
  by_cases h1 : lo ≤ n
  · have d1 : decide (lo ≤ n) = true := decide_eq_true h1
    by_cases h2 : n ≤ hi
    · have d2 : decide (n ≤ hi) = true := decide_eq_true h2
      obtain rfl : b = true := hb.t ⟨h1, h2⟩
      go_enter Tryz.func80, Tryz.ntmps80
      go_wp2
      go_ret
      exact ⟨rfl, rfl⟩
    · have d2 : decide (n ≤ hi) = false := decide_eq_false h2
      obtain rfl : b = false := hb.f fun h => h2 h.2
      go_enter Tryz.func80, Tryz.ntmps80
      go_wp2
      go_ret
      exact ⟨rfl, rfl⟩
  · have d1 : decide (lo ≤ n) = false := decide_eq_false h1
    obtain rfl : b = false := hb.f fun h => h1 h.1
    go_enter Tryz.func80, Tryz.ntmps80
    go_wp2
    go_ret
    exact ⟨rfl, rfl⟩
/-- the loop's state: all is well so far, or something is wrong -/
def MSt (ks : List TT) (k : Int) (b : Nat) (X : Tm) (ls : Bool) (j : Nat) (s d : Int) : Prop := (s ≤ (b : Int) ∧ (∀ y ∈ ks.take j, y.tm.wf) ∧ (ls = true → ∀ y ∈ ks.take j, y.tm.kind ≠ k) ∧ s = 1 + (Tm.sizeL (TT.pre ks j) : Nat) ∧ d = (Tm.depthL (TT.pre ks j) : Nat)) ∨ (1000 ≤ s ∧ s ≤ 1000 + (b : Int) ∧ 0 ≤ d ∧ d < 1000 + (b : Int) ∧ ¬ (X.wf ∧ X.size ≤ b))
def RetMs (w : World) (t : Tm) (b : Nat) (e : Ending) (w' : World) : Prop := ∃ n d : Int, e = .returned (.tuple #[.int .i64 n, .int .i64 d]) ∧ Hid (Tm.Meas t b n d) ∧ Below w.heap.size w w'
set_option maxHeartbeats 16000000 in
set_option maxRecDepth 100000 in
theorem rmeasure_any : ∀ (t : TT) (bi : Int) (b : Nat) (w : World), Hid (bi = (b : Int)) → b ≤ 500 → t.Mem w →
    Calls Tryz.prog 97 #[t.val, .int .i64 bi] w (RetMs w t.tm b) := by
  refine fun t => TT.ind (P := fun t => ∀ (bi : Int) (b : Nat) (w : World), Hid (bi = (b : Int)) → b ≤ 500 → t.Mem w → Calls Tryz.prog 97 #[t.val, .int .i64 bi] w (RetMs w t.tm b)) (fun t ih0 bi b w hbi hb HM0 => ?_) t
  obtain ⟨k, f, o, v, A, c, ks⟩ := t
  obtain ⟨HK0, hl, HM⟩ := HM0.kids
  clear HM0
  have ih : ∀ x ∈ ks, ∀ (bi : Int) (b : Nat) (w : World), Hid (bi = (b : Int)) → b ≤ 500 → x.Mem w → Calls Tryz.prog 97 #[x.val, .int .i64 bi] w (RetMs w x.tm b) := ih0
  clear ih0
  show Calls _ _ #[.agg #[.int .i64 k, .int .i64 f, .int .i64 o, .int .i64 v, .slice A ks.length c], .int .i64 bi] w _
  obtain ⟨X, hX⟩ : ∃ X, Hid ((TT.mk k f o v A c ks).tm = X) := ⟨_, Lib.hid rfl⟩
  rw [hX.out]
  have hXk := Lib.hid (hX.out.symm.trans (TT.tm_mk k f o v A c ks))
  have HX := BL.one w #[.int .i64 k, .int .i64 f, .int .i64 o, .int .i64 v, .slice A ks.length c] 55
  go_enter Tryz.func97, Tryz.ntmps97
  go_upto_region 1 with fail
  generalize w.alloc (.cells #[.int .i64 k, .int .i64 f, .int .i64 o, .int .i64 v, .slice A ks.length c] 55) = W0 at *
  by_cases hb0 : b = 0
  · subst hb0
    obtain rfl : bi = 0 := hbi.out
    have hM := Lib.hid (show Tm.Meas X 0 1000 1000 from .inr ⟨fun h => by have := Tm.size_pos X; omega, by omega, by omega, by omega, by omega⟩)
    go_wp2
    go_ret2
    exact ⟨1000, 1000, rfl, hM, HX.below⟩
  · have hb1 : 1 ≤ bi := by rw [hbi.out]; omega
    have hbI : bi ≤ 500 := by rw [hbi.out]; omega
    have hd0 : decide (bi ≤ 0) = false := decide_eq_false (by omega)
    obtain ⟨lf, hlf⟩ := bool_of (fun _ : Unit => k = 1 ∧ (1 ≤ f ∧ f ≤ 7) ∧ (1 ≤ o ∧ o ≤ 6) ∧ (0 ≤ v ∧ v ≤ 999999) ∧ ks.length = 0)
    replace hlf := hlf ()
    generalize lf () = lf at hlf
    obtain ⟨ls, hls⟩ := bool_of (fun _ : Unit => (k = 2 ∨ k = 3) ∧ 2 ≤ ks.length)
    replace hls := hls ()
    generalize ls () = ls at hls
    obtain ⟨bd, hbd⟩ := bool_of (fun _ : Unit => ¬ ((ls = true ∨ (k = 4 ∧ ks.length = 1)) ∧ f = 0 ∧ o = 0 ∧ v = 0))
    replace hbd := hbd ()
    generalize bd () = bd at hbd
    have HLF := Lib.hid hlf
    have HLS := Lib.hid hls
    have HBD := Lib.hid hbd
    go_upto_region 3 with fail
    have hc00 := HX.cell 0 0 rfl rfl
    have hc01 := HX.cell 0 1 rfl rfl
    have hc02 := HX.cell 0 2 rfl rfl
    have hc03 := HX.cell 0 3 rfl rfl
    have hc04 := HX.cell 0 4 rfl rfl
    try simp only [List.getElem_toArray, List.getElem_cons_zero, List.getElem_cons_succ] at hc00 hc01 hc02 hc03 hc04
    go_cut [6] (fun x wx => x = .bool lf ∧ wx = W0)
    case first =>
      clear hls hbd hX hXk HX HLF HLS HBD
      by_cases hk1 : k = 1
      · subst hk1
        by_cases g0 : 1 ≤ f ∧ f ≤ 7
        · by_cases g1 : 1 ≤ o ∧ o ≤ 6
          · by_cases g2 : 0 ≤ v ∧ v ≤ 999999
            · by_cases hn : ks.length = 0
              · obtain rfl : lf = true := hlf.t ⟨rfl, g0, g1, g2, hn⟩
                have qn : ((ks.length : Int) == 0) = true := by rw [hn]; rfl
                have a0 := yes g0; have a1 := yes g1; have a2 := yes g2
                clear hn hlf
                go_wp2_with fail
                refine (bin_any W0 a0).mono ?_
                rintro e w0 ⟨rfl, hw0⟩
                obtain rfl : W0 = w0 := hw0.symm
                go_wp2_with fail
                refine (bin_any W0 a1).mono ?_
                rintro e w1 ⟨rfl, hw1⟩
                obtain rfl : W0 = w1 := hw1.symm
                go_wp2_with fail
                refine (bin_any W0 a2).mono ?_
                rintro e w2 ⟨rfl, hw2⟩
                obtain rfl : W0 = w2 := hw2.symm
                go_wp2_with fail
                go_meet
                case rel => exact ⟨rfl, rfl⟩
              · obtain rfl : lf = false := hlf.f fun h => hn h.2.2.2.2
                have qn : ((ks.length : Int) == 0) = false := beq_eq_false_iff_ne.2 (by omega)
                have a0 := yes g0; have a1 := yes g1; have a2 := yes g2
                clear hn hlf
                go_wp2_with fail
                refine (bin_any W0 a0).mono ?_
                rintro e w0 ⟨rfl, hw0⟩
                obtain rfl : W0 = w0 := hw0.symm
                go_wp2_with fail
                refine (bin_any W0 a1).mono ?_
                rintro e w1 ⟨rfl, hw1⟩
                obtain rfl : W0 = w1 := hw1.symm
                go_wp2_with fail
                refine (bin_any W0 a2).mono ?_
                rintro e w2 ⟨rfl, hw2⟩
                obtain rfl : W0 = w2 := hw2.symm
                go_wp2_with fail
                go_meet
                case rel => exact ⟨rfl, rfl⟩
            · obtain rfl : lf = false := hlf.f fun h => g2 h.2.2.2.1
              have a0 := yes g0; have a1 := yes g1; have a2 := no g2
              clear hlf
              go_wp2_with fail
              refine (bin_any W0 a0).mono ?_
              rintro e w0 ⟨rfl, hw0⟩
              obtain rfl : W0 = w0 := hw0.symm
              go_wp2_with fail
              refine (bin_any W0 a1).mono ?_
              rintro e w1 ⟨rfl, hw1⟩
              obtain rfl : W0 = w1 := hw1.symm
              go_wp2_with fail
              refine (bin_any W0 a2).mono ?_
              rintro e w2 ⟨rfl, hw2⟩
              obtain rfl : W0 = w2 := hw2.symm
              go_wp2_with fail
              go_meet
              case rel => exact ⟨rfl, rfl⟩
          · obtain rfl : lf = false := hlf.f fun h => g1 h.2.2.1
            have a0 := yes g0; have a1 := no g1
            clear hlf
            go_wp2_with fail
            refine (bin_any W0 a0).mono ?_
            rintro e w0 ⟨rfl, hw0⟩
            obtain rfl : W0 = w0 := hw0.symm
            go_wp2_with fail
            refine (bin_any W0 a1).mono ?_
            rintro e w1 ⟨rfl, hw1⟩
            obtain rfl : W0 = w1 := hw1.symm
            go_wp2_with fail
            go_meet
            case rel => exact ⟨rfl, rfl⟩
        · obtain rfl : lf = false := hlf.f fun h => g0 h.2.1
          have a0 := no g0
          clear hlf
          go_wp2_with fail
          refine (bin_any W0 a0).mono ?_
          rintro e w0 ⟨rfl, hw0⟩
          obtain rfl : W0 = w0 := hw0.symm
          go_wp2_with fail
          go_meet
          case rel => exact ⟨rfl, rfl⟩
      · have q1 : (k == 1) = false := beq_eq_false_iff_ne.2 hk1
        obtain rfl : lf = false := hlf.f fun h => hk1 h.1
        clear hk1 hlf
        go_wp2_with fail
        go_meet
        case rel => exact ⟨rfl, rfl⟩
    case rest =>
      obtain ⟨rfl, hwc⟩ := hcut
      obtain rfl := hwc.symm
      clear hc00 hc01 hc02 hc03 hc04 hlf
      cases lf with
      | true =>
        have hM := Lib.hid (show Tm.Meas X b 1 1 by
          obtain ⟨rfl, ⟨h1, h2⟩, ⟨h3, h4⟩, ⟨h5, h6⟩, h7⟩ := HLF.out.1 rfl
          obtain rfl : ks = [] := List.eq_nil_of_length_eq_zero h7
          rw [hXk.out]
          refine .inl ⟨⟨?_, ?_⟩, ?_, ?_⟩
          · rw [List.map_nil, Tm.wf]; exact ⟨.inl ⟨rfl, h1, h2, h3, h4, h5, h6, rfl⟩, trivial⟩
          · rw [List.map_nil, Tm.size, Tm.sizeL]; omega
          · rw [List.map_nil, Tm.size, Tm.sizeL]; rfl
          · rw [List.map_nil, Tm.depth, Tm.depthL]; rfl)
        go_wp2
        go_ret2
        exact ⟨1, 1, rfl, hM, HX.below⟩
      | false =>
        go_upto_region 6 with fail
        have hc00 := HX.cell 0 0 rfl rfl
        have hc01 := HX.cell 0 1 rfl rfl
        have hc02 := HX.cell 0 2 rfl rfl
        have hc03 := HX.cell 0 3 rfl rfl
        have hc04 := HX.cell 0 4 rfl rfl
        try simp only [List.getElem_toArray, List.getElem_cons_zero, List.getElem_cons_succ] at hc00 hc01 hc02 hc03 hc04
        go_cut [7] (fun x wx => x = .bool ls ∧ wx = W0)
        case first =>
          clear hX hXk HX HLF HLS HBD
          by_cases h2 : k = 2
          · subst h2
            by_cases hn : 2 ≤ ks.length
            · obtain rfl : ls = true := hls.t ⟨by omega, hn⟩
              have qn : decide ((2 : Int) ≤ (ks.length : Int)) = true := decide_eq_true (by omega)
              clear hn hls hbd
              go_wp2_with fail
              go_meet
              case rel => exact ⟨rfl, rfl⟩
            · obtain rfl : ls = false := hls.f fun h => hn h.2
              have qn : decide ((2 : Int) ≤ (ks.length : Int)) = false := decide_eq_false (by omega)
              clear hn hls hbd
              go_wp2_with fail
              go_meet
              case rel => exact ⟨rfl, rfl⟩
          · have q2 : (k == 2) = false := beq_eq_false_iff_ne.2 h2
            by_cases h3 : k = 3
            · subst h3
              by_cases hn : 2 ≤ ks.length
              · obtain rfl : ls = true := hls.t ⟨by omega, hn⟩
                have qn : decide ((2 : Int) ≤ (ks.length : Int)) = true := decide_eq_true (by omega)
                clear hn hls hbd
                go_wp2_with fail
                go_meet
                case rel => exact ⟨rfl, rfl⟩
              · obtain rfl : ls = false := hls.f fun h => hn h.2
                have qn : decide ((2 : Int) ≤ (ks.length : Int)) = false := decide_eq_false (by omega)
                clear hn hls hbd
                go_wp2_with fail
                go_meet
                case rel => exact ⟨rfl, rfl⟩
            · have q3 : (k == 3) = false := beq_eq_false_iff_ne.2 h3
              obtain rfl : ls = false := hls.f fun h => by omega
              clear h2 h3 hls hbd
              go_wp2_with fail
              go_meet
              case rel => exact ⟨rfl, rfl⟩
        case rest =>
          obtain ⟨rfl, hwc⟩ := hcut
          obtain rfl := hwc.symm
          go_upto_region 7 with fail
          go_cut [81] (fun x wx => x = .bool bd ∧ wx = W0)
          case first =>
            clear hX hXk HX HLF HLS HBD
            cases ls with
            | true =>
              by_cases hf : f = 0
              · subst hf
                by_cases ho : o = 0
                · subst ho
                  by_cases hv : v = 0
                  · subst hv
                    obtain rfl : bd = false := hbd.f fun h => h ⟨.inl rfl, rfl, rfl, rfl⟩
                    clear hbd hls
                    go_wp2_with fail
                    go_meet
                    case rel => exact ⟨rfl, rfl⟩
                  · obtain rfl : bd = true := hbd.t fun h => hv h.2.2.2
                    have qv : (v != 0) = true := bne_iff_ne.2 hv
                    clear hv hbd hls
                    go_wp2_with fail
                    go_meet
                    case rel => exact ⟨rfl, rfl⟩
                · obtain rfl : bd = true := hbd.t fun h => ho h.2.2.1
                  have qo : (o != 0) = true := bne_iff_ne.2 ho
                  clear ho hbd hls
                  go_wp2_with fail
                  go_meet
                  case rel => exact ⟨rfl, rfl⟩
              · obtain rfl : bd = true := hbd.t fun h => hf h.2.1
                have qf : (f != 0) = true := bne_iff_ne.2 hf
                clear hf hbd hls
                go_wp2_with fail
                go_meet
                case rel => exact ⟨rfl, rfl⟩
            | false =>
              by_cases h4 : k = 4
              · subst h4
                by_cases hn : ks.length = 1
                · have qn : ((ks.length : Int) != 1) = false := by rw [hn]; rfl
                  replace hn := Lib.hid hn
                  by_cases hf : f = 0
                  · subst hf
                    by_cases ho : o = 0
                    · subst ho
                      by_cases hv : v = 0
                      · subst hv
                        obtain rfl : bd = false := hbd.f fun h => h ⟨.inr ⟨rfl, hn.out⟩, rfl, rfl, rfl⟩
                        clear hbd hls
                        go_wp2_with fail
                        go_meet
                        case rel => exact ⟨rfl, rfl⟩
                      · obtain rfl : bd = true := hbd.t fun h => hv h.2.2.2
                        have qv : (v != 0) = true := bne_iff_ne.2 hv
                        clear hv hbd hls
                        go_wp2_with fail
                        go_meet
                        case rel => exact ⟨rfl, rfl⟩
                    · obtain rfl : bd = true := hbd.t fun h => ho h.2.2.1
                      have qo : (o != 0) = true := bne_iff_ne.2 ho
                      clear ho hbd hls
                      go_wp2_with fail
                      go_meet
                      case rel => exact ⟨rfl, rfl⟩
                  · obtain rfl : bd = true := hbd.t fun h => hf h.2.1
                    have qf : (f != 0) = true := bne_iff_ne.2 hf
                    clear hf hbd hls
                    go_wp2_with fail
                    go_meet
                    case rel => exact ⟨rfl, rfl⟩
                · have qn : ((ks.length : Int) != 1) = true := bne_iff_ne.2 (by omega)
                  obtain rfl : bd = true := hbd.t fun h => by
                    rcases h.1 with h | h
                    · cases h
                    · exact hn h.2
                  clear hn hbd hls
                  go_wp2_with fail
                  go_meet
                  case rel => exact ⟨rfl, rfl⟩
              · have q4 : (k != 4) = true := bne_iff_ne.2 h4
                obtain rfl : bd = true := hbd.t fun h => by
                  rcases h.1 with h | h
                  · cases h
                  · exact h4 h.1
                clear h4 hbd hls
                go_wp2_with fail
                go_meet
                case rel => exact ⟨rfl, rfl⟩
          case rest =>
            obtain ⟨rfl, hwc⟩ := hcut
            obtain rfl := hwc.symm
            clear hc00 hc01 hc02 hc03 hc04 hls hbd
            have hshape := Lib.hid (show bd = true → ¬ X.wf by
              intro h hw
              rw [hXk.out, Tm.wf] at hw
              refine HBD.out.1 h ?_
              rcases hw.1 with ⟨h1, h2, h3, h4, h5, h6, h7, h8⟩ | ⟨h1, h2, h3, h4, h5, _⟩ | ⟨h1, h2, h3, h4, h5⟩
              · rw [List.map_eq_nil_iff] at h8
                have := HLF.out.2 ⟨h1, ⟨h2, h3⟩, ⟨h4, h5⟩, ⟨h6, h7⟩, by rw [h8]; rfl⟩
                cases this
              · rw [List.length_map] at h5
                exact ⟨.inl (HLS.out.2 ⟨h1, h5⟩), h2, h3, h4⟩
              · rw [List.length_map] at h5
                exact ⟨.inr ⟨h1, h5⟩, h2, h3, h4⟩)
            cases bd with
            | true =>
              have hM := Lib.hid (show Tm.Meas X b 1000 1000 from .inr ⟨fun h => hshape.out rfl h.1, by omega, by omega, by omega, by omega⟩)
              go_wp2
              go_ret2
              exact ⟨1000, 1000, rfl, hM, HX.below⟩
            | false =>
              have hhead := Lib.hid (show (ls = true ∨ (k = 4 ∧ ks.length = 1)) ∧ f = 0 ∧ o = 0 ∧ v = 0 by
                by_cases h : (ls = true ∨ (k = 4 ∧ ks.length = 1)) ∧ f = 0 ∧ o = 0 ∧ v = 0
                · exact h
                · have := HBD.out.2 h
                  cases this)
              clear HBD hshape HLF
              go_wp2
              go_loopg [8, 9, 10, 11, 12] ks.length (fun g s8 s9 i _ _ wr => ∃ (j : Nat) (s d : Int), j + g = ks.length ∧ i = .int .i64 (j : Int) ∧ s8 = .int .i64 s ∧ s9 = .int .i64 d ∧ Hid (MSt ks k b X ls j s d) ∧ (1 ≤ s ∧ s ≤ 1500 ∧ 0 ≤ d ∧ d ≤ 1500) ∧ BL w wr [(w.heap.size, #[.int .i64 k, .int .i64 f, .int .i64 o, .int .i64 v, .slice A ks.length c], 55)])
              case atStart => exact ⟨0, 1, 0, by omega, rfl, rfl, rfl, Lib.hid (.inl ⟨by omega, by simp, by simp, rfl, rfl⟩), by omega, HX⟩
              case round =>
                clear HX
                obtain ⟨j, s, d, hj, rfl, rfl, rfl, hst, hsd, HX⟩ := hrel
                have HK := HK0.ext HX.below
                have hc04 := HX.cell 0 4 rfl rfl
                try simp only [List.getElem_toArray, List.getElem_cons_zero, List.getElem_cons_succ] at hc04
                rcases hst.out with hgood0 | hbad0
                · have hgood := Lib.hid hgood0
                  clear hgood0
                  have hs1 : decide (s < 1000) = true := decide_eq_true (by have := hgood.out.1; omega)
                  clear hst
                  by_cases hjl : j < ks.length
                  · obtain ⟨x, hx⟩ : ∃ x, Hid (ks[j]? = some x) := ⟨_, Lib.hid (List.getElem?_eq_getElem hjl)⟩
                    have hxm : x ∈ ks := List.mem_of_getElem? hx.out
                    have htk := Lib.hid (show ks.take (j + 1) = ks.take j ++ [x] by
                      obtain ⟨hi, h2⟩ := List.getElem?_eq_some_iff.1 hx.out
                      rw [List.take_succ_eq_append_getElem hi, h2])
                    obtain ⟨ad, rfl, hadb, e0, e1, e2, e3, e4⟩ := HK.at_ hx.out
                    have hkind : x.tm.kind = x.k := by rw [TT.tm_eq]; rfl
                    obtain ⟨xk, hxk⟩ : ∃ z, Hid (x.k = z) := ⟨_, Lib.hid rfl⟩
                    rw [hxk.out] at hkind
                    replace hkind := Lib.hid hkind
                    by_cases hkk : ls = true ∧ xk = k
                    · obtain ⟨rfl, rfl⟩ := hkk
                      have hM := Lib.hid (show Tm.Meas X b 1000 1000 from .inr ⟨fun h => by
                        have hw := h.1
                        rw [hXk.out, Tm.wf] at hw
                        have h2 := HLS.out.1 rfl
                        rcases hw.1 with ⟨h1, _⟩ | ⟨_, _, _, _, _, h3⟩ | ⟨h1, _⟩
                        · omega
                        · exact h3 _ (List.mem_map_of_mem hxm) hkind.out
                        · omega, by omega, by omega, by omega, by omega⟩)
                      have hc00 := HX.cell 0 0 rfl rfl
                      try simp only [List.getElem_toArray, List.getElem_cons_zero] at hc00
                      rw [hxk.out] at e0
                      go_upto_region 14 with fail
                      go_quiet (fail)
                      replace HX := HX.ext (drew_below (Below.refl _ _) nq)
                      go_wp2
                      go_ret2
                      exact ⟨1000, 1000, rfl, hM, HX.below⟩
                    · obtain ⟨r, hr⟩ : ∃ r : Int, Hid (bi - s = r) := ⟨_, Lib.hid rfl⟩
                      obtain ⟨rn, hrn⟩ : ∃ rn : Nat, Hid (r = (rn : Int) ∧ (rn : Int) = (b : Int) - s) := ⟨((b : Int) - s).toNat, Lib.hid (by have := hgood.out.1; rw [← hr.out, hbi.out]; omega)⟩
                      have hrb : rn ≤ 500 := by have := hrn.out; omega
                      have hxM := (HM x hxm).ext HX.below
                      have hcall := fun W => ih x hxm r rn W (Lib.hid hrn.out.1) hrb
                      have hsb : s ≤ bi := by rw [hbi.out]; exact hgood.out.1
                      have hgo : ∀ n' d' : Int, Tm.Meas x.tm rn n' d' → Hid (MSt ks k b X ls (j + 1) (s + n') (max d d')) ∧ (1 ≤ s + n' ∧ s + n' ≤ 1500 ∧ 0 ≤ max d d' ∧ max d d' ≤ 1500) ∧ (0 ≤ n' ∧ n' ≤ 1500 ∧ 0 ≤ d' ∧ d' ≤ 1500) := fun n' d' hm => by
                        obtain ⟨q1, q2, q3, q4, q5⟩ := hgood.out
                        have q6 := hrn.out.2
                        have q7 := Tm.depthL_size (TT.pre ks j)
                        rcases hm with ⟨⟨m1, m2⟩, rfl, rfl⟩ | ⟨m1, m2, m3, m4, m5⟩
                        · have m6 := Tm.depth_size x.tm
                          refine ⟨Lib.hid (.inl ⟨by omega, ?_, ?_, ?_, ?_⟩), by omega, by omega⟩
                          · intro y hy
                            rw [htk.out] at hy
                            rcases List.mem_append.1 hy with h | h
                            · exact q2 y h
                            · rw [List.mem_singleton.1 h]; exact m1
                          · intro hls y hy
                            rw [htk.out] at hy
                            rcases List.mem_append.1 hy with h | h
                            · exact q3 hls y h
                            · rw [List.mem_singleton.1 h, hkind.out]
                              exact fun e => hkk ⟨hls, e⟩
                          · rw [TT.pre_succ hx.out, Tm.sizeL_append, Tm.sizeL, Tm.sizeL]; omega
                          · rw [TT.pre_succ hx.out, Tm.depthL_append, Tm.depthL, Tm.depthL]; omega
                        · refine ⟨Lib.hid (.inr ⟨by omega, by omega, by omega, by omega, fun h => m1 ?_⟩), by omega, by omega⟩
                          obtain ⟨h1, h2⟩ := h
                          rw [hXk.out] at h1 h2
                          rw [Tm.wf, Tm.wfL_iff] at h1
                          rw [Tm.size, TT.pre_split ks (j + 1), Tm.sizeL_append, TT.pre_succ hx.out, Tm.sizeL_append, Tm.sizeL, Tm.sizeL] at h2
                          exact ⟨h1.2 _ (List.mem_map_of_mem hxm), by omega⟩
                      have hbn : bi - s ≤ 500 := by omega
                      clear hgood
                      cases ls with
                      | false =>
                        go_upto_region 14 with fail
                        go_quiet (fail)
                        have hnb := drew_below (Below.refl wr.heap.size wr) nq
                        replace HX := HX.ext hnb
                        have hxM2 := hxM.ext hnb
                        replace hc04 := cellup hnb hc04
                        replace e0 := cellup hnb e0
                        replace e1 := cellup hnb e1
                        replace e2 := cellup hnb e2
                        replace e3 := cellup hnb e3
                        replace e4 := cellup hnb e4
                        clear hxM
                        go_wp2_with fail
                        rw [hr.out]
                        refine (hcall _ hxM2).mono ?_
                        rintro e w5 ⟨n', d', rfl, hm, hb5⟩
                        replace HX := HX.ext hb5
                        obtain ⟨k1, k2, k3⟩ := hgo n' d' hm.out
                        have hjg : j + 1 + (ks.length - (j + 1)) = ks.length := by omega
                        have hjm : ks.length - (j + 1) < gk := by omega
                        replace k2 := Lib.hid k2
                        clear hb5 hc04 hgo hcall hm hr hrn
                        go_wp2
                        go_roundg (ks.length - (j + 1))
                        case measure => exact hjm
                        case rel => exact ⟨j + 1, s + n', max d d', hjg, by simp, rfl, rfl, k1, k2.out, HX⟩
                      | true =>
                        have qk : (xk == k) = false := beq_eq_false_iff_ne.2 fun e => hkk ⟨rfl, e⟩
                        have hc00 := HX.cell 0 0 rfl rfl
                        try simp only [List.getElem_toArray, List.getElem_cons_zero] at hc00
                        rw [hxk.out] at e0
                        go_upto_region 14 with fail
                        go_quiet (fail)
                        have hnb := drew_below (Below.refl wr.heap.size wr) nq
                        clear hc00
                        rw [← hxk.out] at e0
                        replace HX := HX.ext hnb
                        have hxM2 := hxM.ext hnb
                        replace hc04 := cellup hnb hc04
                        replace e0 := cellup hnb e0
                        replace e1 := cellup hnb e1
                        replace e2 := cellup hnb e2
                        replace e3 := cellup hnb e3
                        replace e4 := cellup hnb e4
                        clear hxM
                        go_wp2_with fail
                        rw [hr.out]
                        refine (hcall _ hxM2).mono ?_
                        rintro e w5 ⟨n', d', rfl, hm, hb5⟩
                        replace HX := HX.ext hb5
                        obtain ⟨k1, k2, k3⟩ := hgo n' d' hm.out
                        have hjg : j + 1 + (ks.length - (j + 1)) = ks.length := by omega
                        have hjm : ks.length - (j + 1) < gk := by omega
                        replace k2 := Lib.hid k2
                        clear hb5 hc04 hgo hcall hm hr hrn
                        go_wp2
                        go_roundg (ks.length - (j + 1))
                        case measure => exact hjm
                        case rel => exact ⟨j + 1, s + n', max d d', hjg, by simp, rfl, rfl, k1, k2.out, HX⟩
                  · obtain rfl : j = ks.length := by omega
                    have hM := Lib.hid (show Tm.Meas X b s (d + 1) by
                      obtain ⟨q1, q2, q3, q4, q5⟩ := hgood.out
                      rw [List.take_length] at q2 q3
                      rw [TT.pre_all] at q4 q5
                      obtain ⟨h1, rfl, rfl, rfl⟩ := hhead.out
                      rw [hXk.out]
                      refine .inl ⟨⟨?_, ?_⟩, ?_, ?_⟩
                      · rw [Tm.wf, Tm.wfL_iff]
                        refine ⟨?_, fun t ht => ?_⟩
                        · rcases h1 with h1 | ⟨h1, h2⟩
                          · have h3 := HLS.out.1 h1
                            exact .inr (.inl ⟨h3.1, rfl, rfl, rfl, by rw [List.length_map]; exact h3.2, fun t ht => by
                              obtain ⟨y, hy, rfl⟩ := List.mem_map.1 ht
                              exact q3 h1 y hy⟩)
                          · exact .inr (.inr ⟨h1, rfl, rfl, rfl, by rw [List.length_map]; exact h2⟩)
                        · obtain ⟨y, hy, rfl⟩ := List.mem_map.1 ht
                          exact q2 y hy
                      · rw [Tm.size]; omega
                      · rw [Tm.size]; omega
                      · rw [Tm.depth]; omega)
                    clear hgood
                    go_wp2
                    go_ret2
                    exact ⟨s, (d + 1), rfl, hM, HX.below⟩
                · have hbad := Lib.hid hbad0
                  clear hbad0
                  have hs1 : decide (s < 1000) = false := decide_eq_false (by have := hbad.out.1; omega)
                  have hM := Lib.hid (show Tm.Meas X b s (d + 1) from .inr ⟨hbad.out.2.2.2.2, hbad.out.1, hbad.out.2.1, by have := hbad.out.2.2.1; omega, by have := hbad.out.2.2.2.1; omega⟩)
                  clear hst hbad
                  by_cases hjl : j < ks.length
                  · go_wp2
                    go_ret2
                    exact ⟨s, (d + 1), rfl, hM, HX.below⟩
                  · obtain rfl : j = ks.length := by omega
                    go_wp2
                    go_ret2
                    exact ⟨s, (d + 1), rfl, hM, HX.below⟩
set_option maxHeartbeats 1000000 in
set_option maxRecDepth 100000 in
theorem rvalid50_any {b : Bool} (t : TT) (w : World) (HM : t.Mem w) (hb : Tells b t.tm.Ok) : Calls Tryz.prog 33 #[t.val] w (RetB w b) := by
  have HX := BL.one w #[.int .i64 t.k, .int .i64 t.f, .int .i64 t.o, .int .i64 t.v, .slice t.A t.ks.length t.c] 55
  replace HM := TT.Mem.ext HX.below HM
  show Calls _ _ #[.agg #[.int .i64 t.k, .int .i64 t.f, .int .i64 t.o, .int .i64 t.v, .slice t.A t.ks.length t.c]] w _
  go_enter Tryz.func33, Tryz.ntmps33
  go_upto_region 1 with fail
  generalize w.alloc (.cells #[.int .i64 t.k, .int .i64 t.f, .int .i64 t.o, .int .i64 t.v, .slice t.A t.ks.length t.c] 55) = W0 at *
  have hc00 := HX.cell 0 0 rfl rfl
  have hc01 := HX.cell 0 1 rfl rfl
  have hc02 := HX.cell 0 2 rfl rfl
  have hc03 := HX.cell 0 3 rfl rfl
  have hc04 := HX.cell 0 4 rfl rfl
  try simp only [List.getElem_toArray, List.getElem_cons_zero, List.getElem_cons_succ] at hc00 hc01 hc02 hc03 hc04
  go_wp2_with fail
  refine (rmeasure_any t 41 41 W0 (Lib.hid rfl) (by omega) HM).mono ?_
  rintro e w5 ⟨n, d, rfl, hM, hb5⟩
  replace HX := HX.ext hb5
  clear hc00 hc01 hc02 hc03 hc04
  by_cases h1 : n ≤ 40
  · have d1 : decide (n ≤ 40) = true := decide_eq_true h1
    by_cases h2 : d ≤ 8
    · have d2 : decide (d ≤ 8) = true := decide_eq_true h2
      obtain rfl : b = true := hb.t (by
        rcases hM.out with ⟨⟨m1, m2⟩, m3, m4⟩ | ⟨_, m2, _⟩
        · exact ⟨m1, by omega, by omega⟩
        · omega)
      go_wp2
      go_ret
      exact ⟨rfl, HX.below⟩
    · have d2 : decide (d ≤ 8) = false := decide_eq_false h2
      obtain rfl : b = false := hb.f fun h => by
        rcases hM.out with ⟨⟨m1, m2⟩, m3, m4⟩ | ⟨_, m2, _⟩
        · have := h.2.2; omega
        · omega
      go_wp2
      go_ret
      exact ⟨rfl, HX.below⟩
  · have d1 : decide (n ≤ 40) = false := decide_eq_false h1
    obtain rfl : b = false := hb.f fun h => by
      rcases hM.out with ⟨⟨m1, m2⟩, m3, m4⟩ | ⟨m1, m2, _⟩
      · have := h.2.1; omega
      · exact m1 ⟨h.1, by have := h.2.1; omega⟩
    go_wp2
    go_ret
    exact ⟨rfl, HX.below⟩
end Go.Proofs.YtolkijelldlmeaaGreatDoor
