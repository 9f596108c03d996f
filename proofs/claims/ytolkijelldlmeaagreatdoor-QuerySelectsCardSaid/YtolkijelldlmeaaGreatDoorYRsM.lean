/- Rows of specimens; the reference's sorted list of specimens. -/
import Derived.Test.YtolkijelldlmeaaGreatDoorYScM
import Derived.BigQuiet
import Derived.Test.YtolkijelldlmeaaGreatDoorYJnM
import Derived.Test.YtolkijelldlmeaaGreatDoorWSort
import Derived.RegionTactic
import Derived.BigRegion
namespace Go.Proofs.YtolkijelldlmeaaGreatDoor
open Go.RowKit Go.Proofs Go

set_option maxHeartbeats 4000000 in
set_option maxRecDepth 100000 in
theorem rcount_any : ∀ (t : TT) (bi : Int) (b : Nat) (w : World), Hid (bi = (b : Int)) → b ≤ 100000 → t.Mem w →
    Calls Tryz.prog 82 #[t.val, .int .i64 bi] w (RetI w (t.tm.cnt b : Nat)) := by
  refine fun t => TT.ind (P := fun t => ∀ (bi : Int) (b : Nat) (w : World), Hid (bi = (b : Int)) → b ≤ 100000 → t.Mem w → Calls Tryz.prog 82 #[t.val, .int .i64 bi] w (RetI w (t.tm.cnt b : Nat))) (fun t ih0 bi b w hbi hb HM0 => ?_) t
  obtain ⟨k, f, o, v, A, c, ks⟩ := t
  obtain ⟨HK0, hl, HM⟩ := HM0.kids
  clear HM0
  have ih : ∀ x ∈ ks, ∀ (bi : Int) (b : Nat) (w : World), Hid (bi = (b : Int)) → b ≤ 100000 → x.Mem w → Calls Tryz.prog 82 #[x.val, .int .i64 bi] w (RetI w (x.tm.cnt b : Nat)) := ih0
  clear ih0
  show Calls _ _ #[.agg #[.int .i64 k, .int .i64 f, .int .i64 o, .int .i64 v, .slice A ks.length c], .int .i64 bi] w _
  have hres := Lib.hid (show (TT.mk k f o v A c ks).tm.cnt b = Tm.cntL (ks.map TT.tm) b by rw [TT.tm_mk, Tm.cnt_mk])
  rw [hres.out]
  have h0 := Lib.hid (show Tm.cntL (TT.pre ks 0) b = 1 from Tm.cntL_nil b)
  have HX := BL.one w #[.int .i64 k, .int .i64 f, .int .i64 o, .int .i64 v, .slice A ks.length c] 55
  go_enter Tryz.func82, Tryz.ntmps82
  go_upto_region 1 with fail
  generalize w.alloc (.cells #[.int .i64 k, .int .i64 f, .int .i64 o, .int .i64 v, .slice A ks.length c] 55) = W0 at *
  go_wp2
  go_loopg [5, 6] ks.length (fun g n i wr => ∃ (j m : Nat), j + g = ks.length ∧ i = .int .i64 (j : Int) ∧ n = .int .i64 (m : Int) ∧ Hid (Tm.cntL (TT.pre ks j) b = m) ∧ BL w wr [(w.heap.size, #[.int .i64 k, .int .i64 f, .int .i64 o, .int .i64 v, .slice A ks.length c], 55)])
  case atStart => exact ⟨0, 1, by omega, rfl, rfl, h0, HX⟩
  case round =>
    clear HX h0
    obtain ⟨j, m, hj, rfl, rfl, hm, HX⟩ := hrel
    have HK := HK0.ext HX.below
    have hmb := Lib.hid (show m ≤ b + 1 by rw [← hm.out, Tm.cntL]; omega)
    have hc04 := HX.cell 0 4 rfl rfl
    try simp only [List.getElem_toArray, List.getElem_cons_zero, List.getElem_cons_succ] at hc04
    by_cases hjl : j < ks.length
    · obtain ⟨x, hx⟩ : ∃ x, Hid (ks[j]? = some x) := ⟨_, Lib.hid (List.getElem?_eq_getElem hjl)⟩
      have hxm : x ∈ ks := List.mem_of_getElem? hx.out
      obtain ⟨ad, rfl, hadb, e0, e1, e2, e3, e4⟩ := HK.at_ hx.out
      by_cases hmB : m ≤ b
      · have hd : decide ((m : Int) ≤ bi) = true := decide_eq_true (by rw [hbi.out]; omega)
        obtain ⟨d, hd2⟩ : ∃ d : Int, Hid (bi - (m : Int) = d) := ⟨_, Lib.hid rfl⟩
        have hdn := Lib.hid (show d = ((b - m : Nat) : Int) by rw [← hd2.out, hbi.out]; omega)
        obtain ⟨s, hs⟩ : ∃ s, Hid (x.tm.cnt (b - m) = s) := ⟨_, Lib.hid rfl⟩
        have hnext := Lib.hid (show Tm.cntL (TT.pre ks (j + 1)) b = m + s by rw [TT.pre_succ hx.out, Tm.cntL_snoc (by rw [hm.out]; exact hmB), hm.out, hs.out])
        have hsb := Lib.hid (show s ≤ b - m + 1 by rw [← hs.out, Tm.cnt]; omega)
        have hmI : (m : Int) ≤ bi := by rw [hbi.out]; omega
        have hbI : bi ≤ 100000 := by rw [hbi.out]; omega
        go_wp2_with fail
        rw [hd2.out]
        refine (ih x hxm d (b - m) _ hdn (by omega) ((HM x hxm).ext HX.below)).mono ?_
        rw [hs.out]
        rintro e w5 ⟨rfl, hb5⟩
        replace HX := HX.ext hb5
        clear hb5 hc04
        have hsb2 := hsb.out
        go_wp2
        go_roundg (ks.length - (j + 1))
        case measure => omega
        case rel => exact ⟨j + 1, m + s, by omega, by go_num, by go_num, hnext, HX⟩
      · have hd : decide ((m : Int) ≤ bi) = false := decide_eq_false (by rw [hbi.out]; omega)
        have hfin := Lib.hid (show Tm.cntL (ks.map TT.tm) b = m by rw [TT.pre_split ks j, Tm.cntL_stop (by rw [hm.out]; exact hmB), hm.out])
        go_wp2
        go_ret
        exact ⟨by rw [hfin.out]; rfl, HX.below⟩
    · obtain rfl : j = ks.length := by omega
      have hfin := Lib.hid (show Tm.cntL (ks.map TT.tm) b = m by rw [← TT.pre_all, hm.out])
      go_wp2
      go_ret
      exact ⟨by rw [hfin.out]; rfl, HX.below⟩
set_option maxHeartbeats 1000000 in
set_option maxRecDepth 100000 in
theorem rfew_any {b : Bool} (t : TT) (w : World) (HM : t.Mem w) (hb : Tells b (t.tm.size ≤ 60)) : Calls Tryz.prog 22 #[t.val, .int .i64 60] w (RetB w b) := by
  have HX := BL.one w #[.int .i64 t.k, .int .i64 t.f, .int .i64 t.o, .int .i64 t.v, .slice t.A t.ks.length t.c] 55
  replace HM := TT.Mem.ext HX.below HM
  obtain ⟨s, hs⟩ : ∃ s, Hid (t.tm.cnt 60 = s) := ⟨_, Lib.hid rfl⟩
  have hd : decide ((s : Int) ≤ 60) = b := by
    rw [← Tm.cnt_le, hs.out] at hb
    cases b with
    | true => exact decide_eq_true (by have := hb.1 rfl; omega)
    | false => exact decide_eq_false (fun h => by have := hb.2 (by omega); cases this)
  have c1 := rcount_any t 60 60 _ (Lib.hid rfl) (by omega) HM
  rw [hs.out] at c1
  show Calls _ _ #[.agg #[.int .i64 t.k, .int .i64 t.f, .int .i64 t.o, .int .i64 t.v, .slice t.A t.ks.length t.c], _] w _
  go_enter Tryz.func22, Tryz.ntmps22
  go_upto_region 1 with fail
  generalize w.alloc (.cells #[.int .i64 t.k, .int .i64 t.f, .int .i64 t.o, .int .i64 t.v, .slice t.A t.ks.length t.c] 55) = W0 at *
  have hc00 := HX.cell 0 0 rfl rfl
  have hc01 := HX.cell 0 1 rfl rfl
  have hc02 := HX.cell 0 2 rfl rfl
  have hc03 := HX.cell 0 3 rfl rfl
  have hc04 := HX.cell 0 4 rfl rfl
  try simp only [List.getElem_toArray, List.getElem_cons_zero, List.getElem_cons_succ] at hc00 hc01 hc02 hc03 hc04
  go_wp2_with fail
  refine c1.mono ?_
  rintro e w5 ⟨rfl, hb5⟩
  replace HX := HX.ext hb5
  go_wp2
  go_ret
  exact ⟨by first | rfl | (rw [hd]; rfl), HX.below⟩
set_option maxHeartbeats 8000000 in
set_option maxRecDepth 100000 in
theorem rsame_any : ∀ (t u : TT) (b : Bool) (w : World), t.Mem w → u.Mem w → Tells b (t.tm = u.tm) →
    Calls Tryz.prog 38 #[t.val, u.val] w (RetB w b) := by
  refine fun t => TT.ind (P := fun t => ∀ (u : TT) (b : Bool) (w : World), t.Mem w → u.Mem w → Tells b (t.tm = u.tm) → Calls Tryz.prog 38 #[t.val, u.val] w (RetB w b)) (fun t ih0 u b w HM0 HMu hb => ?_) t
  obtain ⟨k, f, o, v, A, c, ks⟩ := t
  obtain ⟨k2, f2, o2, v2, A2, c2, ks2⟩ := u
  obtain ⟨HK0, hl, HM⟩ := HM0.kids
  obtain ⟨HK20, hl2, HM2⟩ := HMu.kids
  clear HM0 HMu
  have ih : ∀ x ∈ ks, ∀ (u : TT) (b : Bool) (w : World), x.Mem w → u.Mem w → Tells b (x.tm = u.tm) → Calls Tryz.prog 38 #[x.val, u.val] w (RetB w b) := ih0
  clear ih0
  show Calls _ _ #[.agg #[.int .i64 k, .int .i64 f, .int .i64 o, .int .i64 v, .slice A ks.length c], .agg #[.int .i64 k2, .int .i64 f2, .int .i64 o2, .int .i64 v2, .slice A2 ks2.length c2]] w _
  have HX := BL.two w #[.int .i64 k, .int .i64 f, .int .i64 o, .int .i64 v, .slice A ks.length c] #[.int .i64 k2, .int .i64 f2, .int .i64 o2, .int .i64 v2, .slice A2 ks2.length c2] 55 55
  by_cases hk : k = k2
  · subst hk
    by_cases hf : f = f2
    · subst hf
      by_cases ho : o = o2
      · subst ho
        by_cases hv : v = v2
        · subst hv
          by_cases hn : ks.length = ks2.length
          · have hn2 := Lib.hid hn
            clear hn
            rw [hn2.out.symm] at HX ⊢
            go_enter Tryz.func38, Tryz.ntmps38
            go_upto_region 1 with fail
            generalize (w.alloc (.cells #[.int .i64 k, .int .i64 f, .int .i64 o, .int .i64 v, .slice A ks.length c] 55)).alloc (.cells #[.int .i64 k, .int .i64 f, .int .i64 o, .int .i64 v, .slice A2 ks.length c2] 55) = W0 at *
            have hc00 := HX.cell 0 0 rfl rfl
            have hc01 := HX.cell 0 1 rfl rfl
            have hc02 := HX.cell 0 2 rfl rfl
            have hc03 := HX.cell 0 3 rfl rfl
            have hc04 := HX.cell 0 4 rfl rfl
            try simp only [List.getElem_toArray, List.getElem_cons_zero, List.getElem_cons_succ] at hc00 hc01 hc02 hc03 hc04
            have hc10 := HX.cell 1 0 rfl rfl
            have hc11 := HX.cell 1 1 rfl rfl
            have hc12 := HX.cell 1 2 rfl rfl
            have hc13 := HX.cell 1 3 rfl rfl
            have hc14 := HX.cell 1 4 rfl rfl
            try simp only [List.getElem_toArray, List.getElem_cons_zero, List.getElem_cons_succ] at hc10 hc11 hc12 hc13 hc14
            go_wp2
            go_loopg [5] ks.length (fun g i wr => ∃ (j : Nat), j + g = ks.length ∧ i = .int .i64 (j : Int) ∧ Hid (TT.pre ks j = TT.pre ks2 j) ∧ BL w wr [(w.heap.size, #[.int .i64 k, .int .i64 f, .int .i64 o, .int .i64 v, .slice A ks.length c], 55), (w.heap.size + 1, #[.int .i64 k, .int .i64 f, .int .i64 o, .int .i64 v, .slice A2 ks.length c2], 55)])
            case atStart => exact ⟨0, by omega, rfl, Lib.hid rfl, HX⟩
            case round =>
              clear HX hc00 hc10 hc01 hc11 hc02 hc12 hc03 hc13 hc04 hc14
              obtain ⟨j, hj, rfl, hp, HX⟩ := hrel
              have HK := HK0.ext HX.below
              have HK2 := HK20.ext HX.below
              by_cases hjl : j < ks.length
              · obtain ⟨x, hx⟩ : ∃ x, Hid (ks[j]? = some x) := ⟨_, Lib.hid (List.getElem?_eq_getElem hjl)⟩
                have hxm : x ∈ ks := List.mem_of_getElem? hx.out
                obtain ⟨y, hy⟩ : ∃ y, Hid (ks2[j]? = some y) := ⟨_, Lib.hid (List.getElem?_eq_getElem (by have := hn2.out; omega))⟩
                have hym : y ∈ ks2 := List.mem_of_getElem? hy.out
                obtain ⟨ad, rfl, hadb, e0, e1, e2, e3, e4⟩ := HK.at_ hx.out
                obtain ⟨ad2, rfl, hadb2, g0, g1, g2, g3, g4⟩ := HK2.at_ hy.out
                by_cases hxy : x.tm = y.tm
                · have yp := yes hxy
                  have hp2 := Lib.hid (show TT.pre ks (j + 1) = TT.pre ks2 (j + 1) by rw [TT.pre_succ hx.out, TT.pre_succ hy.out, hp.out, hxy])
                  clear hxy
                  have hc04 := HX.cell 0 4 rfl rfl
                  try simp only [List.getElem_toArray, List.getElem_cons_zero, List.getElem_cons_succ] at hc04
                  have held : ∀ {W' : World}, BL w W' [(w.heap.size, #[.int .i64 k, .int .i64 f, .int .i64 o, .int .i64 v, .slice (some ad) ks.length c], 55), (w.heap.size + 1, #[.int .i64 k, .int .i64 f, .int .i64 o, .int .i64 v, .slice (some ad2) ks.length c2], 55)] → Below wr.heap.size wr W' → W'.cell? ⟨w.heap.size, 4, none⟩ = some (.slice (some ad) ks.length c) ∧ W'.cell? ⟨w.heap.size + 1, 4, none⟩ = some (.slice (some ad2) ks.length c2) ∧ W'.cell? (ad.add (j * 5)) = some (.int .i64 x.k) ∧ W'.cell? ⟨(ad.add (j * 5)).block, (ad.add (j * 5)).off + 1, none⟩ = some (.int .i64 x.f) ∧ W'.cell? ⟨(ad.add (j * 5)).block, (ad.add (j * 5)).off + 2, none⟩ = some (.int .i64 x.o) ∧ W'.cell? ⟨(ad.add (j * 5)).block, (ad.add (j * 5)).off + 3, none⟩ = some (.int .i64 x.v) ∧ W'.cell? ⟨(ad.add (j * 5)).block, (ad.add (j * 5)).off + 4, none⟩ = some (.slice x.A x.ks.length x.c) ∧ W'.cell? (ad2.add (j * 5)) = some (.int .i64 y.k) ∧ W'.cell? ⟨(ad2.add (j * 5)).block, (ad2.add (j * 5)).off + 1, none⟩ = some (.int .i64 y.f) ∧ W'.cell? ⟨(ad2.add (j * 5)).block, (ad2.add (j * 5)).off + 2, none⟩ = some (.int .i64 y.o) ∧ W'.cell? ⟨(ad2.add (j * 5)).block, (ad2.add (j * 5)).off + 3, none⟩ = some (.int .i64 y.v) ∧ W'.cell? ⟨(ad2.add (j * 5)).block, (ad2.add (j * 5)).off + 4, none⟩ = some (.slice y.A y.ks.length y.c) := fun h hb => ⟨h.cell 0 4 rfl rfl, h.cell 1 4 rfl rfl, cellup hb e0, cellup hb e1, cellup hb e2, cellup hb e3, cellup hb e4, cellup hb g0, cellup hb g1, cellup hb g2, cellup hb g3, cellup hb g4⟩
                  have HD := Below.refl wr.heap.size wr
                  go_upto_region 6 with fail
                  replace HX := HX.ext (drew_ext _)
                  replace HD := drew_below HD 1
                  have hxM2 := ((HM x hxm).ext HX.below)
                  have hyM2 := ((HM2 y hym).ext HX.below)
                  go_region_held3 (fun W' => W'.cell? ⟨w.heap.size, 4, none⟩ = some (.slice (some ad) ks.length c) ∧ W'.cell? ⟨w.heap.size + 1, 4, none⟩ = some (.slice (some ad2) ks.length c2) ∧ W'.cell? (ad.add (j * 5)) = some (.int .i64 x.k) ∧ W'.cell? ⟨(ad.add (j * 5)).block, (ad.add (j * 5)).off + 1, none⟩ = some (.int .i64 x.f) ∧ W'.cell? ⟨(ad.add (j * 5)).block, (ad.add (j * 5)).off + 2, none⟩ = some (.int .i64 x.o) ∧ W'.cell? ⟨(ad.add (j * 5)).block, (ad.add (j * 5)).off + 3, none⟩ = some (.int .i64 x.v) ∧ W'.cell? ⟨(ad.add (j * 5)).block, (ad.add (j * 5)).off + 4, none⟩ = some (.slice x.A x.ks.length x.c) ∧ W'.cell? (ad2.add (j * 5)) = some (.int .i64 y.k) ∧ W'.cell? ⟨(ad2.add (j * 5)).block, (ad2.add (j * 5)).off + 1, none⟩ = some (.int .i64 y.f) ∧ W'.cell? ⟨(ad2.add (j * 5)).block, (ad2.add (j * 5)).off + 2, none⟩ = some (.int .i64 y.o) ∧ W'.cell? ⟨(ad2.add (j * 5)).block, (ad2.add (j * 5)).off + 3, none⟩ = some (.int .i64 y.v) ∧ W'.cell? ⟨(ad2.add (j * 5)).block, (ad2.add (j * 5)).off + 4, none⟩ = some (.slice y.A y.ks.length y.c))
                    (exact held HX HD)
                    (first
                      | (go_at_call 38; refine (ih x hxm y true _ hxM2 hyM2 yp).mono ?_; rintro e wz ⟨rfl, hb⟩; replace HX := HX.ext hb; replace HD := bel_trans HD hb; replace hxM2 := hxM2.ext hb; replace hyM2 := hyM2.ext hb; clear hb))
                  all_goals (
                    go_wp2
                    go_roundg (ks.length - (j + 1))
                    case measure => omega
                    case rel => exact ⟨j + 1, by omega, by go_num, hp2, HX⟩)
                · have yp := no hxy
                  obtain rfl : b = false := hb.f fun h => hxy (by
                    rw [TT.tm_mk, TT.tm_mk] at h
                    injection h with _ _ _ _ h
                    have h2 : (ks.map TT.tm)[j]? = (ks2.map TT.tm)[j]? := by rw [h]
                    rw [List.getElem?_map, List.getElem?_map, hx.out, hy.out] at h2
                    exact Option.some.inj h2)
                  clear hxy hb
                  have hc04 := HX.cell 0 4 rfl rfl
                  try simp only [List.getElem_toArray, List.getElem_cons_zero, List.getElem_cons_succ] at hc04
                  have held : ∀ {W' : World}, BL w W' [(w.heap.size, #[.int .i64 k, .int .i64 f, .int .i64 o, .int .i64 v, .slice (some ad) ks.length c], 55), (w.heap.size + 1, #[.int .i64 k, .int .i64 f, .int .i64 o, .int .i64 v, .slice (some ad2) ks.length c2], 55)] → Below wr.heap.size wr W' → W'.cell? ⟨w.heap.size, 4, none⟩ = some (.slice (some ad) ks.length c) ∧ W'.cell? ⟨w.heap.size + 1, 4, none⟩ = some (.slice (some ad2) ks.length c2) ∧ W'.cell? (ad.add (j * 5)) = some (.int .i64 x.k) ∧ W'.cell? ⟨(ad.add (j * 5)).block, (ad.add (j * 5)).off + 1, none⟩ = some (.int .i64 x.f) ∧ W'.cell? ⟨(ad.add (j * 5)).block, (ad.add (j * 5)).off + 2, none⟩ = some (.int .i64 x.o) ∧ W'.cell? ⟨(ad.add (j * 5)).block, (ad.add (j * 5)).off + 3, none⟩ = some (.int .i64 x.v) ∧ W'.cell? ⟨(ad.add (j * 5)).block, (ad.add (j * 5)).off + 4, none⟩ = some (.slice x.A x.ks.length x.c) ∧ W'.cell? (ad2.add (j * 5)) = some (.int .i64 y.k) ∧ W'.cell? ⟨(ad2.add (j * 5)).block, (ad2.add (j * 5)).off + 1, none⟩ = some (.int .i64 y.f) ∧ W'.cell? ⟨(ad2.add (j * 5)).block, (ad2.add (j * 5)).off + 2, none⟩ = some (.int .i64 y.o) ∧ W'.cell? ⟨(ad2.add (j * 5)).block, (ad2.add (j * 5)).off + 3, none⟩ = some (.int .i64 y.v) ∧ W'.cell? ⟨(ad2.add (j * 5)).block, (ad2.add (j * 5)).off + 4, none⟩ = some (.slice y.A y.ks.length y.c) := fun h hb => ⟨h.cell 0 4 rfl rfl, h.cell 1 4 rfl rfl, cellup hb e0, cellup hb e1, cellup hb e2, cellup hb e3, cellup hb e4, cellup hb g0, cellup hb g1, cellup hb g2, cellup hb g3, cellup hb g4⟩
                  have HD := Below.refl wr.heap.size wr
                  go_upto_region 6 with fail
                  replace HX := HX.ext (drew_ext _)
                  replace HD := drew_below HD 1
                  have hxM2 := ((HM x hxm).ext HX.below)
                  have hyM2 := ((HM2 y hym).ext HX.below)
                  go_region_held3 (fun W' => W'.cell? ⟨w.heap.size, 4, none⟩ = some (.slice (some ad) ks.length c) ∧ W'.cell? ⟨w.heap.size + 1, 4, none⟩ = some (.slice (some ad2) ks.length c2) ∧ W'.cell? (ad.add (j * 5)) = some (.int .i64 x.k) ∧ W'.cell? ⟨(ad.add (j * 5)).block, (ad.add (j * 5)).off + 1, none⟩ = some (.int .i64 x.f) ∧ W'.cell? ⟨(ad.add (j * 5)).block, (ad.add (j * 5)).off + 2, none⟩ = some (.int .i64 x.o) ∧ W'.cell? ⟨(ad.add (j * 5)).block, (ad.add (j * 5)).off + 3, none⟩ = some (.int .i64 x.v) ∧ W'.cell? ⟨(ad.add (j * 5)).block, (ad.add (j * 5)).off + 4, none⟩ = some (.slice x.A x.ks.length x.c) ∧ W'.cell? (ad2.add (j * 5)) = some (.int .i64 y.k) ∧ W'.cell? ⟨(ad2.add (j * 5)).block, (ad2.add (j * 5)).off + 1, none⟩ = some (.int .i64 y.f) ∧ W'.cell? ⟨(ad2.add (j * 5)).block, (ad2.add (j * 5)).off + 2, none⟩ = some (.int .i64 y.o) ∧ W'.cell? ⟨(ad2.add (j * 5)).block, (ad2.add (j * 5)).off + 3, none⟩ = some (.int .i64 y.v) ∧ W'.cell? ⟨(ad2.add (j * 5)).block, (ad2.add (j * 5)).off + 4, none⟩ = some (.slice y.A y.ks.length y.c))
                    (exact held HX HD)
                    (first
                      | (go_at_call 38; refine (ih x hxm y false _ hxM2 hyM2 yp).mono ?_; rintro e wz ⟨rfl, hb⟩; replace HX := HX.ext hb; replace HD := bel_trans HD hb; replace hxM2 := hxM2.ext hb; replace hyM2 := hyM2.ext hb; clear hb))
                  all_goals (
                    go_wp2
                    go_ret
                    exact ⟨rfl, HX.below⟩)
              · obtain rfl : j = ks.length := by omega
                obtain rfl : b = true := hb.t (by
                  have h := hp.out
                  rw [TT.pre_all, hn2.out, TT.pre_all] at h
                  rw [TT.tm_mk, TT.tm_mk, h])
                clear hb
                have hc04 := HX.cell 0 4 rfl rfl
                try simp only [List.getElem_toArray, List.getElem_cons_zero, List.getElem_cons_succ] at hc04
                go_wp2
                go_ret
                exact ⟨rfl, HX.below⟩
          · obtain rfl : b = false := hb.f fun h => hn (by rw [TT.tm_mk, TT.tm_mk] at h; injection h with _ _ _ _ h; have := congrArg List.length h; rwa [List.length_map, List.length_map] at this)
            have qn : ((ks.length : Int) != (ks2.length : Int)) = true := bne_iff_ne.2 (by omega)
            clear hn hb
            go_enter Tryz.func38, Tryz.ntmps38
            go_upto_region 1 with fail
            generalize (w.alloc (.cells #[.int .i64 k, .int .i64 f, .int .i64 o, .int .i64 v, .slice A ks.length c] 55)).alloc (.cells #[.int .i64 k, .int .i64 f, .int .i64 o, .int .i64 v, .slice A2 ks2.length c2] 55) = W0 at *
            have hc00 := HX.cell 0 0 rfl rfl
            have hc01 := HX.cell 0 1 rfl rfl
            have hc02 := HX.cell 0 2 rfl rfl
            have hc03 := HX.cell 0 3 rfl rfl
            have hc04 := HX.cell 0 4 rfl rfl
            try simp only [List.getElem_toArray, List.getElem_cons_zero, List.getElem_cons_succ] at hc00 hc01 hc02 hc03 hc04
            have hc10 := HX.cell 1 0 rfl rfl
            have hc11 := HX.cell 1 1 rfl rfl
            have hc12 := HX.cell 1 2 rfl rfl
            have hc13 := HX.cell 1 3 rfl rfl
            have hc14 := HX.cell 1 4 rfl rfl
            try simp only [List.getElem_toArray, List.getElem_cons_zero, List.getElem_cons_succ] at hc10 hc11 hc12 hc13 hc14
            go_wp2
            go_ret
            exact ⟨rfl, HX.below⟩
        · obtain rfl : b = false := hb.f fun h => hv (by rw [TT.tm_mk, TT.tm_mk] at h; injection h)
          have qv : (v != v2) = true := bne_iff_ne.2 hv
          clear hv hb
          go_enter Tryz.func38, Tryz.ntmps38
          go_upto_region 1 with fail
          generalize (w.alloc (.cells #[.int .i64 k, .int .i64 f, .int .i64 o, .int .i64 v, .slice A ks.length c] 55)).alloc (.cells #[.int .i64 k, .int .i64 f, .int .i64 o, .int .i64 v2, .slice A2 ks2.length c2] 55) = W0 at *
          have hc00 := HX.cell 0 0 rfl rfl
          have hc01 := HX.cell 0 1 rfl rfl
          have hc02 := HX.cell 0 2 rfl rfl
          have hc03 := HX.cell 0 3 rfl rfl
          have hc04 := HX.cell 0 4 rfl rfl
          try simp only [List.getElem_toArray, List.getElem_cons_zero, List.getElem_cons_succ] at hc00 hc01 hc02 hc03 hc04
          have hc10 := HX.cell 1 0 rfl rfl
          have hc11 := HX.cell 1 1 rfl rfl
          have hc12 := HX.cell 1 2 rfl rfl
          have hc13 := HX.cell 1 3 rfl rfl
          have hc14 := HX.cell 1 4 rfl rfl
          try simp only [List.getElem_toArray, List.getElem_cons_zero, List.getElem_cons_succ] at hc10 hc11 hc12 hc13 hc14
          go_wp2
          go_ret
          exact ⟨rfl, HX.below⟩
      · obtain rfl : b = false := hb.f fun h => ho (by rw [TT.tm_mk, TT.tm_mk] at h; injection h)
        have qo : (o != o2) = true := bne_iff_ne.2 ho
        clear ho hb
        go_enter Tryz.func38, Tryz.ntmps38
        go_upto_region 1 with fail
        generalize (w.alloc (.cells #[.int .i64 k, .int .i64 f, .int .i64 o, .int .i64 v, .slice A ks.length c] 55)).alloc (.cells #[.int .i64 k, .int .i64 f, .int .i64 o2, .int .i64 v2, .slice A2 ks2.length c2] 55) = W0 at *
        have hc00 := HX.cell 0 0 rfl rfl
        have hc01 := HX.cell 0 1 rfl rfl
        have hc02 := HX.cell 0 2 rfl rfl
        have hc03 := HX.cell 0 3 rfl rfl
        have hc04 := HX.cell 0 4 rfl rfl
        try simp only [List.getElem_toArray, List.getElem_cons_zero, List.getElem_cons_succ] at hc00 hc01 hc02 hc03 hc04
        have hc10 := HX.cell 1 0 rfl rfl
        have hc11 := HX.cell 1 1 rfl rfl
        have hc12 := HX.cell 1 2 rfl rfl
        have hc13 := HX.cell 1 3 rfl rfl
        have hc14 := HX.cell 1 4 rfl rfl
        try simp only [List.getElem_toArray, List.getElem_cons_zero, List.getElem_cons_succ] at hc10 hc11 hc12 hc13 hc14
        go_wp2
        go_ret
        exact ⟨rfl, HX.below⟩
    · obtain rfl : b = false := hb.f fun h => hf (by rw [TT.tm_mk, TT.tm_mk] at h; injection h)
      have qf : (f != f2) = true := bne_iff_ne.2 hf
      clear hf hb
      go_enter Tryz.func38, Tryz.ntmps38
      go_upto_region 1 with fail
      generalize (w.alloc (.cells #[.int .i64 k, .int .i64 f, .int .i64 o, .int .i64 v, .slice A ks.length c] 55)).alloc (.cells #[.int .i64 k, .int .i64 f2, .int .i64 o2, .int .i64 v2, .slice A2 ks2.length c2] 55) = W0 at *
      have hc00 := HX.cell 0 0 rfl rfl
      have hc01 := HX.cell 0 1 rfl rfl
      have hc02 := HX.cell 0 2 rfl rfl
      have hc03 := HX.cell 0 3 rfl rfl
      have hc04 := HX.cell 0 4 rfl rfl
      try simp only [List.getElem_toArray, List.getElem_cons_zero, List.getElem_cons_succ] at hc00 hc01 hc02 hc03 hc04
      have hc10 := HX.cell 1 0 rfl rfl
      have hc11 := HX.cell 1 1 rfl rfl
      have hc12 := HX.cell 1 2 rfl rfl
      have hc13 := HX.cell 1 3 rfl rfl
      have hc14 := HX.cell 1 4 rfl rfl
      try simp only [List.getElem_toArray, List.getElem_cons_zero, List.getElem_cons_succ] at hc10 hc11 hc12 hc13 hc14
      go_wp2
      go_ret
      exact ⟨rfl, HX.below⟩
  · obtain rfl : b = false := hb.f fun h => hk (by rw [TT.tm_mk, TT.tm_mk] at h; injection h)
    have qk : (k != k2) = true := bne_iff_ne.2 hk
    clear hk hb
    go_enter Tryz.func38, Tryz.ntmps38
    go_upto_region 1 with fail
    generalize (w.alloc (.cells #[.int .i64 k, .int .i64 f, .int .i64 o, .int .i64 v, .slice A ks.length c] 55)).alloc (.cells #[.int .i64 k2, .int .i64 f2, .int .i64 o2, .int .i64 v2, .slice A2 ks2.length c2] 55) = W0 at *
    have hc00 := HX.cell 0 0 rfl rfl
    have hc01 := HX.cell 0 1 rfl rfl
    have hc02 := HX.cell 0 2 rfl rfl
    have hc03 := HX.cell 0 3 rfl rfl
    have hc04 := HX.cell 0 4 rfl rfl
    try simp only [List.getElem_toArray, List.getElem_cons_zero, List.getElem_cons_succ] at hc00 hc01 hc02 hc03 hc04
    have hc10 := HX.cell 1 0 rfl rfl
    have hc11 := HX.cell 1 1 rfl rfl
    have hc12 := HX.cell 1 2 rfl rfl
    have hc13 := HX.cell 1 3 rfl rfl
    have hc14 := HX.cell 1 4 rfl rfl
    try simp only [List.getElem_toArray, List.getElem_cons_zero, List.getElem_cons_succ] at hc10 hc11 hc12 hc13 hc14
    go_wp2
    go_ret
    exact ⟨rfl, HX.below⟩
end Go.Proofs.YtolkijelldlmeaaGreatDoor

namespace Go.Proofs.YtolkijelldlmeaaGreatDoor
open Go.RowKit Go.Proofs Go

namespace Tm
/-- size and depth; 1000 and more: something is wrong -/
def Meas (t : Tm) (b : Nat) (n d : Int) : Prop := ((wf t ∧ size t ≤ b) ∧ n = (size t : Nat) ∧ d = (depth t : Nat)) ∨ (¬ (wf t ∧ size t ≤ b) ∧ 1000 ≤ n ∧ n ≤ 1000 + (b : Int) ∧ 0 ≤ d ∧ d ≤ 1000 + (b : Int))
theorem depthL_append (a b : List Tm) : depthL (a ++ b) = max (depthL a) (depthL b) := by
  induction a with
  | nil => simp [depthL]
  | cons t a ih => rw [List.cons_append, depthL, depthL, ih]; omega
theorem depth_size : ∀ t : Tm, depth t ≤ size t := by
  refine ind fun k f o v ks ih => ?_
  rw [depth, size]
  have : depthL ks ≤ sizeL ks := depthL_le.2 fun t ht => Nat.le_trans (ih t ht) (sizeL_mem ht)
  omega
theorem depthL_size (ks : List Tm) : depthL ks ≤ sizeL ks := depthL_le.2 fun t ht => Nat.le_trans (depth_size t) (sizeL_mem ht)
end Tm
theorem bin_any {n lo hi : Int} {b : Bool} (w : World) (hb : Tells b (lo ≤ n ∧ n ≤ hi)) : Calls Tryz.prog 80 #[.int .i64 n, .int .i64 lo, .int .i64 hi] w fun e w' => e = .returned (.bool b) ∧ w' = w := by
  by_cases h1 : lo ≤ n
  · have d1 : decide (lo ≤ n) = true := decide_eq_true h1
    by_cases h2 : n ≤ hi
    · have d2 : decide (n ≤ hi) = true := decide_eq_true h2
      obtain rfl : b = true := hb.t ⟨h1, h2⟩
      go_enter Tryz.func80, Tryz.ntmps80
      go_wp2
      go_ret
      exact ⟨rfl, rfl⟩
    · have d2 : decide (n ≤ hi) = false := decide_eq_false h2
      obtain rfl : b = false := hb.f fun h => h2 h.2
      go_enter Tryz.func80, Tryz.ntmps80
      go_wp2
      go_ret
      exact ⟨rfl, rfl⟩
  · have d1 : decide (lo ≤ n) = false := decide_eq_false h1
    obtain rfl : b = false := hb.f fun h => h1 h.1
    go_enter Tryz.func80, Tryz.ntmps80
    go_wp2
    go_ret
    exact ⟨rfl, rfl⟩
/-- the loop's state: all is well so far, or something is wrong -/
def MSt (ks : List TT) (k : Int) (b : Nat) (X : Tm) (ls : Bool) (j : Nat) (s d : Int) : Prop := (s ≤ (b : Int) ∧ (∀ y ∈ ks.take j, y.tm.wf) ∧ (ls = true → ∀ y ∈ ks.take j, y.tm.kind ≠ k) ∧ s = 1 + (Tm.sizeL (TT.pre ks j) : Nat) ∧ d = (Tm.depthL (TT.pre ks j) : Nat)) ∨ (1000 ≤ s ∧ s ≤ 1000 + (b : Int) ∧ 0 ≤ d ∧ d < 1000 + (b : Int) ∧ ¬ (X.wf ∧ X.size ≤ b))
def RetMs (w : World) (t : Tm) (b : Nat) (e : Ending) (w' : World) : Prop := ∃ n d : Int, e = .returned (.tuple #[.int .i64 n, .int .i64 d]) ∧ Hid (Tm.Meas t b n d) ∧ Below w.heap.size w w'
set_option maxHeartbeats 16000000 in
set_option maxRecDepth 100000 in
theorem rmeasure_any : ∀ (t : TT) (bi : Int) (b : Nat) (w : World), Hid (bi = (b : Int)) → b ≤ 500 → t.Mem w →
    Calls Tryz.prog 97 #[t.val, .int .i64 bi] w (RetMs w t.tm b) := by
  refine fun t => TT.ind (P := fun t => ∀ (bi : Int) (b : Nat) (w : World), Hid (bi = (b : Int)) → b ≤ 500 → t.Mem w → Calls Tryz.prog 97 #[t.val, .int .i64 bi] w (RetMs w t.tm b)) (fun t ih0 bi b w hbi hb HM0 => ?_) t
  obtain ⟨k, f, o, v, A, c, ks⟩ := t
  obtain ⟨HK0, hl, HM⟩ := HM0.kids
  clear HM0
  have ih : ∀ x ∈ ks, ∀ (bi : Int) (b : Nat) (w : World), Hid (bi = (b : Int)) → b ≤ 500 → x.Mem w → Calls Tryz.prog 97 #[x.val, .int .i64 bi] w (RetMs w x.tm b) := ih0
  clear ih0
  show Calls _ _ #[.agg #[.int .i64 k, .int .i64 f, .int .i64 o, .int .i64 v, .slice A ks.length c], .int .i64 bi] w _
  obtain ⟨X, hX⟩ : ∃ X, Hid ((TT.mk k f o v A c ks).tm = X) := ⟨_, Lib.hid rfl⟩
  rw [hX.out]
  have hXk := Lib.hid (hX.out.symm.trans (TT.tm_mk k f o v A c ks))
  have HX := BL.one w #[.int .i64 k, .int .i64 f, .int .i64 o, .int .i64 v, .slice A ks.length c] 55
  go_enter Tryz.func97, Tryz.ntmps97
  go_upto_region 1 with fail
  generalize w.alloc (.cells #[.int .i64 k, .int .i64 f, .int .i64 o, .int .i64 v, .slice A ks.length c] 55) = W0 at *
  by_cases hb0 : b = 0
  · subst hb0
    obtain rfl : bi = 0 := hbi.out
    have hM := Lib.hid (show Tm.Meas X 0 1000 1000 from .inr ⟨fun h => by have := Tm.size_pos X; omega, by omega, by omega, by omega, by omega⟩)
    go_wp2
    go_ret2
    exact ⟨1000, 1000, rfl, hM, HX.below⟩
  · have hb1 : 1 ≤ bi := by rw [hbi.out]; omega
    have hbI : bi ≤ 500 := by rw [hbi.out]; omega
    have hd0 : decide (bi ≤ 0) = false := decide_eq_false (by omega)
    obtain ⟨lf, hlf⟩ := bool_of (fun _ : Unit => k = 1 ∧ (1 ≤ f ∧ f ≤ 7) ∧ (1 ≤ o ∧ o ≤ 6) ∧ (0 ≤ v ∧ v ≤ 999999) ∧ ks.length = 0)
    replace hlf := hlf ()
    generalize lf () = lf at hlf
    obtain ⟨ls, hls⟩ := bool_of (fun _ : Unit => (k = 2 ∨ k = 3) ∧ 2 ≤ ks.length)
    replace hls := hls ()
    generalize ls () = ls at hls
    obtain ⟨bd, hbd⟩ := bool_of (fun _ : Unit => ¬ ((ls = true ∨ (k = 4 ∧ ks.length = 1)) ∧ f = 0 ∧ o = 0 ∧ v = 0))
    replace hbd := hbd ()
    generalize bd () = bd at hbd
    have HLF := Lib.hid hlf
    have HLS := Lib.hid hls
    have HBD := Lib.hid hbd
    go_upto_region 3 with fail
    have hc00 := HX.cell 0 0 rfl rfl
    have hc01 := HX.cell 0 1 rfl rfl
    have hc02 := HX.cell 0 2 rfl rfl
    have hc03 := HX.cell 0 3 rfl rfl
    have hc04 := HX.cell 0 4 rfl rfl
    try simp only [List.getElem_toArray, List.getElem_cons_zero, List.getElem_cons_succ] at hc00 hc01 hc02 hc03 hc04
    go_cut [6] (fun x wx => x = .bool lf ∧ wx = W0)
    case first =>
      clear hls hbd hX hXk HX HLF HLS HBD
      by_cases hk1 : k = 1
      · subst hk1
        by_cases g0 : 1 ≤ f ∧ f ≤ 7
        · by_cases g1 : 1 ≤ o ∧ o ≤ 6
          · by_cases g2 : 0 ≤ v ∧ v ≤ 999999
            · by_cases hn : ks.length = 0
              · obtain rfl : lf = true := hlf.t ⟨rfl, g0, g1, g2, hn⟩
                have qn : ((ks.length : Int) == 0) = true := by rw [hn]; rfl
                have a0 := yes g0; have a1 := yes g1; have a2 := yes g2
                clear hn hlf
                go_wp2_with fail
                refine (bin_any W0 a0).mono ?_
                rintro e w0 ⟨rfl, hw0⟩
                obtain rfl : W0 = w0 := hw0.symm
                go_wp2_with fail
                refine (bin_any W0 a1).mono ?_
                rintro e w1 ⟨rfl, hw1⟩
                obtain rfl : W0 = w1 := hw1.symm
                go_wp2_with fail
                refine (bin_any W0 a2).mono ?_
                rintro e w2 ⟨rfl, hw2⟩
                obtain rfl : W0 = w2 := hw2.symm
                go_wp2_with fail
                go_meet
                case rel => exact ⟨rfl, rfl⟩
              · obtain rfl : lf = false := hlf.f fun h => hn h.2.2.2.2
                have qn : ((ks.length : Int) == 0) = false := beq_eq_false_iff_ne.2 (by omega)
                have a0 := yes g0; have a1 := yes g1; have a2 := yes g2
                clear hn hlf
                go_wp2_with fail
                refine (bin_any W0 a0).mono ?_
                rintro e w0 ⟨rfl, hw0⟩
                obtain rfl : W0 = w0 := hw0.symm
                go_wp2_with fail
                refine (bin_any W0 a1).mono ?_
                rintro e w1 ⟨rfl, hw1⟩
                obtain rfl : W0 = w1 := hw1.symm
                go_wp2_with fail
                refine (bin_any W0 a2).mono ?_
                rintro e w2 ⟨rfl, hw2⟩
                obtain rfl : W0 = w2 := hw2.symm
                go_wp2_with fail
                go_meet
                case rel => exact ⟨rfl, rfl⟩
            · obtain rfl : lf = false := hlf.f fun h => g2 h.2.2.2.1
              have a0 := yes g0; have a1 := yes g1; have a2 := no g2
              clear hlf
              go_wp2_with fail
              refine (bin_any W0 a0).mono ?_
              rintro e w0 ⟨rfl, hw0⟩
              obtain rfl : W0 = w0 := hw0.symm
              go_wp2_with fail
              refine (bin_any W0 a1).mono ?_
              rintro e w1 ⟨rfl, hw1⟩
              obtain rfl : W0 = w1 := hw1.symm
              go_wp2_with fail
              refine (bin_any W0 a2).mono ?_
              rintro e w2 ⟨rfl, hw2⟩
              obtain rfl : W0 = w2 := hw2.symm
              go_wp2_with fail
              go_meet
              case rel => exact ⟨rfl, rfl⟩
          · obtain rfl : lf = false := hlf.f fun h => g1 h.2.2.1
            have a0 := yes g0; have a1 := no g1
            clear hlf
            go_wp2_with fail
            refine (bin_any W0 a0).mono ?_
            rintro e w0 ⟨rfl, hw0⟩
            obtain rfl : W0 = w0 := hw0.symm
            go_wp2_with fail
            refine (bin_any W0 a1).mono ?_
            rintro e w1 ⟨rfl, hw1⟩
            obtain rfl : W0 = w1 := hw1.symm
            go_wp2_with fail
            go_meet
            case rel => exact ⟨rfl, rfl⟩
        · obtain rfl : lf = false := hlf.f fun h => g0 h.2.1
          have a0 := no g0
          clear hlf
          go_wp2_with fail
          refine (bin_any W0 a0).mono ?_
          rintro e w0 ⟨rfl, hw0⟩
          obtain rfl : W0 = w0 := hw0.symm
          go_wp2_with fail
          go_meet
          case rel => exact ⟨rfl, rfl⟩
      · have q1 : (k == 1) = false := beq_eq_false_iff_ne.2 hk1
        obtain rfl : lf = false := hlf.f fun h => hk1 h.1
        clear hk1 hlf
        go_wp2_with fail
        go_meet
        case rel => exact ⟨rfl, rfl⟩
    case rest =>
      obtain ⟨rfl, hwc⟩ := hcut
      obtain rfl := hwc.symm
      clear hc00 hc01 hc02 hc03 hc04 hlf
      cases lf with
      | true =>
        have hM := Lib.hid (show Tm.Meas X b 1 1 by
          obtain ⟨rfl, ⟨h1, h2⟩, ⟨h3, h4⟩, ⟨h5, h6⟩, h7⟩ := HLF.out.1 rfl
          obtain rfl : ks = [] := List.eq_nil_of_length_eq_zero h7
          rw [hXk.out]
          refine .inl ⟨⟨?_, ?_⟩, ?_, ?_⟩
          · rw [List.map_nil, Tm.wf]; exact ⟨.inl ⟨rfl, h1, h2, h3, h4, h5, h6, rfl⟩, trivial⟩
          · rw [List.map_nil, Tm.size, Tm.sizeL]; omega
          · rw [List.map_nil, Tm.size, Tm.sizeL]; rfl
          · rw [List.map_nil, Tm.depth, Tm.depthL]; rfl)
        go_wp2
        go_ret2
        exact ⟨1, 1, rfl, hM, HX.below⟩
      | false =>
        go_upto_region 6 with fail
        have hc00 := HX.cell 0 0 rfl rfl
        have hc01 := HX.cell 0 1 rfl rfl
        have hc02 := HX.cell 0 2 rfl rfl
        have hc03 := HX.cell 0 3 rfl rfl
        have hc04 := HX.cell 0 4 rfl rfl
        try simp only [List.getElem_toArray, List.getElem_cons_zero, List.getElem_cons_succ] at hc00 hc01 hc02 hc03 hc04
        go_cut [7] (fun x wx => x = .bool ls ∧ wx = W0)
        case first =>
          clear hX hXk HX HLF HLS HBD
          by_cases h2 : k = 2
          · subst h2
            by_cases hn : 2 ≤ ks.length
            · obtain rfl : ls = true := hls.t ⟨by omega, hn⟩
              have qn : decide ((2 : Int) ≤ (ks.length : Int)) = true := decide_eq_true (by omega)
              clear hn hls hbd
              go_wp2_with fail
              go_meet
              case rel => exact ⟨rfl, rfl⟩
            · obtain rfl : ls = false := hls.f fun h => hn h.2
              have qn : decide ((2 : Int) ≤ (ks.length : Int)) = false := decide_eq_false (by omega)
              clear hn hls hbd
              go_wp2_with fail
              go_meet
              case rel => exact ⟨rfl, rfl⟩
          · have q2 : (k == 2) = false := beq_eq_false_iff_ne.2 h2
            by_cases h3 : k = 3
            · subst h3
              by_cases hn : 2 ≤ ks.length
              · obtain rfl : ls = true := hls.t ⟨by omega, hn⟩
                have qn : decide ((2 : Int) ≤ (ks.length : Int)) = true := decide_eq_true (by omega)
                clear hn hls hbd
                go_wp2_with fail
                go_meet
                case rel => exact ⟨rfl, rfl⟩
              · obtain rfl : ls = false := hls.f fun h => hn h.2
                have qn : decide ((2 : Int) ≤ (ks.length : Int)) = false := decide_eq_false (by omega)
                clear hn hls hbd
                go_wp2_with fail
                go_meet
                case rel => exact ⟨rfl, rfl⟩
            · have q3 : (k == 3) = false := beq_eq_false_iff_ne.2 h3
              obtain rfl : ls = false := hls.f fun h => by omega
              clear h2 h3 hls hbd
              go_wp2_with fail
              go_meet
              case rel => exact ⟨rfl, rfl⟩
        case rest =>
          obtain ⟨rfl, hwc⟩ := hcut
          obtain rfl := hwc.symm
          go_upto_region 7 with fail
          go_cut [81] (fun x wx => x = .bool bd ∧ wx = W0)
          case first =>
            clear hX hXk HX HLF HLS HBD
            cases ls with
            | true =>
              by_cases hf : f = 0
              · subst hf
                by_cases ho : o = 0
                · subst ho
                  by_cases hv : v = 0
                  · subst hv
                    obtain rfl : bd = false := hbd.f fun h => h ⟨.inl rfl, rfl, rfl, rfl⟩
                    clear hbd hls
                    go_wp2_with fail
                    go_meet
                    case rel => exact ⟨rfl, rfl⟩
                  · obtain rfl : bd = true := hbd.t fun h => hv h.2.2.2
                    have qv : (v != 0) = true := bne_iff_ne.2 hv
                    clear hv hbd hls
                    go_wp2_with fail
                    go_meet
                    case rel => exact ⟨rfl, rfl⟩
                · obtain rfl : bd = true := hbd.t fun h => ho h.2.2.1
                  have qo : (o != 0) = true := bne_iff_ne.2 ho
                  clear ho hbd hls
                  go_wp2_with fail
                  go_meet
                  case rel => exact ⟨rfl, rfl⟩
              · obtain rfl : bd = true := hbd.t fun h => hf h.2.1
                have qf : (f != 0) = true := bne_iff_ne.2 hf
                clear hf hbd hls
                go_wp2_with fail
                go_meet
                case rel => exact ⟨rfl, rfl⟩
            | false =>
              by_cases h4 : k = 4
              · subst h4
                by_cases hn : ks.length = 1
                · have qn : ((ks.length : Int) != 1) = false := by rw [hn]; rfl
                  replace hn := Lib.hid hn
                  by_cases hf : f = 0
                  · subst hf
                    by_cases ho : o = 0
                    · subst ho
                      by_cases hv : v = 0
                      · subst hv
                        obtain rfl : bd = false := hbd.f fun h => h ⟨.inr ⟨rfl, hn.out⟩, rfl, rfl, rfl⟩
                        clear hbd hls
                        go_wp2_with fail
                        go_meet
                        case rel => exact ⟨rfl, rfl⟩
                      · obtain rfl : bd = true := hbd.t fun h => hv h.2.2.2
                        have qv : (v != 0) = true := bne_iff_ne.2 hv
                        clear hv hbd hls
                        go_wp2_with fail
                        go_meet
                        case rel => exact ⟨rfl, rfl⟩
                    · obtain rfl : bd = true := hbd.t fun h => ho h.2.2.1
                      have qo : (o != 0) = true := bne_iff_ne.2 ho
                      clear ho hbd hls
                      go_wp2_with fail
                      go_meet
                      case rel => exact ⟨rfl, rfl⟩
                  · obtain rfl : bd = true := hbd.t fun h => hf h.2.1
                    have qf : (f != 0) = true := bne_iff_ne.2 hf
                    clear hf hbd hls
                    go_wp2_with fail
                    go_meet
                    case rel => exact ⟨rfl, rfl⟩
                · have qn : ((ks.length : Int) != 1) = true := bne_iff_ne.2 (by omega)
                  obtain rfl : bd = true := hbd.t fun h => by
                    rcases h.1 with h | h
                    · cases h
                    · exact hn h.2
                  clear hn hbd hls
                  go_wp2_with fail
                  go_meet
                  case rel => exact ⟨rfl, rfl⟩
              · have q4 : (k != 4) = true := bne_iff_ne.2 h4
                obtain rfl : bd = true := hbd.t fun h => by
                  rcases h.1 with h | h
                  · cases h
                  · exact h4 h.1
                clear h4 hbd hls
                go_wp2_with fail
                go_meet
                case rel => exact ⟨rfl, rfl⟩
          case rest =>
            obtain ⟨rfl, hwc⟩ := hcut
            obtain rfl := hwc.symm
            clear hc00 hc01 hc02 hc03 hc04 hls hbd
            have hshape := Lib.hid (show bd = true → ¬ X.wf by
              intro h hw
              rw [hXk.out, Tm.wf] at hw
              refine HBD.out.1 h ?_
              rcases hw.1 with ⟨h1, h2, h3, h4, h5, h6, h7, h8⟩ | ⟨h1, h2, h3, h4, h5, _⟩ | ⟨h1, h2, h3, h4, h5⟩
              · rw [List.map_eq_nil_iff] at h8
                have := HLF.out.2 ⟨h1, ⟨h2, h3⟩, ⟨h4, h5⟩, ⟨h6, h7⟩, by rw [h8]; rfl⟩
                cases this
              · rw [List.length_map] at h5
                exact ⟨.inl (HLS.out.2 ⟨h1, h5⟩), h2, h3, h4⟩
              · rw [List.length_map] at h5
                exact ⟨.inr ⟨h1, h5⟩, h2, h3, h4⟩)
            cases bd with
            | true =>
              have hM := Lib.hid (show Tm.Meas X b 1000 1000 from .inr ⟨fun h => hshape.out rfl h.1, by omega, by omega, by omega, by omega⟩)
              go_wp2
              go_ret2
              exact ⟨1000, 1000, rfl, hM, HX.below⟩
            | false =>
              have hhead := Lib.hid (show (ls = true ∨ (k = 4 ∧ ks.length = 1)) ∧ f = 0 ∧ o = 0 ∧ v = 0 by
                by_cases h : (ls = true ∨ (k = 4 ∧ ks.length = 1)) ∧ f = 0 ∧ o = 0 ∧ v = 0
                · exact h
                · have := HBD.out.2 h
                  cases this)
              clear HBD hshape HLF
              go_wp2
              go_loopg [8, 9, 10, 11, 12] ks.length (fun g s8 s9 i _ _ wr => ∃ (j : Nat) (s d : Int), j + g = ks.length ∧ i = .int .i64 (j : Int) ∧ s8 = .int .i64 s ∧ s9 = .int .i64 d ∧ Hid (MSt ks k b X ls j s d) ∧ (1 ≤ s ∧ s ≤ 1500 ∧ 0 ≤ d ∧ d ≤ 1500) ∧ BL w wr [(w.heap.size, #[.int .i64 k, .int .i64 f, .int .i64 o, .int .i64 v, .slice A ks.length c], 55)])
              case atStart => exact ⟨0, 1, 0, by omega, rfl, rfl, rfl, Lib.hid (.inl ⟨by omega, by simp, by simp, rfl, rfl⟩), by omega, HX⟩
              case round =>
                clear HX
                obtain ⟨j, s, d, hj, rfl, rfl, rfl, hst, hsd, HX⟩ := hrel
                have HK := HK0.ext HX.below
                have hc04 := HX.cell 0 4 rfl rfl
                try simp only [List.getElem_toArray, List.getElem_cons_zero, List.getElem_cons_succ] at hc04
                rcases hst.out with hgood0 | hbad0
                · have hgood := Lib.hid hgood0
                  clear hgood0
                  have hs1 : decide (s < 1000) = true := decide_eq_true (by have := hgood.out.1; omega)
                  clear hst
                  by_cases hjl : j < ks.length
                  · obtain ⟨x, hx⟩ : ∃ x, Hid (ks[j]? = some x) := ⟨_, Lib.hid (List.getElem?_eq_getElem hjl)⟩
                    have hxm : x ∈ ks := List.mem_of_getElem? hx.out
                    have htk := Lib.hid (show ks.take (j + 1) = ks.take j ++ [x] by
                      obtain ⟨hi, h2⟩ := List.getElem?_eq_some_iff.1 hx.out
                      rw [List.take_succ_eq_append_getElem hi, h2])
                    obtain ⟨ad, rfl, hadb, e0, e1, e2, e3, e4⟩ := HK.at_ hx.out
                    have hkind : x.tm.kind = x.k := by rw [TT.tm_eq]; rfl
                    obtain ⟨xk, hxk⟩ : ∃ z, Hid (x.k = z) := ⟨_, Lib.hid rfl⟩
                    rw [hxk.out] at hkind
                    replace hkind := Lib.hid hkind
                    by_cases hkk : ls = true ∧ xk = k
                    · obtain ⟨rfl, rfl⟩ := hkk
                      have hM := Lib.hid (show Tm.Meas X b 1000 1000 from .inr ⟨fun h => by
                        have hw := h.1
                        rw [hXk.out, Tm.wf] at hw
                        have h2 := HLS.out.1 rfl
                        rcases hw.1 with ⟨h1, _⟩ | ⟨_, _, _, _, _, h3⟩ | ⟨h1, _⟩
                        · omega
                        · exact h3 _ (List.mem_map_of_mem hxm) hkind.out
                        · omega, by omega, by omega, by omega, by omega⟩)
                      have hc00 := HX.cell 0 0 rfl rfl
                      try simp only [List.getElem_toArray, List.getElem_cons_zero] at hc00
                      rw [hxk.out] at e0
                      go_upto_region 14 with fail
                      go_quiet (fail)
                      replace HX := HX.ext (drew_below (Below.refl _ _) nq)
                      go_wp2
                      go_ret2
                      exact ⟨1000, 1000, rfl, hM, HX.below⟩
                    · obtain ⟨r, hr⟩ : ∃ r : Int, Hid (bi - s = r) := ⟨_, Lib.hid rfl⟩
                      obtain ⟨rn, hrn⟩ : ∃ rn : Nat, Hid (r = (rn : Int) ∧ (rn : Int) = (b : Int) - s) := ⟨((b : Int) - s).toNat, Lib.hid (by have := hgood.out.1; rw [← hr.out, hbi.out]; omega)⟩
                      have hrb : rn ≤ 500 := by have := hrn.out; omega
                      have hxM := (HM x hxm).ext HX.below
                      have hcall := fun W => ih x hxm r rn W (Lib.hid hrn.out.1) hrb
                      have hsb : s ≤ bi := by rw [hbi.out]; exact hgood.out.1
                      have hgo : ∀ n' d' : Int, Tm.Meas x.tm rn n' d' → Hid (MSt ks k b X ls (j + 1) (s + n') (max d d')) ∧ (1 ≤ s + n' ∧ s + n' ≤ 1500 ∧ 0 ≤ max d d' ∧ max d d' ≤ 1500) ∧ (0 ≤ n' ∧ n' ≤ 1500 ∧ 0 ≤ d' ∧ d' ≤ 1500) := fun n' d' hm => by
                        obtain ⟨q1, q2, q3, q4, q5⟩ := hgood.out
                        have q6 := hrn.out.2
                        have q7 := Tm.depthL_size (TT.pre ks j)
                        rcases hm with ⟨⟨m1, m2⟩, rfl, rfl⟩ | ⟨m1, m2, m3, m4, m5⟩
                        · have m6 := Tm.depth_size x.tm
                          refine ⟨Lib.hid (.inl ⟨by omega, ?_, ?_, ?_, ?_⟩), by omega, by omega⟩
                          · intro y hy
                            rw [htk.out] at hy
                            rcases List.mem_append.1 hy with h | h
                            · exact q2 y h
                            · rw [List.mem_singleton.1 h]; exact m1
                          · intro hls y hy
                            rw [htk.out] at hy
                            rcases List.mem_append.1 hy with h | h
                            · exact q3 hls y h
                            · rw [List.mem_singleton.1 h, hkind.out]
                              exact fun e => hkk ⟨hls, e⟩
                          · rw [TT.pre_succ hx.out, Tm.sizeL_append, Tm.sizeL, Tm.sizeL]; omega
                          · rw [TT.pre_succ hx.out, Tm.depthL_append, Tm.depthL, Tm.depthL]; omega
                        · refine ⟨Lib.hid (.inr ⟨by omega, by omega, by omega, by omega, fun h => m1 ?_⟩), by omega, by omega⟩
                          obtain ⟨h1, h2⟩ := h
                          rw [hXk.out] at h1 h2
                          rw [Tm.wf, Tm.wfL_iff] at h1
                          rw [Tm.size, TT.pre_split ks (j + 1), Tm.sizeL_append, TT.pre_succ hx.out, Tm.sizeL_append, Tm.sizeL, Tm.sizeL] at h2
                          exact ⟨h1.2 _ (List.mem_map_of_mem hxm), by omega⟩
                      have hbn : bi - s ≤ 500 := by omega
                      clear hgood
                      cases ls with
                      | false =>
                        go_upto_region 14 with fail
                        go_quiet (fail)
                        have hnb := drew_below (Below.refl wr.heap.size wr) nq
                        replace HX := HX.ext hnb
                        have hxM2 := hxM.ext hnb
                        replace hc04 := cellup hnb hc04
                        replace e0 := cellup hnb e0
                        replace e1 := cellup hnb e1
                        replace e2 := cellup hnb e2
                        replace e3 := cellup hnb e3
                        replace e4 := cellup hnb e4
                        clear hxM
                        go_wp2_with fail
                        rw [hr.out]
                        refine (hcall _ hxM2).mono ?_
                        rintro e w5 ⟨n', d', rfl, hm, hb5⟩
                        replace HX := HX.ext hb5
                        obtain ⟨k1, k2, k3⟩ := hgo n' d' hm.out
                        have hjg : j + 1 + (ks.length - (j + 1)) = ks.length := by omega
                        have hjm : ks.length - (j + 1) < gk := by omega
                        replace k2 := Lib.hid k2
                        clear hb5 hc04 hgo hcall hm hr hrn
                        go_wp2
                        go_roundg (ks.length - (j + 1))
                        case measure => exact hjm
                        case rel => exact ⟨j + 1, s + n', max d d', hjg, by simp, rfl, rfl, k1, k2.out, HX⟩
                      | true =>
                        have qk : (xk == k) = false := beq_eq_false_iff_ne.2 fun e => hkk ⟨rfl, e⟩
                        have hc00 := HX.cell 0 0 rfl rfl
                        try simp only [List.getElem_toArray, List.getElem_cons_zero] at hc00
                        rw [hxk.out] at e0
                        go_upto_region 14 with fail
                        go_quiet (fail)
                        have hnb := drew_below (Below.refl wr.heap.size wr) nq
                        clear hc00
                        rw [← hxk.out] at e0
                        replace HX := HX.ext hnb
                        have hxM2 := hxM.ext hnb
                        replace hc04 := cellup hnb hc04
                        replace e0 := cellup hnb e0
                        replace e1 := cellup hnb e1
                        replace e2 := cellup hnb e2
                        replace e3 := cellup hnb e3
                        replace e4 := cellup hnb e4
                        clear hxM
                        go_wp2_with fail
                        rw [hr.out]
                        refine (hcall _ hxM2).mono ?_
                        rintro e w5 ⟨n', d', rfl, hm, hb5⟩
                        replace HX := HX.ext hb5
                        obtain ⟨k1, k2, k3⟩ := hgo n' d' hm.out
                        have hjg : j + 1 + (ks.length - (j + 1)) = ks.length := by omega
                        have hjm : ks.length - (j + 1) < gk := by omega
                        replace k2 := Lib.hid k2
                        clear hb5 hc04 hgo hcall hm hr hrn
                        go_wp2
                        go_roundg (ks.length - (j + 1))
                        case measure => exact hjm
                        case rel => exact ⟨j + 1, s + n', max d d', hjg, by simp, rfl, rfl, k1, k2.out, HX⟩
                  · obtain rfl : j = ks.length := by omega
                    have hM := Lib.hid (show Tm.Meas X b s (d + 1) by
                      obtain ⟨q1, q2, q3, q4, q5⟩ := hgood.out
                      rw [List.take_length] at q2 q3
                      rw [TT.pre_all] at q4 q5
                      obtain ⟨h1, rfl, rfl, rfl⟩ := hhead.out
                      rw [hXk.out]
                      refine .inl ⟨⟨?_, ?_⟩, ?_, ?_⟩
                      · rw [Tm.wf, Tm.wfL_iff]
                        refine ⟨?_, fun t ht => ?_⟩
                        · rcases h1 with h1 | ⟨h1, h2⟩
                          · have h3 := HLS.out.1 h1
                            exact .inr (.inl ⟨h3.1, rfl, rfl, rfl, by rw [List.length_map]; exact h3.2, fun t ht => by
                              obtain ⟨y, hy, rfl⟩ := List.mem_map.1 ht
                              exact q3 h1 y hy⟩)
                          · exact .inr (.inr ⟨h1, rfl, rfl, rfl, by rw [List.length_map]; exact h2⟩)
                        · obtain ⟨y, hy, rfl⟩ := List.mem_map.1 ht
                          exact q2 y hy
                      · rw [Tm.size]; omega
                      · rw [Tm.size]; omega
                      · rw [Tm.depth]; omega)
                    clear hgood
                    go_wp2
                    go_ret2
                    exact ⟨s, (d + 1), rfl, hM, HX.below⟩
                · have hbad := Lib.hid hbad0
                  clear hbad0
                  have hs1 : decide (s < 1000) = false := decide_eq_false (by have := hbad.out.1; omega)
                  have hM := Lib.hid (show Tm.Meas X b s (d + 1) from .inr ⟨hbad.out.2.2.2.2, hbad.out.1, hbad.out.2.1, by have := hbad.out.2.2.1; omega, by have := hbad.out.2.2.2.1; omega⟩)
                  clear hst hbad
                  by_cases hjl : j < ks.length
                  · go_wp2
                    go_ret2
                    exact ⟨s, (d + 1), rfl, hM, HX.below⟩
                  · obtain rfl : j = ks.length := by omega
                    go_wp2
                    go_ret2
                    exact ⟨s, (d + 1), rfl, hM, HX.below⟩
set_option maxHeartbeats 1000000 in
set_option maxRecDepth 100000 in
theorem rvalid50_any {b : Bool} (t : TT) (w : World) (HM : t.Mem w) (hb : Tells b t.tm.Ok) : Calls Tryz.prog 33 #[t.val] w (RetB w b) := by
  have HX := BL.one w #[.int .i64 t.k, .int .i64 t.f, .int .i64 t.o, .int .i64 t.v, .slice t.A t.ks.length t.c] 55
  replace HM := TT.Mem.ext HX.below HM
  show Calls _ _ #[.agg #[.int .i64 t.k, .int .i64 t.f, .int .i64 t.o, .int .i64 t.v, .slice t.A t.ks.length t.c]] w _
  go_enter Tryz.func33, Tryz.ntmps33
  go_upto_region 1 with fail
  generalize w.alloc (.cells #[.int .i64 t.k, .int .i64 t.f, .int .i64 t.o, .int .i64 t.v, .slice t.A t.ks.length t.c] 55) = W0 at *
  have hc00 := HX.cell 0 0 rfl rfl
  have hc01 := HX.cell 0 1 rfl rfl
  have hc02 := HX.cell 0 2 rfl rfl
  have hc03 := HX.cell 0 3 rfl rfl
  have hc04 := HX.cell 0 4 rfl rfl
  try simp only [List.getElem_toArray, List.getElem_cons_zero, List.getElem_cons_succ] at hc00 hc01 hc02 hc03 hc04
  go_wp2_with fail
  refine (rmeasure_any t 41 41 W0 (Lib.hid rfl) (by omega) HM).mono ?_
  rintro e w5 ⟨n, d, rfl, hM, hb5⟩
  replace HX := HX.ext hb5
  clear hc00 hc01 hc02 hc03 hc04
  by_cases h1 : n ≤ 40
  · have d1 : decide (n ≤ 40) = true := decide_eq_true h1
    by_cases h2 : d ≤ 8
    · have d2 : decide (d ≤ 8) = true := decide_eq_true h2
      obtain rfl : b = true := hb.t (by
        rcases hM.out with ⟨⟨m1, m2⟩, m3, m4⟩ | ⟨_, m2, _⟩
        · exact ⟨m1, by omega, by omega⟩
        · omega)
      go_wp2
      go_ret
      exact ⟨rfl, HX.below⟩
    · have d2 : decide (d ≤ 8) = false := decide_eq_false h2
      obtain rfl : b = false := hb.f fun h => by
        rcases hM.out with ⟨⟨m1, m2⟩, m3, m4⟩ | ⟨_, m2, _⟩
        · have := h.2.2; omega
        · omega
      go_wp2
      go_ret
      exact ⟨rfl, HX.below⟩
  · have d1 : decide (n ≤ 40) = false := decide_eq_false h1
    obtain rfl : b = false := hb.f fun h => by
      rcases hM.out with ⟨⟨m1, m2⟩, m3, m4⟩ | ⟨m1, m2, _⟩
      · have := h.2.1; omega
      · exact m1 ⟨h.1, by have := h.2.1; omega⟩
    go_wp2
    go_ret
    exact ⟨rfl, HX.below⟩
end Go.Proofs.YtolkijelldlmeaaGreatDoor

namespace Go.Proofs.YtolkijelldlmeaaGreatDoor
open Go.RowKit Go.Proofs Go

theorem bnum_any {n : Int} {b : Bool} (w : World) (hb : Tells b (1 ≤ n ∧ n ≤ 999)) : Calls Tryz.prog 81 #[.int .i64 n] w fun e w' => e = .returned (.bool b) ∧ w' = w := by
  go_enter Tryz.func81, Tryz.ntmps81
  go_wp2_with fail
  refine (bin_any w hb).mono ?_
  rintro e w1 ⟨rfl, hw1⟩
  obtain rfl : w = w1 := hw1.symm
  go_wp2
  go_ret
  exact ⟨rfl, rfl⟩
theorem bid_any {n : Int} {b : Bool} (w : World) (hb : Tells b (1 ≤ n ∧ n ≤ 9999)) : Calls Tryz.prog 262 #[.int .i64 n] w fun e w' => e = .returned (.bool b) ∧ w' = w := by
  go_enter Tryz.func262, Tryz.ntmps262
  go_wp2_with fail
  refine (bin_any w hb).mono ?_
  rintro e w1 ⟨rfl, hw1⟩
  obtain rfl : w = w1 := hw1.symm
  go_wp2
  go_ret
  exact ⟨rfl, rfl⟩
set_option maxHeartbeats 4000000 in
set_option maxRecDepth 100000 in
theorem bspec_any {b : Bool} (s : Sp) (w : World) (hb : Tells b s.V) : Calls Tryz.prog 190 #[s.val] w (RetB w b) := by
  have HX := BL.one w #[.int .i64 s.id, .int .i64 s.ob, .int .i64 s.rv, .int .i64 s.os, .int .i64 s.rs, .int .i64 s.ax, .int .i64 s.wt] 40
  show Calls _ _ #[.agg #[.int .i64 s.id, .int .i64 s.ob, .int .i64 s.rv, .int .i64 s.os, .int .i64 s.rs, .int .i64 s.ax, .int .i64 s.wt]] w _
  go_enter Tryz.func190, Tryz.ntmps190
  go_upto_region 1 with fail
  generalize w.alloc (.cells #[.int .i64 s.id, .int .i64 s.ob, .int .i64 s.rv, .int .i64 s.os, .int .i64 s.rs, .int .i64 s.ax, .int .i64 s.wt] 40) = V at *
  have hc00 := HX.cell 0 0 rfl rfl
  have hc01 := HX.cell 0 1 rfl rfl
  have hc02 := HX.cell 0 2 rfl rfl
  have hc03 := HX.cell 0 3 rfl rfl
  have hc04 := HX.cell 0 4 rfl rfl
  have hc05 := HX.cell 0 5 rfl rfl
  have hc06 := HX.cell 0 6 rfl rfl
  try simp only [List.getElem_toArray, List.getElem_cons_zero, List.getElem_cons_succ] at hc00 hc01 hc02 hc03 hc04 hc05 hc06
  by_cases g0 : 1 ≤ s.ob ∧ s.ob ≤ 999
  · by_cases g1 : 1 ≤ s.rv ∧ s.rv ≤ 999
    · by_cases g2 : 1 ≤ s.os ∧ s.os ≤ 9
      · by_cases g3 : 1 ≤ s.rs ∧ s.rs ≤ 9
        · by_cases g4 : 1 ≤ s.id ∧ s.id ≤ 9999
          · by_cases g5 : 0 ≤ s.ax ∧ s.ax ≤ 11
            · by_cases g6 : 1 ≤ s.wt ∧ s.wt ≤ 200000
              · obtain rfl : b = true := hb.t ⟨⟨g0, g1, g2, g3⟩, g4, g5, g6⟩
                have h0 := yes g0
                have h1 := yes g1
                have h2 := yes g2
                have h3 := yes g3
                have h4 := yes g4
                have h5 := yes g5
                have h6 := yes g6
                clear hb g0 g1 g2 g3 g4 g5 g6
                go_wp2_with fail
                refine (bnum_any V h0).mono ?_
                rintro e w0 ⟨rfl, hw0⟩
                obtain rfl : V = w0 := hw0.symm
                go_wp2_with fail
                refine (bnum_any V h1).mono ?_
                rintro e w1 ⟨rfl, hw1⟩
                obtain rfl : V = w1 := hw1.symm
                go_wp2_with fail
                refine (bin_any V h2).mono ?_
                rintro e w2 ⟨rfl, hw2⟩
                obtain rfl : V = w2 := hw2.symm
                go_wp2_with fail
                refine (bin_any V h3).mono ?_
                rintro e w3 ⟨rfl, hw3⟩
                obtain rfl : V = w3 := hw3.symm
                go_wp2_with fail
                refine (bid_any V h4).mono ?_
                rintro e w4 ⟨rfl, hw4⟩
                obtain rfl : V = w4 := hw4.symm
                go_wp2_with fail
                refine (bin_any V h5).mono ?_
                rintro e w5 ⟨rfl, hw5⟩
                obtain rfl : V = w5 := hw5.symm
                go_wp2_with fail
                refine (bin_any V h6).mono ?_
                rintro e w6 ⟨rfl, hw6⟩
                obtain rfl : V = w6 := hw6.symm
                go_wp2
                go_ret
                exact ⟨rfl, HX.below⟩
              · obtain rfl : b = false := hb.f fun h => g6 h.2.2.2
                have h0 := yes g0
                have h1 := yes g1
                have h2 := yes g2
                have h3 := yes g3
                have h4 := yes g4
                have h5 := yes g5
                have h6 := no g6
                clear hb g0 g1 g2 g3 g4 g5 g6
                go_wp2_with fail
                refine (bnum_any V h0).mono ?_
                rintro e w0 ⟨rfl, hw0⟩
                obtain rfl : V = w0 := hw0.symm
                go_wp2_with fail
                refine (bnum_any V h1).mono ?_
                rintro e w1 ⟨rfl, hw1⟩
                obtain rfl : V = w1 := hw1.symm
                go_wp2_with fail
                refine (bin_any V h2).mono ?_
                rintro e w2 ⟨rfl, hw2⟩
                obtain rfl : V = w2 := hw2.symm
                go_wp2_with fail
                refine (bin_any V h3).mono ?_
                rintro e w3 ⟨rfl, hw3⟩
                obtain rfl : V = w3 := hw3.symm
                go_wp2_with fail
                refine (bid_any V h4).mono ?_
                rintro e w4 ⟨rfl, hw4⟩
                obtain rfl : V = w4 := hw4.symm
                go_wp2_with fail
                refine (bin_any V h5).mono ?_
                rintro e w5 ⟨rfl, hw5⟩
                obtain rfl : V = w5 := hw5.symm
                go_wp2_with fail
                refine (bin_any V h6).mono ?_
                rintro e w6 ⟨rfl, hw6⟩
                obtain rfl : V = w6 := hw6.symm
                go_wp2
                go_ret
                exact ⟨rfl, HX.below⟩
            · obtain rfl : b = false := hb.f fun h => g5 h.2.2.1
              have h0 := yes g0
              have h1 := yes g1
              have h2 := yes g2
              have h3 := yes g3
              have h4 := yes g4
              have h5 := no g5
              clear hb g0 g1 g2 g3 g4 g5
              go_wp2_with fail
              refine (bnum_any V h0).mono ?_
              rintro e w0 ⟨rfl, hw0⟩
              obtain rfl : V = w0 := hw0.symm
              go_wp2_with fail
              refine (bnum_any V h1).mono ?_
              rintro e w1 ⟨rfl, hw1⟩
              obtain rfl : V = w1 := hw1.symm
              go_wp2_with fail
              refine (bin_any V h2).mono ?_
              rintro e w2 ⟨rfl, hw2⟩
              obtain rfl : V = w2 := hw2.symm
              go_wp2_with fail
              refine (bin_any V h3).mono ?_
              rintro e w3 ⟨rfl, hw3⟩
              obtain rfl : V = w3 := hw3.symm
              go_wp2_with fail
              refine (bid_any V h4).mono ?_
              rintro e w4 ⟨rfl, hw4⟩
              obtain rfl : V = w4 := hw4.symm
              go_wp2_with fail
              refine (bin_any V h5).mono ?_
              rintro e w5 ⟨rfl, hw5⟩
              obtain rfl : V = w5 := hw5.symm
              go_wp2
              go_ret
              exact ⟨rfl, HX.below⟩
          · obtain rfl : b = false := hb.f fun h => g4 h.2.1
            have h0 := yes g0
            have h1 := yes g1
            have h2 := yes g2
            have h3 := yes g3
            have h4 := no g4
            clear hb g0 g1 g2 g3 g4
            go_wp2_with fail
            refine (bnum_any V h0).mono ?_
            rintro e w0 ⟨rfl, hw0⟩
            obtain rfl : V = w0 := hw0.symm
            go_wp2_with fail
            refine (bnum_any V h1).mono ?_
            rintro e w1 ⟨rfl, hw1⟩
            obtain rfl : V = w1 := hw1.symm
            go_wp2_with fail
            refine (bin_any V h2).mono ?_
            rintro e w2 ⟨rfl, hw2⟩
            obtain rfl : V = w2 := hw2.symm
            go_wp2_with fail
            refine (bin_any V h3).mono ?_
            rintro e w3 ⟨rfl, hw3⟩
            obtain rfl : V = w3 := hw3.symm
            go_wp2_with fail
            refine (bid_any V h4).mono ?_
            rintro e w4 ⟨rfl, hw4⟩
            obtain rfl : V = w4 := hw4.symm
            go_wp2
            go_ret
            exact ⟨rfl, HX.below⟩
        · obtain rfl : b = false := hb.f fun h => g3 h.1.2.2.2
          have h0 := yes g0
          have h1 := yes g1
          have h2 := yes g2
          have h3 := no g3
          clear hb g0 g1 g2 g3
          by_cases g4 : 1 ≤ s.id ∧ s.id ≤ 9999
          · have h4 := yes g4
            clear g4
            go_wp2_with fail
            refine (bnum_any V h0).mono ?_
            rintro e w0 ⟨rfl, hw0⟩
            obtain rfl : V = w0 := hw0.symm
            go_wp2_with fail
            refine (bnum_any V h1).mono ?_
            rintro e w1 ⟨rfl, hw1⟩
            obtain rfl : V = w1 := hw1.symm
            go_wp2_with fail
            refine (bin_any V h2).mono ?_
            rintro e w2 ⟨rfl, hw2⟩
            obtain rfl : V = w2 := hw2.symm
            go_wp2_with fail
            refine (bin_any V h3).mono ?_
            rintro e w3 ⟨rfl, hw3⟩
            obtain rfl : V = w3 := hw3.symm
            go_wp2_with fail
            refine (bid_any V h4).mono ?_
            rintro e w4 ⟨rfl, hw4⟩
            obtain rfl : V = w4 := hw4.symm
            go_wp2
            go_ret
            exact ⟨rfl, HX.below⟩
          · have h4 := no g4
            clear g4
            go_wp2_with fail
            refine (bnum_any V h0).mono ?_
            rintro e w0 ⟨rfl, hw0⟩
            obtain rfl : V = w0 := hw0.symm
            go_wp2_with fail
            refine (bnum_any V h1).mono ?_
            rintro e w1 ⟨rfl, hw1⟩
            obtain rfl : V = w1 := hw1.symm
            go_wp2_with fail
            refine (bin_any V h2).mono ?_
            rintro e w2 ⟨rfl, hw2⟩
            obtain rfl : V = w2 := hw2.symm
            go_wp2_with fail
            refine (bin_any V h3).mono ?_
            rintro e w3 ⟨rfl, hw3⟩
            obtain rfl : V = w3 := hw3.symm
            go_wp2_with fail
            refine (bid_any V h4).mono ?_
            rintro e w4 ⟨rfl, hw4⟩
            obtain rfl : V = w4 := hw4.symm
            go_wp2
            go_ret
            exact ⟨rfl, HX.below⟩
      · obtain rfl : b = false := hb.f fun h => g2 h.1.2.2.1
        have h0 := yes g0
        have h1 := yes g1
        have h2 := no g2
        clear hb g0 g1 g2
        by_cases g4 : 1 ≤ s.id ∧ s.id ≤ 9999
        · have h4 := yes g4
          clear g4
          go_wp2_with fail
          refine (bnum_any V h0).mono ?_
          rintro e w0 ⟨rfl, hw0⟩
          obtain rfl : V = w0 := hw0.symm
          go_wp2_with fail
          refine (bnum_any V h1).mono ?_
          rintro e w1 ⟨rfl, hw1⟩
          obtain rfl : V = w1 := hw1.symm
          go_wp2_with fail
          refine (bin_any V h2).mono ?_
          rintro e w2 ⟨rfl, hw2⟩
          obtain rfl : V = w2 := hw2.symm
          go_wp2_with fail
          refine (bid_any V h4).mono ?_
          rintro e w4 ⟨rfl, hw4⟩
          obtain rfl : V = w4 := hw4.symm
          go_wp2
          go_ret
          exact ⟨rfl, HX.below⟩
        · have h4 := no g4
          clear g4
          go_wp2_with fail
          refine (bnum_any V h0).mono ?_
          rintro e w0 ⟨rfl, hw0⟩
          obtain rfl : V = w0 := hw0.symm
          go_wp2_with fail
          refine (bnum_any V h1).mono ?_
          rintro e w1 ⟨rfl, hw1⟩
          obtain rfl : V = w1 := hw1.symm
          go_wp2_with fail
          refine (bin_any V h2).mono ?_
          rintro e w2 ⟨rfl, hw2⟩
          obtain rfl : V = w2 := hw2.symm
          go_wp2_with fail
          refine (bid_any V h4).mono ?_
          rintro e w4 ⟨rfl, hw4⟩
          obtain rfl : V = w4 := hw4.symm
          go_wp2
          go_ret
          exact ⟨rfl, HX.below⟩
    · obtain rfl : b = false := hb.f fun h => g1 h.1.2.1
      have h0 := yes g0
      have h1 := no g1
      clear hb g0 g1
      by_cases g4 : 1 ≤ s.id ∧ s.id ≤ 9999
      · have h4 := yes g4
        clear g4
        go_wp2_with fail
        refine (bnum_any V h0).mono ?_
        rintro e w0 ⟨rfl, hw0⟩
        obtain rfl : V = w0 := hw0.symm
        go_wp2_with fail
        refine (bnum_any V h1).mono ?_
        rintro e w1 ⟨rfl, hw1⟩
        obtain rfl : V = w1 := hw1.symm
        go_wp2_with fail
        refine (bid_any V h4).mono ?_
        rintro e w4 ⟨rfl, hw4⟩
        obtain rfl : V = w4 := hw4.symm
        go_wp2
        go_ret
        exact ⟨rfl, HX.below⟩
      · have h4 := no g4
        clear g4
        go_wp2_with fail
        refine (bnum_any V h0).mono ?_
        rintro e w0 ⟨rfl, hw0⟩
        obtain rfl : V = w0 := hw0.symm
        go_wp2_with fail
        refine (bnum_any V h1).mono ?_
        rintro e w1 ⟨rfl, hw1⟩
        obtain rfl : V = w1 := hw1.symm
        go_wp2_with fail
        refine (bid_any V h4).mono ?_
        rintro e w4 ⟨rfl, hw4⟩
        obtain rfl : V = w4 := hw4.symm
        go_wp2
        go_ret
        exact ⟨rfl, HX.below⟩
  · obtain rfl : b = false := hb.f fun h => g0 h.1.1
    have h0 := no g0
    clear hb g0
    by_cases g4 : 1 ≤ s.id ∧ s.id ≤ 9999
    · have h4 := yes g4
      clear g4
      go_wp2_with fail
      refine (bnum_any V h0).mono ?_
      rintro e w0 ⟨rfl, hw0⟩
      obtain rfl : V = w0 := hw0.symm
      go_wp2_with fail
      refine (bid_any V h4).mono ?_
      rintro e w4 ⟨rfl, hw4⟩
      obtain rfl : V = w4 := hw4.symm
      go_wp2
      go_ret
      exact ⟨rfl, HX.below⟩
    · have h4 := no g4
      clear g4
      go_wp2_with fail
      refine (bnum_any V h0).mono ?_
      rintro e w0 ⟨rfl, hw0⟩
      obtain rfl : V = w0 := hw0.symm
      go_wp2_with fail
      refine (bid_any V h4).mono ?_
      rintro e w4 ⟨rfl, hw4⟩
      obtain rfl : V = w4 := hw4.symm
      go_wp2
      go_ret
      exact ⟨rfl, HX.below⟩
set_option maxHeartbeats 1000000 in
set_option maxRecDepth 100000 in
theorem rspec_any {b : Bool} (s : Sp) (w : World) (hb : Tells b s.V) : Calls Tryz.prog 106 #[s.val] w (RetB w b) := by
  have HX := BL.one w #[.int .i64 s.id, .int .i64 s.ob, .int .i64 s.rv, .int .i64 s.os, .int .i64 s.rs, .int .i64 s.ax, .int .i64 s.wt] 40
  show Calls _ _ #[.agg #[.int .i64 s.id, .int .i64 s.ob, .int .i64 s.rv, .int .i64 s.os, .int .i64 s.rs, .int .i64 s.ax, .int .i64 s.wt]] w _
  go_enter Tryz.func106, Tryz.ntmps106
  go_upto_region 1 with fail
  generalize w.alloc (.cells #[.int .i64 s.id, .int .i64 s.ob, .int .i64 s.rv, .int .i64 s.os, .int .i64 s.rs, .int .i64 s.ax, .int .i64 s.wt] 40) = V at *
  have hc00 := HX.cell 0 0 rfl rfl
  have hc01 := HX.cell 0 1 rfl rfl
  have hc02 := HX.cell 0 2 rfl rfl
  have hc03 := HX.cell 0 3 rfl rfl
  have hc04 := HX.cell 0 4 rfl rfl
  have hc05 := HX.cell 0 5 rfl rfl
  have hc06 := HX.cell 0 6 rfl rfl
  try simp only [List.getElem_toArray, List.getElem_cons_zero, List.getElem_cons_succ] at hc00 hc01 hc02 hc03 hc04 hc05 hc06
  go_wp2_with fail
  refine (bspec_any s V hb).mono ?_
  rintro e w5 ⟨rfl, hb5⟩
  replace HX := HX.ext hb5
  go_wp2
  go_ret
  exact ⟨rfl, HX.below⟩
end Go.Proofs.YtolkijelldlmeaaGreatDoor

namespace Go.Proofs.YtolkijelldlmeaaGreatDoor
open Go.RowKit Go.Proofs Go

theorem take_snocS {l : List Sp} {k : Nat} {x : Sp} (hx : l[k]? = some x) : l.take (k + 1) = l.take k ++ [x] := by
  obtain ⟨hi, h2⟩ := List.getElem?_eq_some_iff.1 hx
  rw [List.take_succ_eq_append_getElem hi, h2]
set_option maxHeartbeats 4000000 in
set_option maxRecDepth 100000 in
theorem bcheck_any {E : Int} (A : Option Addr) (c : Nat) (l : List Sp) (w : World) (H : SpS w A l) (hl : l.length ≤ 9223372036854775807) (hE : Hid (ChkS l E)) :
    Calls Tryz.prog 107 #[.slice A l.length c] w (RetI w E) := by
  by_cases h64 : l.length ≤ 64
  · have h8b : decide ((64 : Int) < (l.length : Int)) = false := decide_eq_false (by omega)
    go_enter Tryz.func107, Tryz.ntmps107
    go_wp2
    go_loopg [3] l.length (fun g i wr => ∃ k : Nat, k + g = l.length ∧ i = .int .i64 (k : Int) ∧ Hid (∀ x ∈ l.take k, x.V) ∧ Below w.heap.size w wr)
    case atStart => exact ⟨0, by omega, rfl, Lib.hid (by simp), Below.refl _ _⟩
    case round =>
      obtain ⟨k, hk, rfl, hg, hbw⟩ := hrel
      by_cases hk0 : k < l.length
      · obtain ⟨x, hx⟩ : ∃ x, Hid (l[k]? = some x) := ⟨_, Lib.hid (List.getElem?_eq_getElem hk0)⟩
        have hxm : x ∈ l := List.mem_of_getElem? hx.out
        obtain ⟨ad, rfl, hbk, c0, c1, c2, c3, c4, c5, c6⟩ := (H.ext hbw).at_ hx.out
        by_cases hv : x.V
        · have YV := yes hv
          have hgn := Lib.hid (show ∀ y ∈ l.take (k + 1), y.V from fun y hy => by
            rw [take_snocS hx.out] at hy
            rcases List.mem_append.1 hy with h | h
            · exact hg.out y h
            · rw [List.mem_singleton.1 h]; exact hv)
          clear hv
          go_wp2_with fail
          refine (bspec_any x wr YV).mono ?_
          rintro e w5 ⟨rfl, hb⟩
          replace hbw := bel_trans hbw hb
          clear hb c0 c1 c2 c3 c4 c5 c6
          go_wp2
          go_roundg (l.length - (k + 1))
          case measure => omega
          case rel => exact ⟨k + 1, by omega, by go_num, hgn, hbw⟩
        · have YV := no hv
          obtain rfl : E = 1 := hE.out.uniq (.inr (.inl ⟨h64, ⟨x, hxm, hv⟩, rfl⟩))
          clear hv
          go_wp2_with fail
          refine (bspec_any x wr YV).mono ?_
          rintro e w5 ⟨rfl, hb⟩
          replace hbw := bel_trans hbw hb
          go_wp2
          go_ret
          exact ⟨rfl, hbw⟩
      · have hall := Lib.hid (show ∀ x ∈ l, x.V from fun x hx => hg.out x (by rw [List.take_of_length_le (by omega)]; exact hx))
        go_wp2
        go_loopg [4] l.length (fun g i wr => ∃ k : Nat, k + g = l.length ∧ i = .int .i64 (k : Int) ∧ Hid (((l.take k).map Sp.id).Nodup) ∧ Below w.heap.size w wr)
        case atStart => exact ⟨0, by omega, rfl, Lib.hid (by simp), hbw⟩
        case round =>
          clear hbw hg hk0 hk
          obtain ⟨k, hk, rfl, hnd, hbw⟩ := hrel
          by_cases hk0 : k < l.length
          · obtain ⟨x, hx⟩ : ∃ x, Hid (l[k]? = some x) := ⟨_, Lib.hid (List.getElem?_eq_getElem hk0)⟩
            go_wp2
            go_loopg [5] k (fun g i wi => ∃ m : Nat, m + g = k ∧ i = .int .i64 (m : Int) ∧ Hid (x.id ∉ (l.take m).map Sp.id) ∧ Below w.heap.size w wi)
            case atStart => exact ⟨0, by omega, rfl, Lib.hid (by simp), hbw⟩
            case round =>
              clear hbw
              obtain ⟨m, hm, rfl, hno, hbw⟩ := hrel
              by_cases hm0 : m < k
              · obtain ⟨y, hy⟩ : ∃ y, Hid (l[m]? = some y) := ⟨_, Lib.hid (List.getElem?_eq_getElem (by omega))⟩
                obtain ⟨ad, rfl, hbk, c0, _, _, _, _, _, _⟩ := (H.ext hbw).at_ hx.out
                obtain ⟨ad2, hA, hbk2, d0, _, _, _, _, _, _⟩ := (H.ext hbw).at_ hy.out
                obtain rfl : ad = ad2 := Option.some.inj hA
                clear hA
                obtain ⟨ix, hix⟩ : ∃ z, Hid (x.id = z) := ⟨_, Lib.hid rfl⟩
                obtain ⟨iy, hiy⟩ : ∃ z, Hid (y.id = z) := ⟨_, Lib.hid rfl⟩
                rw [hix.out] at c0
                rw [hiy.out] at d0
                have hml : m < l.length := by omega
                have hym := Lib.hid (show y.id ∈ (l.take k).map Sp.id from List.mem_map_of_mem (List.mem_of_getElem? (i := m) (by rw [List.getElem?_take, if_pos hm0]; exact hy.out)))
                by_cases hxy : ix = iy
                · subst hxy
                  have hs : (ix == ix) = true := by simp
                  obtain rfl : E = 8 := hE.out.uniq (.inr (.inr (.inl ⟨h64, hall.out, fun h => by
                    have h2 : ((l.take (k + 1)).map Sp.id).Nodup := List.Nodup.sublist ((List.take_sublist _ _).map _) h
                    rw [take_snocS hx.out, List.map_append] at h2
                    have h3 := (nodup_snoc.1 h2).2
                    rw [hix.out, ← hiy.out] at h3
                    exact h3 hym.out, rfl⟩)))
                  go_upto_region 14 with fail
                  go_quiet (fail)
                  go_wp2
                  go_ret
                  exact ⟨rfl, drew_below hbw _⟩
                · have hs : (ix == iy) = false := by rw [beq_eq_false_iff_ne]; exact hxy
                  have hno2 := Lib.hid (show x.id ∉ (l.take (m + 1)).map Sp.id from fun h => by
                    rw [take_snocS hy.out, List.map_append] at h
                    rcases List.mem_append.1 h with h | h
                    · exact hno.out h
                    · have h2 := List.mem_singleton.1 h
                      rw [hix.out, hiy.out] at h2
                      exact hxy h2)
                  clear hxy hno
                  go_upto_region 14 with fail
                  go_quiet (fail)
                  go_wp2
                  go_roundg (k - (m + 1))
                  case measure => omega
                  case rel => exact ⟨m + 1, by omega, by go_num, hno2, drew_below hbw _⟩
              · obtain rfl : m = k := by omega
                have hnd2 := Lib.hid (show ((l.take (m + 1)).map Sp.id).Nodup by
                  rw [take_snocS hx.out, List.map_append]
                  exact nodup_snoc.2 ⟨hnd.out, hno.out⟩)
                go_wp2
                go_roundg (l.length - (m + 1))
                case measure => omega
                case rel => exact ⟨m + 1, by omega, by go_num, hnd2, hbw⟩
          · obtain rfl : E = 0 := hE.out.uniq (.inr (.inr (.inr ⟨h64, hall.out, by
              have h := hnd.out
              rw [List.take_of_length_le (by omega)] at h
              exact h, rfl⟩)))
            go_wp2
            go_ret
            exact ⟨rfl, hbw⟩
  · have h8b : decide ((64 : Int) < (l.length : Int)) = true := decide_eq_true (by omega)
    obtain rfl : E = 6 := hE.out.uniq (.inl ⟨by omega, rfl⟩)
    go_enter Tryz.func107, Tryz.ntmps107
    go_wp2
    go_ret
    exact ⟨rfl, Below.refl _ _⟩
set_option maxRecDepth 100000 in
theorem rcheck09_any {E : Int} (A : Option Addr) (c : Nat) (l : List Sp) (w : World) (H : SpS w A l) (hl : l.length ≤ 9223372036854775807) (hE : Hid (ChkS l E)) :
    Calls Tryz.prog 43 #[.slice A l.length c] w (RetI w E) := by
  go_enter Tryz.func43, Tryz.ntmps43
  go_wp2_with fail
  refine (bcheck_any A c l w H hl hE).mono ?_
  rintro e w5 ⟨rfl, hb⟩
  go_wp2
  go_ret
  exact ⟨rfl, hb⟩
end Go.Proofs.YtolkijelldlmeaaGreatDoor

namespace Go.Proofs.YtolkijelldlmeaaGreatDoor
open Go.RowKit Go.Proofs Go

namespace Gr
/-- the cells of the structs, one behind the other -/
def gcells (rs : List (List Int)) : List Value := rs.flatten.map (Value.int .i64)
/-- each struct has k numbers -/
def Wd (k : Nat) (rs : List (List Int)) : Prop := ∀ r ∈ rs, r.length = k
theorem Wd.nil (k : Nat) : Wd k [] := fun r h => by cases h
theorem Wd.one {k : Nat} {r : List Int} (h : r.length = k) : Wd k [r] := fun x hx => by rw [List.mem_singleton.1 hx]; exact h
theorem Wd.append {k : Nat} {a b : List (List Int)} (h : Wd k a) (h2 : Wd k b) : Wd k (a ++ b) := fun r hr => by
  rcases List.mem_append.1 hr with h' | h'
  · exact h r h'
  · exact h2 r h'
theorem Wd.tail {k : Nat} {r : List Int} {rs : List (List Int)} (h : Wd k (r :: rs)) : Wd k rs := fun x hx => h x (List.mem_cons_of_mem _ hx)
theorem Wd.set {k : Nat} {rs : List (List Int)} (h : Wd k rs) {i : Nat} {r : List Int} (hr : r.length = k) : Wd k (rs.set i r) := fun x hx => by
  rcases List.mem_or_eq_of_mem_set hx with h' | rfl
  · exact h x h'
  · exact hr
theorem Wd.perm {k : Nat} {a b : List (List Int)} (h : Wd k a) (p : b.Perm a) : Wd k b := fun r hr => h r (p.mem_iff.1 hr)
theorem flat_len {k : Nat} : ∀ {rs : List (List Int)}, Wd k rs → rs.flatten.length = rs.length * k
  | [], _ => by simp
  | r :: rs, h => by
    rw [List.flatten_cons, List.length_append, flat_len h.tail, h r (by simp), List.length_cons, Nat.add_mul]; omega
theorem flat_at {k : Nat} : ∀ {rs : List (List Int)} {i j : Nat} {r : List Int}, Wd k rs → rs[i]? = some r → j < k → rs.flatten[i * k + j]? = r[j]?
  | [], i, j, r, _, h, _ => by simp at h
  | x :: rs, 0, j, r, hw, h, hj => by
    simp at h; subst h
    rw [List.flatten_cons, Nat.zero_mul, Nat.zero_add, List.getElem?_append_left (by rw [hw x (by simp)]; exact hj)]
  | x :: rs, i + 1, j, r, hw, h, hj => by
    have hx := hw x (by simp)
    have he : (i + 1) * k + j = k + (i * k + j) := by rw [Nat.add_mul]; omega
    rw [List.flatten_cons, List.getElem?_append_right (by rw [hx, he]; omega), hx, he, Nat.add_sub_cancel_left]
    exact flat_at hw.tail (by simpa using h) hj
theorem flat_set {k : Nat} : ∀ {rs : List (List Int)} {i j : Nat} {r : List Int} {n : Int}, Wd k rs → rs[i]? = some r → j < k → rs.flatten.set (i * k + j) n = (rs.set i (r.set j n)).flatten
  | [], i, j, r, n, _, h, _ => by simp at h
  | x :: rs, 0, j, r, n, hw, h, hj => by
    simp at h; subst h
    rw [List.flatten_cons, Nat.zero_mul, Nat.zero_add, List.set_append_left _ _ (by rw [hw x (by simp)]; exact hj)]
    rfl
  | x :: rs, i + 1, j, r, n, hw, h, hj => by
    have hx := hw x (by simp)
    have he : (i + 1) * k + j = k + (i * k + j) := by rw [Nat.add_mul]; omega
    rw [List.flatten_cons, List.set_append_right _ _ (by rw [hx, he]; omega), hx, he, Nat.add_sub_cancel_left, flat_set hw.tail (by simpa using h) hj]
    rfl
theorem gcells_len {k : Nat} {rs : List (List Int)} (h : Wd k rs) : (gcells rs).length = rs.length * k := by rw [gcells, List.length_map, flat_len h]
theorem gcells_append (a b : List (List Int)) : gcells (a ++ b) = gcells a ++ gcells b := by simp [gcells]
theorem gcells_one (rs : List (List Int)) : ∀ u ∈ gcells rs, u.oneCell' = true := fun u hu => by
  obtain ⟨n, _, rfl⟩ := List.mem_map.1 hu
  rfl
/-- a slice reads as these structs -/
def GS (k : Nat) (w : World) (A : Option Addr) (rs : List (List Int)) : Prop := Wd k rs ∧ (0 < rs.length → ∃ ad, A = some ad ∧ ad.block < w.heap.size ∧ ∀ (j : Nat) (n : Int), rs.flatten[j]? = some n → w.cell? (ad.add j) = some (.int .i64 n))
section
variable {k : Nat} {w w' : World} {A : Option Addr} {rs : List (List Int)}
theorem GS.nil (k : Nat) (w : World) (A : Option Addr) : GS k w A [] := ⟨Wd.nil k, fun h => absurd h (by simp)⟩
theorem GS.ext (h : GS k w A rs) (hb : Below w.heap.size w w') : GS k w' A rs := ⟨h.1, fun h0 => by
  obtain ⟨ad, h1, h2, h3⟩ := h.2 h0
  exact ⟨ad, h1, Nat.lt_of_lt_of_le h2 hb.size, fun j n hn => by rw [hb.cell (by rw [addr_add_block]; exact h2)]; exact h3 j n hn⟩⟩
theorem GS.cell {ad : Addr} (h : GS k w (some ad) rs) : ∀ j u, (gcells rs)[j]? = some u → w.cell? (ad.add j) = some u := fun j u hu => by
  rw [gcells, List.getElem?_map] at hu
  obtain ⟨n, hn, rfl⟩ := Option.map_eq_some_iff.1 hu
  have h0 : 0 < rs.length := by
    cases rs with
    | nil => simp at hn
    | cons r rs => simp
  obtain ⟨a2, e, _, h3⟩ := h.2 h0
  obtain rfl := Option.some.inj e
  exact h3 j n hn
theorem GS.at_ (h : GS k w A rs) {i : Nat} {r : List Int} (hx : rs[i]? = some r) : ∃ ad, A = some ad ∧ ad.block < w.heap.size ∧ ∀ (j : Nat) (n : Int), r[j]? = some n → w.cell? ((ad.add (i * k)).add j) = some (.int .i64 n) := by
  have hi := (List.getElem?_eq_some_iff.1 hx).1
  obtain ⟨ad, h1, h2, h3⟩ := h.2 (by omega)
  refine ⟨ad, h1, h2, fun j n hn => ?_⟩
  have hj : j < k := by rw [← h.1 r (List.mem_of_getElem? hx)]; exact (List.getElem?_eq_some_iff.1 hn).1
  rw [addr_add_add]
  exact h3 _ n (by rw [flat_at h.1 hx hj]; exact hn)
theorem add_pos_lit (a : Addr) {j : Nat} (hj : j ≠ 0) : a.add j = ⟨a.block, a.off + j, none⟩ := by unfold Addr.add; rw [if_neg hj]
theorem add_zero' (a : Addr) : a.add 0 = a := rfl
theorem GS.at1 (h : GS k w A rs) {i : Nat} {r : List Int} (hx : rs[i]? = some r) {j : Nat} {n : Int} (hn : r[j]? = some n) (hj : j ≠ 0) {ad : Addr} (hA : A = some ad) : w.cell? ⟨(ad.add (i * k)).block, (ad.add (i * k)).off + j, none⟩ = some (.int .i64 n) := by
  obtain ⟨a2, e, _, h3⟩ := h.at_ hx
  rw [hA] at e
  obtain rfl := Option.some.inj e
  rw [← add_pos_lit _ hj]
  exact h3 j n hn
theorem GS.at0 (h : GS k w A rs) {i : Nat} {r : List Int} (hx : rs[i]? = some r) {n : Int} (hn : r[0]? = some n) {ad : Addr} (hA : A = some ad) : w.cell? (ad.add (i * k)) = some (.int .i64 n) := by
  obtain ⟨a2, e, _, h3⟩ := h.at_ hx
  rw [hA] at e
  obtain rfl := Option.some.inj e
  exact h3 0 n hn
theorem GS.lit (W : World) (T : TypeId) (rs : List (List Int)) (cs : Array Value) (hw : Wd k rs) (hcs : cs.toList = gcells rs) : GS k (W.alloc (.cells cs T)) (some ⟨W.heap.size, 0, none⟩) rs := ⟨hw, fun h0 => ⟨_, rfl, by simp, fun j n hn => by
  rw [Addr.add_lit, Nat.zero_add]
  refine al_at rfl _ ?_
  rw [← Array.getElem?_toList, hcs, gcells, List.getElem?_map, hn]
  rfl⟩⟩
end
/-- the call owns a row of structs -/
def GOwn (k : Nat) (T : TypeId) (w : World) (B : Nat) (A : Option Addr) (c : Nat) (rs : List (List Int)) : Prop := Wd k rs ∧ w.ownsRow B T k (.slice A rs.length c) rs.length (gcells rs)
section
variable {k : Nat} {T : TypeId} {w w' : World} {B c : Nat} {A : Option Addr} {rs : List (List Int)}
theorem GOwn.nil (k : Nat) (T : TypeId) (w : World) (B : Nat) : GOwn k T w B none 0 [] := ⟨Wd.nil k, World.ownsRow_nil w B T k⟩
theorem GOwn.ext (h : GOwn k T w B A c rs) (hb : Below w.heap.size w w') : GOwn k T w' B A c rs :=
  ⟨h.1, World.ownsRow.kept h.2 (grown_of_below hb none) (by cases A <;> simp [Value.ownBlock])⟩
theorem GOwn.blk (h : GOwn k T w B A c rs) : ∀ ad, A = some ad → B ≤ ad.block ∧ ad.block < w.heap.size := fun ad e => by
  have := World.ownsRow.lt h.2 ad.block (by rw [e]; rfl)
  exact this
theorem GOwn.grown {g : Nat} (h : GOwn k T w B A c rs) (hg : w.grownBy w' (some g)) (hB : g < B) : GOwn k T w' B A c rs :=
  ⟨h.1, World.ownsRow.kept h.2 hg (by
    cases hA : A with
    | none => exact .inl rfl
    | some ad =>
      right
      intro h2
      injection h2 with h2
      have := (h.blk ad hA).1
      omega)⟩
theorem GOwn.len (h : GOwn k T w B A c rs) : rs.length ≤ c ∧ c ≤ 9223372036854775807 := by
  rcases h.2.2 with ⟨hv, h0⟩ | ⟨g, cap, cur, hv, _, _, h1, h2, _⟩
  · injection hv with _ h1 h2
    omega
  · injection hv with _ _ h3
    unfold maxLen at h2
    omega
theorem GOwn.gs (h : GOwn k T w B A c rs) : GS k w A rs := ⟨h.1, fun h0 => by
  have h1 := h.2
  rcases h1.2 with ⟨_, h2⟩ | ⟨g, cap, cur, hv, _, hg, _⟩
  · omega
  · injection hv with hA _ _
    subst hA
    refine ⟨_, rfl, (Array.getElem?_eq_some_iff.1 hg).1, fun j n hn => ?_⟩
    exact World.ownsRow.cells h1 rfl j _ (by rw [gcells, List.getElem?_map, hn]; rfl)⟩
theorem GOwn.block (h : GOwn k T w B A c rs) (h0 : 0 < rs.length) : ∃ g, A = some ⟨g, 0, none⟩ ∧ B ≤ g := by
  rcases h.2.2 with ⟨_, h2⟩ | ⟨g, cap, cur, hv, hb, _⟩
  · omega
  · injection hv with hA _ _
    exact ⟨g, hA, hb⟩
theorem GOwn.lit (W : World) {B : Nat} (hB : B ≤ W.heap.size) (T : TypeId) (rs : List (List Int)) (cs : Array Value) (hw : Wd k rs) (hcs : cs.toList = gcells rs) (hl : rs.length ≤ 1000000) : GOwn k T (W.alloc (.cells cs T)) B (some ⟨W.heap.size, 0, none⟩) rs.length rs := by
  have hs : cs.size = rs.length * k := by rw [← Array.length_toList, hcs, gcells_len hw]
  refine ⟨hw, gcells_len hw, .inr ⟨W.heap.size, rs.length, cs, rfl, hB, heap_alloc_new W _, Nat.le_refl _, by unfold maxLen; omega, hs, ?_⟩⟩
  rw [hcs, ← gcells_len hw, List.take_length]
theorem GOwn.frozen {g : Nat} (h : GOwn k T w B (some ⟨g, 0, none⟩) c rs) (j : Nat) : w.frozen? ⟨g, j, none⟩ = false := World.ownsRow.frozenAt h.2 j
/-- one number of one struct is stored -/
theorem GOwn.stored {g : Nat} (h : GOwn k T w B (some ⟨g, 0, none⟩) c rs) {i j : Nat} {r : List Int} (hx : rs[i]? = some r) (hj : j < k) (n : Int) : GOwn k T (w.setCell ⟨g, i * k + j, none⟩ (.int .i64 n)) B (some ⟨g, 0, none⟩) c (rs.set i (r.set j n)) := by
  have hr : r.length = k := h.1 r (List.mem_of_getElem? hx)
  refine ⟨h.1.set (by rw [List.length_set]; exact hr), ?_⟩
  have h1 := (World.ownsRow.stored h.2 (i * k + j) (.int .i64 n)).1
  rw [List.length_set, gcells, ← flat_set h.1 hx hj, List.map_set]
  exact h1
end
/-- append(s, x...): s a row of the call's own -/
theorem op_gpushes {P : Program} {o : Oper} {a : Act} {K : Act → World → Prop} {Q : Exit → Act → World → Prop} {t e : TypeId} {k by_ : Nat} {Z : Value} (ht : P.underlying t = some (.slice e)) (hinfo : (P.info? e).map (fun i => (i.zero, i.size, i.bytes)) = some (some Z, k, by_)) (hZ : Z.cells.size = k) (hk0 : 0 < k) (w : World) (s x : Operand) (hop : o.op = Op.call { callee := Callee.builtin Builtin.append, args := #[s, x], argTypes := #[t, t] })
    {B : Nat} {A X : Option Addr} {n m c cx : Nat} {us ks : List (List Int)} (hs : a.eval s = .slice A n c) (hx : a.eval x = .slice X m cx) (hown : GOwn k e w B A c us) (HX : GS k w X ks) (hn : n = us.length) (hm : m = ks.length) (hb : n + m ≤ 1000000) (hb2 : by_ ≤ 100000) (hB : B ≤ w.heap.size)
    (hK : ∀ A' c' w', GOwn k e w' B A' c' (us ++ ks) → w.grownBy w' (Value.slice A n c).ownBlock → Below B w w' → K (a.put o.dst (.slice A' (n + m) c')) w') : Oper.wp P o a w K Q := by
  subst hn hm
  obtain ⟨i, hi, hz, h1, h2⟩ := info_parts hinfo
  have hbel : ∀ {w'}, w.grownBy w' (Value.slice A us.length c).ownBlock → Below B w w' := fun h4 => below_of_grown h4 hB fun q hq => ((World.ownsRow.lt hown.2) q hq).1
  by_cases h0 : ks.length = 0
  · have hr : ks = [] := List.eq_nil_of_length_eq_zero h0
    subst hr
    have hnc : ¬ c < us.length := by have := hown.len.1; omega
    have hrun : (Builtin.append_ #[t, t] o.type #[.slice A us.length c, .slice X 0 cx]).run P w = .ok (.slice A us.length c) w := by
      cases A <;> cases X <;> simp [hnc, Builtin.append_, run_underlying ht, sizeOf, typeInfo, hi, Builtin.lenOf, Builtin.firstCells, loadCells, loadCellsFrom, storeCells]
    have hk := hK A c w (by rw [List.append_nil]; exact hown) ⟨rfl, rfl, rfl, Nat.le_refl _, fun _ _ _ => rfl⟩ (Below.refl _ _)
    unfold Oper.wp
    simp [execOp, hop, resolve, invoke, builtin, hs, hx, hrun, Result.andThen]
    exact hk
  · obtain ⟨xd, rfl, _⟩ := HX.2 (by omega)
    have hbb : (us.length + ks.length) * by_ ≤ 140737488355328 := Nat.le_trans (Nat.mul_le_mul hb hb2) (by decide)
    obtain ⟨v', w', hr, h3, h4, _⟩ := run_append_own w B t o.type e i Z k by_ ht hi hz h1 h2 hZ hk0 _ us.length (gcells us) hown.2 xd ks.length cx (gcells ks) (gcells_len HX.1) HX.cell (gcells_one ks) (by unfold maxLen; omega) hbb hB
    obtain ⟨A', c', rfl⟩ : ∃ A' c', v' = .slice A' (us.length + ks.length) c' := by
      rcases h3.2 with ⟨_, h0⟩ | ⟨g, cap, cur, hv, _⟩
      · omega
      · exact ⟨_, _, hv⟩
    unfold Oper.wp
    simp [execOp, hop, resolve, invoke, builtin, hs, hx, hr, Result.andThen]
    exact hK A' c' w' ⟨hown.1.append HX.1, by rw [gcells_append, List.length_append]; exact h3⟩ h4 (hbel h4)
theorem wp_gpushes {P : Program} {ops : Array Oper} {rest : List Oper} {o : Oper} {a : Act} {Q : Exit → Act → World → Prop} {t e : TypeId} {k by_ : Nat} {Z : Value} (ht : P.underlying t = some (.slice e)) (hinfo : (P.info? e).map (fun i => (i.zero, i.size, i.bytes)) = some (some Z, k, by_)) (hZ : Z.cells.size = k) (hk0 : 0 < k) (w : World) (hg : o.guard = none) (s x : Operand) (hop : o.op = Op.call { callee := Callee.builtin Builtin.append, args := #[s, x], argTypes := #[t, t] })
    {B : Nat} {A X : Option Addr} {n m c cx : Nat} {us ks : List (List Int)} (hs : a.eval s = .slice A n c) (hx : a.eval x = .slice X m cx) (hown : GOwn k e w B A c us) (HX : GS k w X ks) (hn : n = us.length) (hm : m = ks.length) (hb : n + m ≤ 1000000) (hb2 : by_ ≤ 100000) (hB : B ≤ w.heap.size)
    (hK : ∀ A' c' w', GOwn k e w' B A' c' (us ++ ks) → w.grownBy w' (Value.slice A n c).ownBlock → Below B w w' → wpList P ops Q rest (a.put o.dst (.slice A' (n + m) c')) w') : wpList P ops Q (o :: rest) a w :=
  wpList_plain hg fun _ hK' => op_gpushes ht hinfo hZ hk0 w s x hop hs hx hown HX hn hm hb hb2 hB fun A' c' w' h1 h2 h3 => hK' _ _ (hK A' c' w' h1 h2 h3)
/-- append(s, x), behind the operation that laid x in a block of its own -/
theorem wp_gpush {P : Program} {ops : Array Oper} {rest : List Oper} {o : Oper} {a : Act} {Q : Exit → Act → World → Prop} {t e : TypeId} {k by_ : Nat} {Z : Value} (ht : P.underlying t = some (.slice e)) (hinfo : (P.info? e).map (fun i => (i.zero, i.size, i.bytes)) = some (some Z, k, by_)) (hZ : Z.cells.size = k) (hk0 : 0 < k) (w : World) (hg : o.guard = none) (s x : Operand) (hop : o.op = Op.call { callee := Callee.builtin Builtin.append, args := #[s, x], argTypes := #[t, t] })
    {B : Nat} {A : Option Addr} {n c : Nat} {us : List (List Int)} {T : TypeId} {cs : Array Value} (r : List Int) (hr : r.length = k) (hcs : cs.toList = r.map (Value.int .i64)) (hs : a.eval s = .slice A n c) (hx : a.eval x = .slice (some ⟨w.heap.size, 0, none⟩) 1 1) (hown : GOwn k e w B A c us) (hn : n = us.length) (hb : n + 1 ≤ 1000000) (hb2 : by_ ≤ 100000) (hB : B ≤ w.heap.size)
    (hK : ∀ A' c' w', GOwn k e w' B A' c' (us ++ [r]) → Below B w w' → w.heap.size < w'.heap.size → wpList P ops Q rest (a.put o.dst (.slice A' (n + 1) c')) w') : wpList P ops Q (o :: rest) a (w.alloc (.cells cs T)) :=
  wp_gpushes ht hinfo hZ hk0 (w.alloc (.cells cs T)) hg s x hop hs hx (hown.ext (below_alloc w _)) (GS.lit w T [r] cs (Wd.one hr) (by rw [hcs]; simp [gcells])) hn rfl hb hb2 (by simp; omega)
    fun A' c' w' h1 _ h3 => hK A' c' w' h1 (((below_alloc w _).mono hB).trans h3) (by have := h3.size; simp at this; omega)
end Gr
end Go.Proofs.YtolkijelldlmeaaGreatDoor

namespace Go.Proofs.YtolkijelldlmeaaGreatDoor
open Go.RowKit Go.Proofs Go
open Gr

def Sp.row (s : Sp) : List Int := [s.id, s.ob, s.rv, s.os, s.rs, s.ax, s.wt]
theorem sp_wd (l : List Sp) : Wd 7 (l.map Sp.row) := fun r hr => by
  obtain ⟨s, _, rfl⟩ := List.mem_map.1 hr
  rfl
theorem SpS.gs {w : World} {A : Option Addr} {l : List Sp} (h : SpS w A l) : GS 7 w A (l.map Sp.row) := ⟨sp_wd l, fun h0 => by
  rw [List.length_map] at h0
  obtain ⟨ad, h1, h2, h3⟩ := h h0
  refine ⟨ad, h1, h2, fun j n hn => ?_⟩
  have hj := (List.getElem?_eq_some_iff.1 hn).1
  rw [flat_len (sp_wd l), List.length_map] at hj
  have hi : j / 7 < l.length := by omega
  have hx := List.getElem?_eq_getElem hi
  generalize l[j / 7] = x at *
  have hr := flat_at (sp_wd l) (i := j / 7) (j := j % 7) (r := x.row) (by rw [List.getElem?_map, hx]; rfl) (Nat.mod_lt _ (by omega))
  rw [show j / 7 * 7 + j % 7 = j by omega, hn] at hr
  obtain ⟨c0, c1, c2, c3, c4, c5, c6⟩ := h3 (j / 7) x hx
  have key : ∀ (r : Nat) (y : Int), w.cell? ⟨(ad.add (j / 7 * 7)).block, (ad.add (j / 7 * 7)).off + r, none⟩ = some (.int .i64 y) → j % 7 = r → r ≠ 0 → x.row[r]? = some y → w.cell? (ad.add j) = some (.int .i64 n) := fun r y hc hjr hr0 hy => by
    rw [hjr, hy] at hr
    obtain rfl := Option.some.inj hr
    rw [← add_pos_lit _ hr0, addr_add_add, show j / 7 * 7 + r = j by omega] at hc
    exact hc
  have hlt : j % 7 < 7 := Nat.mod_lt _ (by omega)
  obtain h0 | h0 | h0 | h0 | h0 | h0 | h0 : j % 7 = 0 ∨ j % 7 = 1 ∨ j % 7 = 2 ∨ j % 7 = 3 ∨ j % 7 = 4 ∨ j % 7 = 5 ∨ j % 7 = 6 := by omega
  · rw [h0] at hr
    obtain rfl := Option.some.inj (hr.trans (show x.row[0]? = some x.id from rfl))
    rw [show j / 7 * 7 = j by omega] at c0
    exact c0
  · exact key 1 _ c1 h0 (by decide) rfl
  · exact key 2 _ c2 h0 (by decide) rfl
  · exact key 3 _ c3 h0 (by decide) rfl
  · exact key 4 _ c4 h0 (by decide) rfl
  · exact key 5 _ c5 h0 (by decide) rfl
  · exact key 6 _ c6 h0 (by decide) rfl⟩
theorem SpS.of_gs {w : World} {A : Option Addr} {l : List Sp} (h : GS 7 w A (l.map Sp.row)) : SpS w A l := fun h0 => by
  obtain ⟨ad, h1, h2, _⟩ := h.2 (by rw [List.length_map]; exact h0)
  refine ⟨ad, h1, h2, fun i x hx => ?_⟩
  have hr : (l.map Sp.row)[i]? = some x.row := by rw [List.getElem?_map, hx]; rfl
  exact ⟨h.at0 hr rfl h1, h.at1 hr (j := 1) rfl (by decide) h1, h.at1 hr (j := 2) rfl (by decide) h1, h.at1 hr (j := 3) rfl (by decide) h1, h.at1 hr (j := 4) rfl (by decide) h1, h.at1 hr (j := 5) rfl (by decide) h1, h.at1 hr (j := 6) rfl (by decide) h1⟩
/-- neighbours are exchanged -/
def swS (o : List Sp) (k : Nat) (x y : Sp) : List Sp := (o.set k y).set (k - 1) x
theorem swS_len (o : List Sp) (k : Nat) (x y : Sp) : (swS o k x y).length = o.length := by rw [swS, List.length_set, List.length_set]
theorem swS_perm {o : List Sp} {k : Nat} {x y : Sp} (h0 : 0 < k) (hx : o[k]? = some x) (hy : o[k - 1]? = some y) : (swS o k x y).Perm o := by
  obtain ⟨h1, rfl⟩ := List.getElem?_eq_some_iff.1 hx
  obtain ⟨h2, rfl⟩ := List.getElem?_eq_some_iff.1 hy
  exact List.set_set_perm h1 (by omega)
theorem at0_id {o : List Sp} {k : Nat} {x : Sp} (hx : o[k]? = some x) : at0 (o.map Sp.id) k = x.id := by rw [at0, List.getElem?_map, hx]; rfl
theorem swS_ids {o : List Sp} {k : Nat} {x y : Sp} (hx : o[k]? = some x) (hy : o[k - 1]? = some y) : (swS o k x y).map Sp.id = exch (o.map Sp.id) k := by
  rw [exch, at0_id hx, at0_id hy, swS, List.map_set, List.map_set]
/-- the call's own row of specimens -/
def SpOwn (w : World) (B : Nat) (A : Option Addr) (c : Nat) (l : List Sp) : Prop := GOwn 7 40 w B A c (l.map Sp.row)
theorem sp_info : (Tryz.prog.info? 40).map (fun i => (i.zero, i.size, i.bytes)) = some (some (.agg #[.int .i64 0, .int .i64 0, .int .i64 0, .int .i64 0, .int .i64 0, .int .i64 0, .int .i64 0]), 7, 56) := by kernel_rfl
theorem SpOwn.sps {w : World} {B c : Nat} {A : Option Addr} {l : List Sp} (h : SpOwn w B A c l) : SpS w A l := SpS.of_gs h.gs
theorem SpOwn.ext {w w' : World} {B c : Nat} {A : Option Addr} {l : List Sp} (h : SpOwn w B A c l) (hb : Below w.heap.size w w') : SpOwn w' B A c l := GOwn.ext h hb
theorem SpOwn.drew {w : World} {B c : Nat} {A : Option Addr} {l : List Sp} (h : SpOwn w B A c l) (n : Nat) : SpOwn (w.drewN n) B A c l := h
/-- one specimen of the row is stored -/
theorem SpOwn.put {w : World} {B c g i : Nat} {l : List Sp} (h : SpOwn w B (some ⟨g, 0, none⟩) c l) (hi : i < l.length) (x : Sp) {q : Nat} (hq : q = i * 7) :
    SpOwn ((((((((w).setCell ⟨g, q, none⟩ (.int .i64 x.id)).setCell ⟨g, q + 1, none⟩ (.int .i64 x.ob)).setCell ⟨g, q + 2, none⟩ (.int .i64 x.rv)).setCell ⟨g, q + 3, none⟩ (.int .i64 x.os)).setCell ⟨g, q + 4, none⟩ (.int .i64 x.rs)).setCell ⟨g, q + 5, none⟩ (.int .i64 x.ax)).setCell ⟨g, q + 6, none⟩ (.int .i64 x.wt)) B (some ⟨g, 0, none⟩) c (l.set i x) := by
  subst hq
  have hl : i < (l.map Sp.row).length := by rw [List.length_map]; exact hi
  obtain ⟨r, hr⟩ : ∃ r, (l.map Sp.row)[i]? = some r := ⟨_, List.getElem?_eq_getElem hl⟩
  have h7 : r.length = 7 := h.1 r (List.mem_of_getElem? hr)
  match r, h7 with
  | [r0, r1, r2, r3, r4, r5, r6], _ =>
    have key : ∀ {W : World} {rs : List (List Int)} {a : List Int} (_ : GOwn 7 40 W B (some ⟨g, 0, none⟩) c (rs.set i a)) (_ : i < rs.length) (j : Nat) (_ : j < 7) (n : Int), GOwn 7 40 (W.setCell ⟨g, i * 7 + j, none⟩ (.int .i64 n)) B (some ⟨g, 0, none⟩) c (rs.set i (a.set j n)) := fun {W rs a} H hi2 j hj n => by
      have := H.stored (i := i) (r := a) (by rw [List.getElem?_set_self hi2]) hj n
      rw [List.set_set] at this
      exact this
    have h0 := GOwn.stored h hr (j := 0) (by omega) x.id
    have h1 := key h0 hl 1 (by omega) x.ob
    have h2 := key h1 hl 2 (by omega) x.rv
    have h3 := key h2 hl 3 (by omega) x.os
    have h4 := key h3 hl 4 (by omega) x.rs
    have h5 := key h4 hl 5 (by omega) x.ax
    have h6 := key h5 hl 6 (by omega) x.wt
    have he : (l.set i x).map Sp.row = (l.map Sp.row).set i x.row := by rw [List.map_set]
    rw [SpOwn, he]
    exact h6
theorem bel_put7 {B : Nat} {w W : World} {g : Nat} (h : Below B w W) (hg : B ≤ g) (q : Nat) (x : Sp) : Below B w ((((((((W).setCell ⟨g, q, none⟩ (.int .i64 x.id)).setCell ⟨g, q + 1, none⟩ (.int .i64 x.ob)).setCell ⟨g, q + 2, none⟩ (.int .i64 x.rv)).setCell ⟨g, q + 3, none⟩ (.int .i64 x.os)).setCell ⟨g, q + 4, none⟩ (.int .i64 x.rs)).setCell ⟨g, q + 5, none⟩ (.int .i64 x.ax)).setCell ⟨g, q + 6, none⟩ (.int .i64 x.wt)) :=
  ((((((h.setCell (p := ⟨g, q, none⟩) hg _).setCell (p := ⟨g, q + 1, none⟩) hg _).setCell (p := ⟨g, q + 2, none⟩) hg _).setCell (p := ⟨g, q + 3, none⟩) hg _).setCell (p := ⟨g, q + 4, none⟩) hg _).setCell (p := ⟨g, q + 5, none⟩) hg _).setCell (p := ⟨g, q + 6, none⟩) hg _
/-- a sorted list, or an error -/
def RetSp (w : World) (l : List Sp) (E : Int) (e : Ending) (w' : World) : Prop := ∃ (A : Option Addr) (c : Nat) (o : List Sp), e = .returned (.tuple #[.slice A o.length c, .int .i64 E]) ∧ SpS w' A o ∧ o.length ≤ 9223372036854775807 ∧ Hid (E = 0 → o.Perm l ∧ (o.map Sp.id).Pairwise (· ≤ ·)) ∧ Hid (E ≠ 0 → o = []) ∧ Below w.heap.size w w'
theorem upto_pair {o : List Sp} {n : Nat} (h : Upto (o.map Sp.id) n) (hn : o.length ≤ n) : (o.map Sp.id).Pairwise (· ≤ ·) := List.pairwise_iff_getElem.2 fun i j hi hj hij => by
  have := h i j hij (by rw [List.length_map] at hj; omega)
  rwa [at0, at0, List.getElem?_eq_getElem hi, List.getElem?_eq_getElem hj] at this
set_option maxHeartbeats 8000000 in
set_option maxRecDepth 100000 in
theorem rsort09_any {E : Int} (A : Option Addr) (c : Nat) (l : List Sp) (w : World) (H : SpS w A l) (hl : l.length ≤ 9223372036854775807) (hE : Hid (ChkS l E)) :
    Calls Tryz.prog 103 #[.slice A l.length c] w (RetSp w l E) := by
  have hchk := rcheck09_any A c l w H hl hE
  by_cases hE0 : E = 0
  · subst hE0
    have hl64 : l.length ≤ 64 := by
      rcases hE.out with ⟨_, h⟩ | ⟨_, _, h⟩ | ⟨_, _, _, h⟩ | ⟨h, _⟩
      · cases h
      · cases h
      · cases h
      · exact h
    clear hE
    go_enter Tryz.func103, Tryz.ntmps103
    go_wp2_with fail
    refine hchk.mono ?_
    rintro e w1 ⟨rfl, hb0⟩
    clear hchk
    have H1 := (SpS.ext H (hb0.trans (Below.mono (below_alloc w1 (.cells #[] 40)) hb0.size))).gs
    have hbw := hb0.trans (Below.mono (below_alloc w1 (.cells #[] 40)) hb0.size)
    have HL := GOwn.lit w1 (B := w.heap.size) hb0.size 40 [] #[] (Wd.nil 7) rfl (by simp)
    clear H hb0
    go_wp2_with (at_builtin; refine wp_gpushes Tryz.underlying22 sp_info rfl (by decide) _ rfl _ _ rfl rfl rfl HL H1 rfl (by rw [List.length_map]) (by simp; omega) (by decide) hbw.size ?_)
    intro A9 c9 w2 HO _ hb2
    replace hbw := hbw.trans hb2

    replace HO : SpOwn w2 w.heap.size A9 c9 l := HO
    clear HL H1 hb2
    have hp0 := Lib.hid (List.Perm.refl l)
    have hu0 := Lib.hid (Upto.one (l.map Sp.id))
    go_wp2
    go_loopg [6] l.length (fun g u wr => ∃ (i : Nat) (o : List Sp), l.length ≤ i + g ∧ 1 ≤ i ∧ (i ≤ l.length ∨ i = 1) ∧ u = .int .i64 (i : Int) ∧ Hid (o.Perm l) ∧ Hid (Upto (o.map Sp.id) i) ∧ SpOwn wr w.heap.size A9 c9 o ∧ Below w.heap.size w wr)
    case atStart => exact ⟨1, l, by omega, by omega, .inr rfl, rfl, hp0, hu0, HO, hbw⟩
    case round =>
      clear HO hbw hp0 hu0
      obtain ⟨i, o, hi, hi1, hi2, rfl, hp, hu, HO, hbw⟩ := hrel
      by_cases hi0 : i < l.length
      · have hs0 := Lib.hid hu.out.start
        clear hu
        go_wp2
        go_loopg [7] i (fun g u wr => ∃ (k : Nat) (o : List Sp), g = k ∧ k ≤ i ∧ u = .int .i64 (k : Int) ∧ Hid (o.Perm l) ∧ Hid (Ins (o.map Sp.id) i k) ∧ SpOwn wr w.heap.size A9 c9 o ∧ Below w.heap.size w wr)
        case atStart => exact ⟨i, o, rfl, Nat.le_refl _, rfl, hp, hs0, HO, hbw⟩
        case round =>
          clear HO hbw hp hs0
          obtain ⟨k, o, hgk, hki, rfl, hp, hs, HO, hbw⟩ := hrel
          by_cases hk0 : k = 0
          · subst hk0
            have hnx := Lib.hid hs.out.zero
            clear hs
            go_upto_region 9 with fail
            go_quiet (fail)
            go_wp2
            go_roundg (l.length - (i + 1))
            case measure => omega
            case rel => exact ⟨i + 1, o, by omega, by omega, .inl (by omega), by go_num, hp, hnx, HO, drew_below hbw _⟩
          · obtain ⟨k, rfl⟩ : ∃ j, k = j + 1 := ⟨k - 1, by omega⟩
            have hol : o.length = l.length := hp.out.length_eq
            obtain ⟨g, rfl, hg9⟩ := GOwn.block HO (by rw [List.length_map]; omega)
            have HG := HO.gs
            obtain ⟨x, hx⟩ : ∃ x, Hid (o[k + 1]? = some x) := ⟨_, Lib.hid (List.getElem?_eq_getElem (by omega))⟩
            obtain ⟨y, hy⟩ : ∃ y, Hid (o[k]? = some y) := ⟨_, Lib.hid (List.getElem?_eq_getElem (by omega))⟩
            have hxr : (o.map Sp.row)[k + 1]? = some x.row := by rw [List.getElem?_map, hx.out]; rfl
            have hyr : (o.map Sp.row)[k]? = some y.row := by rw [List.getElem?_map, hy.out]; rfl
            have hpx := at0_id hx.out
            have hpy := at0_id hy.out
            have cx0 := HG.at0 hxr (n := x.id) rfl rfl
            have cx1 := HG.at1 hxr (j := 1) (n := x.ob) rfl (by decide) rfl
            have cx2 := HG.at1 hxr (j := 2) (n := x.rv) rfl (by decide) rfl
            have cx3 := HG.at1 hxr (j := 3) (n := x.os) rfl (by decide) rfl
            have cx4 := HG.at1 hxr (j := 4) (n := x.rs) rfl (by decide) rfl
            have cx5 := HG.at1 hxr (j := 5) (n := x.ax) rfl (by decide) rfl
            have cx6 := HG.at1 hxr (j := 6) (n := x.wt) rfl (by decide) rfl
            have cy0 := HG.at0 hyr (n := y.id) rfl rfl
            have cy1 := HG.at1 hyr (j := 1) (n := y.ob) rfl (by decide) rfl
            have cy2 := HG.at1 hyr (j := 2) (n := y.rv) rfl (by decide) rfl
            have cy3 := HG.at1 hyr (j := 3) (n := y.os) rfl (by decide) rfl
            have cy4 := HG.at1 hyr (j := 4) (n := y.rs) rfl (by decide) rfl
            have cy5 := HG.at1 hyr (j := 5) (n := y.ax) rfl (by decide) rfl
            have cy6 := HG.at1 hyr (j := 6) (n := y.wt) rfl (by decide) rfl
            simp only [Addr.add_lit, Nat.zero_add] at cx0 cy0 cx1 cy1 cx2 cy2 cx3 cy3 cx4 cy4 cx5 cy5 cx6 cy6
            clear hxr hyr HG
            have hfz := fun j => GOwn.frozen HO j
            have hkp : (0 : Int) < ((k + 1 : Nat) : Int) := by omega
            have hk1 : ((k + 1 : Nat) : Int) < (l.length : Int) := by omega
            obtain ⟨kx, hkx⟩ : ∃ q, q = (k + 1) * 7 := ⟨_, rfl⟩
            obtain ⟨ky, hky⟩ : ∃ q, q = k * 7 := ⟨_, rfl⟩
            by_cases hlt : x.id < y.id
            · have hd : decide (x.id < y.id) = true := decide_eq_true hlt
              have hnp := Lib.hid ((swS_perm (k := k + 1) (by omega) hx.out hy.out).trans hp.out)
              have hns := Lib.hid (show Ins ((swS o (k + 1) x y).map Sp.id) i k by
                rw [swS_ids hx.out hy.out]
                exact hs.out.step (by omega) (by rw [List.length_map]; omega) (by omega) (by rw [hpx, show k + 1 - 1 = k from rfl, hpy]; exact hlt))
              clear hs hlt hpx hpy
              go_upto_region 9 with fail
              go_quiet (fail)
              have HOD : SpOwn (wr.drewN nq) w.heap.size (some ⟨g, 0, none⟩) c9 o := HO
              have hbd : Below w.heap.size w (wr.drewN nq) := drew_below hbw nq
              replace cx0 : (wr.drewN nq).cell? _ = _ := cx0
              replace cx1 : (wr.drewN nq).cell? _ = _ := cx1
              replace cx2 : (wr.drewN nq).cell? _ = _ := cx2
              replace cx3 : (wr.drewN nq).cell? _ = _ := cx3
              replace cx4 : (wr.drewN nq).cell? _ = _ := cx4
              replace cx5 : (wr.drewN nq).cell? _ = _ := cx5
              replace cx6 : (wr.drewN nq).cell? _ = _ := cx6
              replace cy0 : (wr.drewN nq).cell? _ = _ := cy0
              replace cy1 : (wr.drewN nq).cell? _ = _ := cy1
              replace cy2 : (wr.drewN nq).cell? _ = _ := cy2
              replace cy3 : (wr.drewN nq).cell? _ = _ := cy3
              replace cy4 : (wr.drewN nq).cell? _ = _ := cy4
              replace cy5 : (wr.drewN nq).cell? _ = _ := cy5
              replace cy6 : (wr.drewN nq).cell? _ = _ := cy6
              replace hfz : ∀ j, (wr.drewN nq).frozen? _ = _ := hfz
              clear HO hbw
              generalize wr.drewN nq = W8 at *
              go_upto_region 11 with fail
              go_region
              have HON : SpOwn (((((((((((((((W8).setCell ⟨g, (k + 1) * 7, none⟩ (.int .i64 y.id)).setCell ⟨g, (k + 1) * 7 + 1, none⟩ (.int .i64 y.ob)).setCell ⟨g, (k + 1) * 7 + 2, none⟩ (.int .i64 y.rv)).setCell ⟨g, (k + 1) * 7 + 3, none⟩ (.int .i64 y.os)).setCell ⟨g, (k + 1) * 7 + 4, none⟩ (.int .i64 y.rs)).setCell ⟨g, (k + 1) * 7 + 5, none⟩ (.int .i64 y.ax)).setCell ⟨g, (k + 1) * 7 + 6, none⟩ (.int .i64 y.wt)).setCell ⟨g, k * 7, none⟩ (.int .i64 x.id)).setCell ⟨g, k * 7 + 1, none⟩ (.int .i64 x.ob)).setCell ⟨g, k * 7 + 2, none⟩ (.int .i64 x.rv)).setCell ⟨g, k * 7 + 3, none⟩ (.int .i64 x.os)).setCell ⟨g, k * 7 + 4, none⟩ (.int .i64 x.rs)).setCell ⟨g, k * 7 + 5, none⟩ (.int .i64 x.ax)).setCell ⟨g, k * 7 + 6, none⟩ (.int .i64 x.wt)).drew w.heap.size (some ⟨g, 0, none⟩) c9 (swS o (k + 1) x y) := SpOwn.drew ((HOD.put (i := k + 1) (by omega) y rfl).put (i := k) (by rw [List.length_set]; omega) x rfl) 1
              have hbn : Below w.heap.size w (((((((((((((((W8).setCell ⟨g, (k + 1) * 7, none⟩ (.int .i64 y.id)).setCell ⟨g, (k + 1) * 7 + 1, none⟩ (.int .i64 y.ob)).setCell ⟨g, (k + 1) * 7 + 2, none⟩ (.int .i64 y.rv)).setCell ⟨g, (k + 1) * 7 + 3, none⟩ (.int .i64 y.os)).setCell ⟨g, (k + 1) * 7 + 4, none⟩ (.int .i64 y.rs)).setCell ⟨g, (k + 1) * 7 + 5, none⟩ (.int .i64 y.ax)).setCell ⟨g, (k + 1) * 7 + 6, none⟩ (.int .i64 y.wt)).setCell ⟨g, k * 7, none⟩ (.int .i64 x.id)).setCell ⟨g, k * 7 + 1, none⟩ (.int .i64 x.ob)).setCell ⟨g, k * 7 + 2, none⟩ (.int .i64 x.rv)).setCell ⟨g, k * 7 + 3, none⟩ (.int .i64 x.os)).setCell ⟨g, k * 7 + 4, none⟩ (.int .i64 x.rs)).setCell ⟨g, k * 7 + 5, none⟩ (.int .i64 x.ax)).setCell ⟨g, k * 7 + 6, none⟩ (.int .i64 x.wt)).drew := drew_below (bel_put7 (bel_put7 hbd hg9 _ _) hg9 _ _) 1
              generalize (((((((((((((((W8).setCell ⟨g, (k + 1) * 7, none⟩ (.int .i64 y.id)).setCell ⟨g, (k + 1) * 7 + 1, none⟩ (.int .i64 y.ob)).setCell ⟨g, (k + 1) * 7 + 2, none⟩ (.int .i64 y.rv)).setCell ⟨g, (k + 1) * 7 + 3, none⟩ (.int .i64 y.os)).setCell ⟨g, (k + 1) * 7 + 4, none⟩ (.int .i64 y.rs)).setCell ⟨g, (k + 1) * 7 + 5, none⟩ (.int .i64 y.ax)).setCell ⟨g, (k + 1) * 7 + 6, none⟩ (.int .i64 y.wt)).setCell ⟨g, k * 7, none⟩ (.int .i64 x.id)).setCell ⟨g, k * 7 + 1, none⟩ (.int .i64 x.ob)).setCell ⟨g, k * 7 + 2, none⟩ (.int .i64 x.rv)).setCell ⟨g, k * 7 + 3, none⟩ (.int .i64 x.os)).setCell ⟨g, k * 7 + 4, none⟩ (.int .i64 x.rs)).setCell ⟨g, k * 7 + 5, none⟩ (.int .i64 x.ax)).setCell ⟨g, k * 7 + 6, none⟩ (.int .i64 x.wt)).drew = W9 at *
              clear HOD hbd hfz hx hy cx0 cx1 cx2 cx3 cx4 cx5 cx6 cy0 cy1 cy2 cy3 cy4 cy5 cy6
              go_wp2
              go_roundg k
              case measure => omega
              case rel => exact ⟨k, swS o (k + 1) x y, rfl, by omega, by go_num, hnp, hns, HON, hbn⟩
            · have hd : decide (x.id < y.id) = false := decide_eq_false hlt
              have hnx := Lib.hid (hs.out.stop (by omega) (by rw [hpx, show k + 1 - 1 = k from rfl, hpy]; exact hlt) hki)
              clear hs hlt hpx hpy
              go_upto_region 9 with fail
              go_quiet (fail)
              go_wp2
              go_roundg (l.length - (i + 1))
              case measure => omega
              case rel => exact ⟨i + 1, o, by omega, by omega, .inl (by omega), by go_num, hp, hnx, HO, drew_below hbw _⟩
      · have hol : o.length = l.length := hp.out.length_eq
        have hfin := Lib.hid (show o.Perm l ∧ (o.map Sp.id).Pairwise (· ≤ ·) from ⟨hp.out, upto_pair hu.out (by omega)⟩)
        clear hu hp
        have hss := HO.sps
        go_wp2
        go_ret2
        exact ⟨A9, c9, o, by rw [hol]; rfl, hss, by omega, Lib.hid fun _ => hfin.out, Lib.hid fun h => absurd rfl h, hbw⟩
  · have he2 : (E != 0) = true := bne_iff_ne.2 hE0
    replace hE0 := Lib.hid hE0
    clear hE
    go_enter Tryz.func103, Tryz.ntmps103
    go_wp2_with fail
    refine hchk.mono ?_
    rintro e w1 ⟨rfl, hb0⟩
    go_wp2
    go_ret2
    exact ⟨none, 0, [], rfl, fun h => absurd h (by simp), by simp, Lib.hid fun h => absurd h hE0.out, Lib.hid fun _ => rfl, hb0⟩
end Go.Proofs.YtolkijelldlmeaaGreatDoor
