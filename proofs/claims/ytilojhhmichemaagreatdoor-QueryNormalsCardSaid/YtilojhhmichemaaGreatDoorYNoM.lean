/- The statement QueryNormals, walked. -/
import Derived.Test.YtilojhhmichemaaGreatDoorYScM
import Derived.Test.YtilojhhmichemaaGreatDoorYPqM
import Derived.Test.YtilojhhmichemaaGreatDoorYAwM
namespace Go.Proofs.YtilojhhmichemaaGreatDoor
open Go.RowKit Go.Proofs Go

set_option maxHeartbeats 4000000 in
set_option maxRecDepth 100000 in
theorem rcount_any : ∀ (t : TT) (bi : Int) (b : Nat) (w : World), Hid (bi = (b : Int)) → b ≤ 100000 → t.Mem w →
    Calls Tryz.prog 34 #[t.val, .int .i64 bi] w (RetI w (t.tm.cnt b : Nat)) := by
  refine fun t => TT.ind (P := fun t => ∀ (bi : Int) (b : Nat) (w : World), Hid (bi = (b : Int)) → b ≤ 100000 → t.Mem w → Calls Tryz.prog 34 #[t.val, .int .i64 bi] w (RetI w (t.tm.cnt b : Nat))) (fun t ih0 bi b w hbi hb HM0 => ?_) t
  obtain ⟨k, f, o, v, A, c, ks⟩ := t
  obtain ⟨HK0, hl, HM⟩ := HM0.kids
  clear HM0
  have ih : ∀ x ∈ ks, ∀ (bi : Int) (b : Nat) (w : World), Hid (bi = (b : Int)) → b ≤ 100000 → x.Mem w → Calls Tryz.prog 34 #[x.val, .int .i64 bi] w (RetI w (x.tm.cnt b : Nat)) := ih0
  clear ih0
  show Calls _ _ #[.agg #[.int .i64 k, .int .i64 f, .int .i64 o, .int .i64 v, .slice A ks.length c], .int .i64 bi] w _
  have hres := Lib.hid (show (TT.mk k f o v A c ks).tm.cnt b = Tm.cntL (ks.map TT.tm) b by rw [TT.tm_mk, Tm.cnt_mk])
  rw [hres.out]
  have h0 := Lib.hid (show Tm.cntL (TT.pre ks 0) b = 1 from Tm.cntL_nil b)
  have HX := BL.one w #[.int .i64 k, .int .i64 f, .int .i64 o, .int .i64 v, .slice A ks.length c] 24
  go_enter Tryz.func34, Tryz.ntmps34
  go_upto_region 1 with fail
  generalize w.alloc (.cells #[.int .i64 k, .int .i64 f, .int .i64 o, .int .i64 v, .slice A ks.length c] 24) = W0 at *
  go_wp2
  go_loopg [5, 6] ks.length (fun g n i wr => ∃ (j m : Nat), j + g = ks.length ∧ i = .int .i64 (j : Int) ∧ n = .int .i64 (m : Int) ∧ Hid (Tm.cntL (TT.pre ks j) b = m) ∧ BL w wr [(w.heap.size, #[.int .i64 k, .int .i64 f, .int .i64 o, .int .i64 v, .slice A ks.length c], 24)])
  case atStart => exact ⟨0, 1, by omega, rfl, rfl, h0, HX⟩
  case round =>
    clear HX h0
    obtain ⟨j, m, hj, rfl, rfl, hm, HX⟩ := hrel
    have HK := HK0.ext HX.below
    have hmb := Lib.hid (show m ≤ b + 1 by rw [← hm.out, Tm.cntL]; omega)
    have hc04 := HX.cell 0 4 rfl rfl
    try simp only [List.getElem_toArray, List.getElem_cons_zero, List.getElem_cons_succ] at hc04
    by_cases hjl : j < ks.length
    · obtain ⟨x, hx⟩ : ∃ x, Hid (ks[j]? = some x) := ⟨_, Lib.hid (List.getElem?_eq_getElem hjl)⟩
      have hxm : x ∈ ks := List.mem_of_getElem? hx.out
      obtain ⟨ad, rfl, hadb, e0, e1, e2, e3, e4⟩ := HK.at_ hx.out
      by_cases hmB : m ≤ b
      · have hd : decide ((m : Int) ≤ bi) = true := decide_eq_true (by rw [hbi.out]; omega)
        obtain ⟨d, hd2⟩ : ∃ d : Int, Hid (bi - (m : Int) = d) := ⟨_, Lib.hid rfl⟩
        have hdn := Lib.hid (show d = ((b - m : Nat) : Int) by rw [← hd2.out, hbi.out]; omega)
        obtain ⟨s, hs⟩ : ∃ s, Hid (x.tm.cnt (b - m) = s) := ⟨_, Lib.hid rfl⟩
        have hnext := Lib.hid (show Tm.cntL (TT.pre ks (j + 1)) b = m + s by rw [TT.pre_succ hx.out, Tm.cntL_snoc (by rw [hm.out]; exact hmB), hm.out, hs.out])
        have hsb := Lib.hid (show s ≤ b - m + 1 by rw [← hs.out, Tm.cnt]; omega)
        have hmI : (m : Int) ≤ bi := by rw [hbi.out]; omega
        have hbI : bi ≤ 100000 := by rw [hbi.out]; omega
        go_wp2_with fail
        rw [hd2.out]
        refine (ih x hxm d (b - m) _ hdn (by omega) ((HM x hxm).ext HX.below)).mono ?_
        rw [hs.out]
        rintro e w5 ⟨rfl, hb5⟩
        replace HX := HX.ext hb5
        clear hb5 hc04
        have hsb2 := hsb.out
        go_wp2
        go_roundg (ks.length - (j + 1))
        case measure => omega
        case rel => exact ⟨j + 1, m + s, by omega, by go_num, by go_num, hnext, HX⟩
      · have hd : decide ((m : Int) ≤ bi) = false := decide_eq_false (by rw [hbi.out]; omega)
        have hfin := Lib.hid (show Tm.cntL (ks.map TT.tm) b = m by rw [TT.pre_split ks j, Tm.cntL_stop (by rw [hm.out]; exact hmB), hm.out])
        go_wp2
        go_ret
        exact ⟨by rw [hfin.out]; rfl, HX.below⟩
    · obtain rfl : j = ks.length := by omega
      have hfin := Lib.hid (show Tm.cntL (ks.map TT.tm) b = m by rw [← TT.pre_all, hm.out])
      go_wp2
      go_ret
      exact ⟨by rw [hfin.out]; rfl, HX.below⟩
set_option maxHeartbeats 1000000 in
set_option maxRecDepth 100000 in
theorem rfew_any {b : Bool} (t : TT) (w : World) (HM : t.Mem w) (hb : Tells b (t.tm.size ≤ 60)) : Calls Tryz.prog 11 #[t.val, .int .i64 60] w (RetB w b) := by
  have HX := BL.one w #[.int .i64 t.k, .int .i64 t.f, .int .i64 t.o, .int .i64 t.v, .slice t.A t.ks.length t.c] 24
  replace HM := TT.Mem.ext HX.below HM
  obtain ⟨s, hs⟩ : ∃ s, Hid (t.tm.cnt 60 = s) := ⟨_, Lib.hid rfl⟩
  have hd : decide ((s : Int) ≤ 60) = b := by
    rw [← Tm.cnt_le, hs.out] at hb
    cases b with
    | true => exact decide_eq_true (by have := hb.1 rfl; omega)
    | false => exact decide_eq_false (fun h => by have := hb.2 (by omega); cases this)
  have c1 := rcount_any t 60 60 _ (Lib.hid rfl) (by omega) HM
  rw [hs.out] at c1
  show Calls _ _ #[.agg #[.int .i64 t.k, .int .i64 t.f, .int .i64 t.o, .int .i64 t.v, .slice t.A t.ks.length t.c], _] w _
  go_enter Tryz.func11, Tryz.ntmps11
  go_upto_region 1 with fail
  generalize w.alloc (.cells #[.int .i64 t.k, .int .i64 t.f, .int .i64 t.o, .int .i64 t.v, .slice t.A t.ks.length t.c] 24) = W0 at *
  have hc00 := HX.cell 0 0 rfl rfl
  have hc01 := HX.cell 0 1 rfl rfl
  have hc02 := HX.cell 0 2 rfl rfl
  have hc03 := HX.cell 0 3 rfl rfl
  have hc04 := HX.cell 0 4 rfl rfl
  try simp only [List.getElem_toArray, List.getElem_cons_zero, List.getElem_cons_succ] at hc00 hc01 hc02 hc03 hc04
  go_wp2_with fail
  refine c1.mono ?_
  rintro e w5 ⟨rfl, hb5⟩
  replace HX := HX.ext hb5
  go_wp2
  go_ret
  exact ⟨by first | rfl | (rw [hd]; rfl), HX.below⟩
set_option maxHeartbeats 4000000 in
set_option maxRecDepth 100000 in
theorem rplain_any : ∀ (t : TT) (b : Bool) (w : World), t.Mem w → Tells b t.tm.plain →
    Calls Tryz.prog 32 #[t.val] w (RetB w b) := by
  refine fun t => TT.ind (P := fun t => ∀ (b : Bool) (w : World), t.Mem w → Tells b t.tm.plain → Calls Tryz.prog 32 #[t.val] w (RetB w b)) (fun t ih0 b w HM0 hb => ?_) t
  obtain ⟨k, f, o, v, A, c, ks⟩ := t
  obtain ⟨HK0, hl, HM⟩ := HM0.kids
  clear HM0
  have ih : ∀ x ∈ ks, ∀ (b : Bool) (w : World), x.Mem w → Tells b x.tm.plain → Calls Tryz.prog 32 #[x.val] w (RetB w b) := ih0
  clear ih0
  show Calls _ _ #[.agg #[.int .i64 k, .int .i64 f, .int .i64 o, .int .i64 v, .slice A ks.length c]] w _
  rw [TT.tm_mk, Tm.plain, Tm.plainL_iff] at hb
  have HX := BL.one w #[.int .i64 k, .int .i64 f, .int .i64 o, .int .i64 v, .slice A ks.length c] 24
  go_enter Tryz.func32, Tryz.ntmps32
  go_upto_region 1 with fail
  generalize w.alloc (.cells #[.int .i64 k, .int .i64 f, .int .i64 o, .int .i64 v, .slice A ks.length c] 24) = W0 at *
  go_wp2
  go_loopg [3] ks.length (fun g i wr => ∃ (j : Nat), j + g = ks.length ∧ i = .int .i64 (j : Int) ∧ Hid (∀ y ∈ ks.take j, y.tm.plain) ∧ BL w wr [(w.heap.size, #[.int .i64 k, .int .i64 f, .int .i64 o, .int .i64 v, .slice A ks.length c], 24)])
  case atStart => exact ⟨0, by omega, rfl, Lib.hid (by simp), HX⟩
  case round =>
    clear HX
    obtain ⟨j, hj, rfl, hp, HX⟩ := hrel
    have HK := HK0.ext HX.below
    have hc00 := HX.cell 0 0 rfl rfl
    have hc04 := HX.cell 0 4 rfl rfl
    try simp only [List.getElem_toArray, List.getElem_cons_zero, List.getElem_cons_succ] at hc00 hc04
    by_cases hjl : j < ks.length
    · obtain ⟨x, hx⟩ : ∃ x, Hid (ks[j]? = some x) := ⟨_, Lib.hid (List.getElem?_eq_getElem hjl)⟩
      have hxm : x ∈ ks := List.mem_of_getElem? hx.out
      obtain ⟨ad, rfl, hadb, e0, e1, e2, e3, e4⟩ := HK.at_ hx.out
      by_cases hxp : x.tm.plain
      · have yp := yes hxp
        have hp2 := Lib.hid (show ∀ y ∈ ks.take (j + 1), y.tm.plain from fun y hy => by
          obtain ⟨hi, h2⟩ := List.getElem?_eq_some_iff.1 hx.out
          rw [List.take_succ_eq_append_getElem hi, h2] at hy
          rcases List.mem_append.1 hy with h | h
          · exact hp.out y h
          · rw [List.mem_singleton.1 h]; exact hxp)
        clear hxp
        go_wp2_with fail
        refine (ih x hxm true _ ((HM x hxm).ext HX.below) yp).mono ?_
        rintro e w5 ⟨rfl, hb5⟩
        replace HX := HX.ext hb5
        clear hb5 hc00 hc04
        go_wp2
        go_roundg (ks.length - (j + 1))
        case measure => omega
        case rel => exact ⟨j + 1, by omega, by go_num, hp2, HX⟩
      · have yp := no hxp
        obtain rfl : b = false := hb.f fun h => hxp (h.2 _ (List.mem_map_of_mem hxm))
        clear hxp hb
        go_wp2_with fail
        refine (ih x hxm false _ ((HM x hxm).ext HX.below) yp).mono ?_
        rintro e w5 ⟨rfl, hb5⟩
        replace HX := HX.ext hb5
        go_wp2
        go_ret
        exact ⟨rfl, HX.below⟩
    · obtain rfl : j = ks.length := by omega
      rw [List.take_length] at hp
      have hfin := Lib.hid (show (k != 4) = b by
        cases b with
        | true => exact bne_iff_ne.2 (hb.1 rfl).1
        | false =>
          by_cases h4 : k = 4
          · rw [h4]; rfl
          · have := hb.2 ⟨h4, fun t ht => by
              obtain ⟨y, hy, rfl⟩ := List.mem_map.1 ht
              exact hp.out y hy⟩
            cases this)
      go_wp2
      go_ret
      exact ⟨by rw [← hfin.out]; rfl, HX.below⟩
set_option maxHeartbeats 8000000 in
set_option maxRecDepth 100000 in
theorem rsame_any : ∀ (t u : TT) (b : Bool) (w : World), t.Mem w → u.Mem w → Tells b (t.tm = u.tm) →
    Calls Tryz.prog 19 #[t.val, u.val] w (RetB w b) := by
  refine fun t => TT.ind (P := fun t => ∀ (u : TT) (b : Bool) (w : World), t.Mem w → u.Mem w → Tells b (t.tm = u.tm) → Calls Tryz.prog 19 #[t.val, u.val] w (RetB w b)) (fun t ih0 u b w HM0 HMu hb => ?_) t
  obtain ⟨k, f, o, v, A, c, ks⟩ := t
  obtain ⟨k2, f2, o2, v2, A2, c2, ks2⟩ := u
  obtain ⟨HK0, hl, HM⟩ := HM0.kids
  obtain ⟨HK20, hl2, HM2⟩ := HMu.kids
  clear HM0 HMu
  have ih : ∀ x ∈ ks, ∀ (u : TT) (b : Bool) (w : World), x.Mem w → u.Mem w → Tells b (x.tm = u.tm) → Calls Tryz.prog 19 #[x.val, u.val] w (RetB w b) := ih0
  clear ih0
  show Calls _ _ #[.agg #[.int .i64 k, .int .i64 f, .int .i64 o, .int .i64 v, .slice A ks.length c], .agg #[.int .i64 k2, .int .i64 f2, .int .i64 o2, .int .i64 v2, .slice A2 ks2.length c2]] w _
  have HX := BL.two w #[.int .i64 k, .int .i64 f, .int .i64 o, .int .i64 v, .slice A ks.length c] #[.int .i64 k2, .int .i64 f2, .int .i64 o2, .int .i64 v2, .slice A2 ks2.length c2] 24 24
  by_cases hk : k = k2
  · subst hk
    by_cases hf : f = f2
    · subst hf
      by_cases ho : o = o2
      · subst ho
        by_cases hv : v = v2
        · subst hv
          by_cases hn : ks.length = ks2.length
          · have hn2 := Lib.hid hn
            clear hn
            rw [hn2.out.symm] at HX ⊢
            go_enter Tryz.func19, Tryz.ntmps19
            go_upto_region 1 with fail
            generalize (w.alloc (.cells #[.int .i64 k, .int .i64 f, .int .i64 o, .int .i64 v, .slice A ks.length c] 24)).alloc (.cells #[.int .i64 k, .int .i64 f, .int .i64 o, .int .i64 v, .slice A2 ks.length c2] 24) = W0 at *
            have hc00 := HX.cell 0 0 rfl rfl
            have hc01 := HX.cell 0 1 rfl rfl
            have hc02 := HX.cell 0 2 rfl rfl
            have hc03 := HX.cell 0 3 rfl rfl
            have hc04 := HX.cell 0 4 rfl rfl
            try simp only [List.getElem_toArray, List.getElem_cons_zero, List.getElem_cons_succ] at hc00 hc01 hc02 hc03 hc04
            have hc10 := HX.cell 1 0 rfl rfl
            have hc11 := HX.cell 1 1 rfl rfl
            have hc12 := HX.cell 1 2 rfl rfl
            have hc13 := HX.cell 1 3 rfl rfl
            have hc14 := HX.cell 1 4 rfl rfl
            try simp only [List.getElem_toArray, List.getElem_cons_zero, List.getElem_cons_succ] at hc10 hc11 hc12 hc13 hc14
            go_wp2
            go_loopg [5] ks.length (fun g i wr => ∃ (j : Nat), j + g = ks.length ∧ i = .int .i64 (j : Int) ∧ Hid (TT.pre ks j = TT.pre ks2 j) ∧ BL w wr [(w.heap.size, #[.int .i64 k, .int .i64 f, .int .i64 o, .int .i64 v, .slice A ks.length c], 24), (w.heap.size + 1, #[.int .i64 k, .int .i64 f, .int .i64 o, .int .i64 v, .slice A2 ks.length c2], 24)])
            case atStart => exact ⟨0, by omega, rfl, Lib.hid rfl, HX⟩
            case round =>
              clear HX hc00 hc10 hc01 hc11 hc02 hc12 hc03 hc13 hc04 hc14
              obtain ⟨j, hj, rfl, hp, HX⟩ := hrel
              have HK := HK0.ext HX.below
              have HK2 := HK20.ext HX.below
              by_cases hjl : j < ks.length
              · obtain ⟨x, hx⟩ : ∃ x, Hid (ks[j]? = some x) := ⟨_, Lib.hid (List.getElem?_eq_getElem hjl)⟩
                have hxm : x ∈ ks := List.mem_of_getElem? hx.out
                obtain ⟨y, hy⟩ : ∃ y, Hid (ks2[j]? = some y) := ⟨_, Lib.hid (List.getElem?_eq_getElem (by have := hn2.out; omega))⟩
                have hym : y ∈ ks2 := List.mem_of_getElem? hy.out
                obtain ⟨ad, rfl, hadb, e0, e1, e2, e3, e4⟩ := HK.at_ hx.out
                obtain ⟨ad2, rfl, hadb2, g0, g1, g2, g3, g4⟩ := HK2.at_ hy.out
                by_cases hxy : x.tm = y.tm
                · have yp := yes hxy
                  have hp2 := Lib.hid (show TT.pre ks (j + 1) = TT.pre ks2 (j + 1) by rw [TT.pre_succ hx.out, TT.pre_succ hy.out, hp.out, hxy])
                  clear hxy
                  have hc04 := HX.cell 0 4 rfl rfl
                  try simp only [List.getElem_toArray, List.getElem_cons_zero, List.getElem_cons_succ] at hc04
                  have held : ∀ {W' : World}, BL w W' [(w.heap.size, #[.int .i64 k, .int .i64 f, .int .i64 o, .int .i64 v, .slice (some ad) ks.length c], 24), (w.heap.size + 1, #[.int .i64 k, .int .i64 f, .int .i64 o, .int .i64 v, .slice (some ad2) ks.length c2], 24)] → Below wr.heap.size wr W' → W'.cell? ⟨w.heap.size, 4, none⟩ = some (.slice (some ad) ks.length c) ∧ W'.cell? ⟨w.heap.size + 1, 4, none⟩ = some (.slice (some ad2) ks.length c2) ∧ W'.cell? (ad.add (j * 5)) = some (.int .i64 x.k) ∧ W'.cell? ⟨(ad.add (j * 5)).block, (ad.add (j * 5)).off + 1, none⟩ = some (.int .i64 x.f) ∧ W'.cell? ⟨(ad.add (j * 5)).block, (ad.add (j * 5)).off + 2, none⟩ = some (.int .i64 x.o) ∧ W'.cell? ⟨(ad.add (j * 5)).block, (ad.add (j * 5)).off + 3, none⟩ = some (.int .i64 x.v) ∧ W'.cell? ⟨(ad.add (j * 5)).block, (ad.add (j * 5)).off + 4, none⟩ = some (.slice x.A x.ks.length x.c) ∧ W'.cell? (ad2.add (j * 5)) = some (.int .i64 y.k) ∧ W'.cell? ⟨(ad2.add (j * 5)).block, (ad2.add (j * 5)).off + 1, none⟩ = some (.int .i64 y.f) ∧ W'.cell? ⟨(ad2.add (j * 5)).block, (ad2.add (j * 5)).off + 2, none⟩ = some (.int .i64 y.o) ∧ W'.cell? ⟨(ad2.add (j * 5)).block, (ad2.add (j * 5)).off + 3, none⟩ = some (.int .i64 y.v) ∧ W'.cell? ⟨(ad2.add (j * 5)).block, (ad2.add (j * 5)).off + 4, none⟩ = some (.slice y.A y.ks.length y.c) := fun h hb => ⟨h.cell 0 4 rfl rfl, h.cell 1 4 rfl rfl, cellup hb e0, cellup hb e1, cellup hb e2, cellup hb e3, cellup hb e4, cellup hb g0, cellup hb g1, cellup hb g2, cellup hb g3, cellup hb g4⟩
                  have HD := Below.refl wr.heap.size wr
                  go_upto_region 6 with fail
                  replace HX := HX.ext (drew_ext _)
                  replace HD := drew_below HD 1
                  have hxM2 := ((HM x hxm).ext HX.below)
                  have hyM2 := ((HM2 y hym).ext HX.below)
                  go_region_held3 (fun W' => W'.cell? ⟨w.heap.size, 4, none⟩ = some (.slice (some ad) ks.length c) ∧ W'.cell? ⟨w.heap.size + 1, 4, none⟩ = some (.slice (some ad2) ks.length c2) ∧ W'.cell? (ad.add (j * 5)) = some (.int .i64 x.k) ∧ W'.cell? ⟨(ad.add (j * 5)).block, (ad.add (j * 5)).off + 1, none⟩ = some (.int .i64 x.f) ∧ W'.cell? ⟨(ad.add (j * 5)).block, (ad.add (j * 5)).off + 2, none⟩ = some (.int .i64 x.o) ∧ W'.cell? ⟨(ad.add (j * 5)).block, (ad.add (j * 5)).off + 3, none⟩ = some (.int .i64 x.v) ∧ W'.cell? ⟨(ad.add (j * 5)).block, (ad.add (j * 5)).off + 4, none⟩ = some (.slice x.A x.ks.length x.c) ∧ W'.cell? (ad2.add (j * 5)) = some (.int .i64 y.k) ∧ W'.cell? ⟨(ad2.add (j * 5)).block, (ad2.add (j * 5)).off + 1, none⟩ = some (.int .i64 y.f) ∧ W'.cell? ⟨(ad2.add (j * 5)).block, (ad2.add (j * 5)).off + 2, none⟩ = some (.int .i64 y.o) ∧ W'.cell? ⟨(ad2.add (j * 5)).block, (ad2.add (j * 5)).off + 3, none⟩ = some (.int .i64 y.v) ∧ W'.cell? ⟨(ad2.add (j * 5)).block, (ad2.add (j * 5)).off + 4, none⟩ = some (.slice y.A y.ks.length y.c))
                    (exact held HX HD)
                    (first
                      | (go_at_call 19; refine (ih x hxm y true _ hxM2 hyM2 yp).mono ?_; rintro e wz ⟨rfl, hb⟩; replace HX := HX.ext hb; replace HD := bel_trans HD hb; replace hxM2 := hxM2.ext hb; replace hyM2 := hyM2.ext hb; clear hb))
                  all_goals (
                    go_wp2
                    go_roundg (ks.length - (j + 1))
                    case measure => omega
                    case rel => exact ⟨j + 1, by omega, by go_num, hp2, HX⟩)
                · have yp := no hxy
                  obtain rfl : b = false := hb.f fun h => hxy (by
                    rw [TT.tm_mk, TT.tm_mk] at h
                    injection h with _ _ _ _ h
                    have h2 : (ks.map TT.tm)[j]? = (ks2.map TT.tm)[j]? := by rw [h]
                    rw [List.getElem?_map, List.getElem?_map, hx.out, hy.out] at h2
                    exact Option.some.inj h2)
                  clear hxy hb
                  have hc04 := HX.cell 0 4 rfl rfl
                  try simp only [List.getElem_toArray, List.getElem_cons_zero, List.getElem_cons_succ] at hc04
                  have held : ∀ {W' : World}, BL w W' [(w.heap.size, #[.int .i64 k, .int .i64 f, .int .i64 o, .int .i64 v, .slice (some ad) ks.length c], 24), (w.heap.size + 1, #[.int .i64 k, .int .i64 f, .int .i64 o, .int .i64 v, .slice (some ad2) ks.length c2], 24)] → Below wr.heap.size wr W' → W'.cell? ⟨w.heap.size, 4, none⟩ = some (.slice (some ad) ks.length c) ∧ W'.cell? ⟨w.heap.size + 1, 4, none⟩ = some (.slice (some ad2) ks.length c2) ∧ W'.cell? (ad.add (j * 5)) = some (.int .i64 x.k) ∧ W'.cell? ⟨(ad.add (j * 5)).block, (ad.add (j * 5)).off + 1, none⟩ = some (.int .i64 x.f) ∧ W'.cell? ⟨(ad.add (j * 5)).block, (ad.add (j * 5)).off + 2, none⟩ = some (.int .i64 x.o) ∧ W'.cell? ⟨(ad.add (j * 5)).block, (ad.add (j * 5)).off + 3, none⟩ = some (.int .i64 x.v) ∧ W'.cell? ⟨(ad.add (j * 5)).block, (ad.add (j * 5)).off + 4, none⟩ = some (.slice x.A x.ks.length x.c) ∧ W'.cell? (ad2.add (j * 5)) = some (.int .i64 y.k) ∧ W'.cell? ⟨(ad2.add (j * 5)).block, (ad2.add (j * 5)).off + 1, none⟩ = some (.int .i64 y.f) ∧ W'.cell? ⟨(ad2.add (j * 5)).block, (ad2.add (j * 5)).off + 2, none⟩ = some (.int .i64 y.o) ∧ W'.cell? ⟨(ad2.add (j * 5)).block, (ad2.add (j * 5)).off + 3, none⟩ = some (.int .i64 y.v) ∧ W'.cell? ⟨(ad2.add (j * 5)).block, (ad2.add (j * 5)).off + 4, none⟩ = some (.slice y.A y.ks.length y.c) := fun h hb => ⟨h.cell 0 4 rfl rfl, h.cell 1 4 rfl rfl, cellup hb e0, cellup hb e1, cellup hb e2, cellup hb e3, cellup hb e4, cellup hb g0, cellup hb g1, cellup hb g2, cellup hb g3, cellup hb g4⟩
                  have HD := Below.refl wr.heap.size wr
                  go_upto_region 6 with fail
                  replace HX := HX.ext (drew_ext _)
                  replace HD := drew_below HD 1
                  have hxM2 := ((HM x hxm).ext HX.below)
                  have hyM2 := ((HM2 y hym).ext HX.below)
                  go_region_held3 (fun W' => W'.cell? ⟨w.heap.size, 4, none⟩ = some (.slice (some ad) ks.length c) ∧ W'.cell? ⟨w.heap.size + 1, 4, none⟩ = some (.slice (some ad2) ks.length c2) ∧ W'.cell? (ad.add (j * 5)) = some (.int .i64 x.k) ∧ W'.cell? ⟨(ad.add (j * 5)).block, (ad.add (j * 5)).off + 1, none⟩ = some (.int .i64 x.f) ∧ W'.cell? ⟨(ad.add (j * 5)).block, (ad.add (j * 5)).off + 2, none⟩ = some (.int .i64 x.o) ∧ W'.cell? ⟨(ad.add (j * 5)).block, (ad.add (j * 5)).off + 3, none⟩ = some (.int .i64 x.v) ∧ W'.cell? ⟨(ad.add (j * 5)).block, (ad.add (j * 5)).off + 4, none⟩ = some (.slice x.A x.ks.length x.c) ∧ W'.cell? (ad2.add (j * 5)) = some (.int .i64 y.k) ∧ W'.cell? ⟨(ad2.add (j * 5)).block, (ad2.add (j * 5)).off + 1, none⟩ = some (.int .i64 y.f) ∧ W'.cell? ⟨(ad2.add (j * 5)).block, (ad2.add (j * 5)).off + 2, none⟩ = some (.int .i64 y.o) ∧ W'.cell? ⟨(ad2.add (j * 5)).block, (ad2.add (j * 5)).off + 3, none⟩ = some (.int .i64 y.v) ∧ W'.cell? ⟨(ad2.add (j * 5)).block, (ad2.add (j * 5)).off + 4, none⟩ = some (.slice y.A y.ks.length y.c))
                    (exact held HX HD)
                    (first
                      | (go_at_call 19; refine (ih x hxm y false _ hxM2 hyM2 yp).mono ?_; rintro e wz ⟨rfl, hb⟩; replace HX := HX.ext hb; replace HD := bel_trans HD hb; replace hxM2 := hxM2.ext hb; replace hyM2 := hyM2.ext hb; clear hb))
                  all_goals (
                    go_wp2
                    go_ret
                    exact ⟨rfl, HX.below⟩)
              · obtain rfl : j = ks.length := by omega
                obtain rfl : b = true := hb.t (by
                  have h := hp.out
                  rw [TT.pre_all, hn2.out, TT.pre_all] at h
                  rw [TT.tm_mk, TT.tm_mk, h])
                clear hb
                have hc04 := HX.cell 0 4 rfl rfl
                try simp only [List.getElem_toArray, List.getElem_cons_zero, List.getElem_cons_succ] at hc04
                go_wp2
                go_ret
                exact ⟨rfl, HX.below⟩
          · obtain rfl : b = false := hb.f fun h => hn (by rw [TT.tm_mk, TT.tm_mk] at h; injection h with _ _ _ _ h; have := congrArg List.length h; rwa [List.length_map, List.length_map] at this)
            have qn : ((ks.length : Int) != (ks2.length : Int)) = true := bne_iff_ne.2 (by omega)
            clear hn hb
            go_enter Tryz.func19, Tryz.ntmps19
            go_upto_region 1 with fail
            generalize (w.alloc (.cells #[.int .i64 k, .int .i64 f, .int .i64 o, .int .i64 v, .slice A ks.length c] 24)).alloc (.cells #[.int .i64 k, .int .i64 f, .int .i64 o, .int .i64 v, .slice A2 ks2.length c2] 24) = W0 at *
            have hc00 := HX.cell 0 0 rfl rfl
            have hc01 := HX.cell 0 1 rfl rfl
            have hc02 := HX.cell 0 2 rfl rfl
            have hc03 := HX.cell 0 3 rfl rfl
            have hc04 := HX.cell 0 4 rfl rfl
            try simp only [List.getElem_toArray, List.getElem_cons_zero, List.getElem_cons_succ] at hc00 hc01 hc02 hc03 hc04
            have hc10 := HX.cell 1 0 rfl rfl
            have hc11 := HX.cell 1 1 rfl rfl
            have hc12 := HX.cell 1 2 rfl rfl
            have hc13 := HX.cell 1 3 rfl rfl
            have hc14 := HX.cell 1 4 rfl rfl
            try simp only [List.getElem_toArray, List.getElem_cons_zero, List.getElem_cons_succ] at hc10 hc11 hc12 hc13 hc14
            go_wp2
            go_ret
            exact ⟨rfl, HX.below⟩
        · obtain rfl : b = false := hb.f fun h => hv (by rw [TT.tm_mk, TT.tm_mk] at h; injection h)
          have qv : (v != v2) = true := bne_iff_ne.2 hv
          clear hv hb
          go_enter Tryz.func19, Tryz.ntmps19
          go_upto_region 1 with fail
          generalize (w.alloc (.cells #[.int .i64 k, .int .i64 f, .int .i64 o, .int .i64 v, .slice A ks.length c] 24)).alloc (.cells #[.int .i64 k, .int .i64 f, .int .i64 o, .int .i64 v2, .slice A2 ks2.length c2] 24) = W0 at *
          have hc00 := HX.cell 0 0 rfl rfl
          have hc01 := HX.cell 0 1 rfl rfl
          have hc02 := HX.cell 0 2 rfl rfl
          have hc03 := HX.cell 0 3 rfl rfl
          have hc04 := HX.cell 0 4 rfl rfl
          try simp only [List.getElem_toArray, List.getElem_cons_zero, List.getElem_cons_succ] at hc00 hc01 hc02 hc03 hc04
          have hc10 := HX.cell 1 0 rfl rfl
          have hc11 := HX.cell 1 1 rfl rfl
          have hc12 := HX.cell 1 2 rfl rfl
          have hc13 := HX.cell 1 3 rfl rfl
          have hc14 := HX.cell 1 4 rfl rfl
          try simp only [List.getElem_toArray, List.getElem_cons_zero, List.getElem_cons_succ] at hc10 hc11 hc12 hc13 hc14
          go_wp2
          go_ret
          exact ⟨rfl, HX.below⟩
      · obtain rfl : b = false := hb.f fun h => ho (by rw [TT.tm_mk, TT.tm_mk] at h; injection h)
        have qo : (o != o2) = true := bne_iff_ne.2 ho
        clear ho hb
        go_enter Tryz.func19, Tryz.ntmps19
        go_upto_region 1 with fail
        generalize (w.alloc (.cells #[.int .i64 k, .int .i64 f, .int .i64 o, .int .i64 v, .slice A ks.length c] 24)).alloc (.cells #[.int .i64 k, .int .i64 f, .int .i64 o2, .int .i64 v2, .slice A2 ks2.length c2] 24) = W0 at *
        have hc00 := HX.cell 0 0 rfl rfl
        have hc01 := HX.cell 0 1 rfl rfl
        have hc02 := HX.cell 0 2 rfl rfl
        have hc03 := HX.cell 0 3 rfl rfl
        have hc04 := HX.cell 0 4 rfl rfl
        try simp only [List.getElem_toArray, List.getElem_cons_zero, List.getElem_cons_succ] at hc00 hc01 hc02 hc03 hc04
        have hc10 := HX.cell 1 0 rfl rfl
        have hc11 := HX.cell 1 1 rfl rfl
        have hc12 := HX.cell 1 2 rfl rfl
        have hc13 := HX.cell 1 3 rfl rfl
        have hc14 := HX.cell 1 4 rfl rfl
        try simp only [List.getElem_toArray, List.getElem_cons_zero, List.getElem_cons_succ] at hc10 hc11 hc12 hc13 hc14
        go_wp2
        go_ret
        exact ⟨rfl, HX.below⟩
    · obtain rfl : b = false := hb.f fun h => hf (by rw [TT.tm_mk, TT.tm_mk] at h; injection h)
      have qf : (f != f2) = true := bne_iff_ne.2 hf
      clear hf hb
      go_enter Tryz.func19, Tryz.ntmps19
      go_upto_region 1 with fail
      generalize (w.alloc (.cells #[.int .i64 k, .int .i64 f, .int .i64 o, .int .i64 v, .slice A ks.length c] 24)).alloc (.cells #[.int .i64 k, .int .i64 f2, .int .i64 o2, .int .i64 v2, .slice A2 ks2.length c2] 24) = W0 at *
      have hc00 := HX.cell 0 0 rfl rfl
      have hc01 := HX.cell 0 1 rfl rfl
      have hc02 := HX.cell 0 2 rfl rfl
      have hc03 := HX.cell 0 3 rfl rfl
      have hc04 := HX.cell 0 4 rfl rfl
      try simp only [List.getElem_toArray, List.getElem_cons_zero, List.getElem_cons_succ] at hc00 hc01 hc02 hc03 hc04
      have hc10 := HX.cell 1 0 rfl rfl
      have hc11 := HX.cell 1 1 rfl rfl
      have hc12 := HX.cell 1 2 rfl rfl
      have hc13 := HX.cell 1 3 rfl rfl
      have hc14 := HX.cell 1 4 rfl rfl
      try simp only [List.getElem_toArray, List.getElem_cons_zero, List.getElem_cons_succ] at hc10 hc11 hc12 hc13 hc14
      go_wp2
      go_ret
      exact ⟨rfl, HX.below⟩
  · obtain rfl : b = false := hb.f fun h => hk (by rw [TT.tm_mk, TT.tm_mk] at h; injection h)
    have qk : (k != k2) = true := bne_iff_ne.2 hk
    clear hk hb
    go_enter Tryz.func19, Tryz.ntmps19
    go_upto_region 1 with fail
    generalize (w.alloc (.cells #[.int .i64 k, .int .i64 f, .int .i64 o, .int .i64 v, .slice A ks.length c] 24)).alloc (.cells #[.int .i64 k2, .int .i64 f2, .int .i64 o2, .int .i64 v2, .slice A2 ks2.length c2] 24) = W0 at *
    have hc00 := HX.cell 0 0 rfl rfl
    have hc01 := HX.cell 0 1 rfl rfl
    have hc02 := HX.cell 0 2 rfl rfl
    have hc03 := HX.cell 0 3 rfl rfl
    have hc04 := HX.cell 0 4 rfl rfl
    try simp only [List.getElem_toArray, List.getElem_cons_zero, List.getElem_cons_succ] at hc00 hc01 hc02 hc03 hc04
    have hc10 := HX.cell 1 0 rfl rfl
    have hc11 := HX.cell 1 1 rfl rfl
    have hc12 := HX.cell 1 2 rfl rfl
    have hc13 := HX.cell 1 3 rfl rfl
    have hc14 := HX.cell 1 4 rfl rfl
    try simp only [List.getElem_toArray, List.getElem_cons_zero, List.getElem_cons_succ] at hc10 hc11 hc12 hc13 hc14
    go_wp2
    go_ret
    exact ⟨rfl, HX.below⟩
end Go.Proofs.YtilojhhmichemaaGreatDoor

namespace Go.Proofs.YtilojhhmichemaaGreatDoor
open Go.RowKit Go.Proofs Go

namespace Tm
/-- size and depth; 1000 and more: something is wrong -/
def Meas (t : Tm) (b : Nat) (n d : Int) : Prop := ((wf t ∧ size t ≤ b) ∧ n = (size t : Nat) ∧ d = (depth t : Nat)) ∨ (¬ (wf t ∧ size t ≤ b) ∧ 1000 ≤ n ∧ n ≤ 1000 + (b : Int) ∧ 0 ≤ d ∧ d ≤ 1000 + (b : Int))
theorem depthL_append (a b : List Tm) : depthL (a ++ b) = max (depthL a) (depthL b) := by
  induction a with
  | nil => simp [depthL]
  | cons t a ih => rw [List.cons_append, depthL, depthL, ih]; omega
theorem depth_size : ∀ t : Tm, depth t ≤ size t := by
  refine ind fun k f o v ks ih => ?_
  rw [depth, size]
  have : depthL ks ≤ sizeL ks := depthL_le.2 fun t ht => Nat.le_trans (ih t ht) (sizeL_mem ht)
  omega
theorem depthL_size (ks : List Tm) : depthL ks ≤ sizeL ks := depthL_le.2 fun t ht => Nat.le_trans (depth_size t) (sizeL_mem ht)
end Tm
theorem bin_any {n lo hi : Int} {b : Bool} (w : World) (hb : Tells b (lo ≤ n ∧ n ≤ hi)) : Calls Tryz.prog 61 #[.int .i64 n, .int .i64 lo, .int .i64 hi] w fun e w' => e = .returned (.bool b) ∧ w' = w := by
  by_cases h1 : lo ≤ n
  · have d1 : decide (lo ≤ n) = true := decide_eq_true h1
    by_cases h2 : n ≤ hi
    · have d2 : decide (n ≤ hi) = true := decide_eq_true h2
      obtain rfl : b = true := hb.t ⟨h1, h2⟩
      go_enter Tryz.func61, Tryz.ntmps61
      go_wp2
      go_ret
      exact ⟨rfl, rfl⟩
    · have d2 : decide (n ≤ hi) = false := decide_eq_false h2
      obtain rfl : b = false := hb.f fun h => h2 h.2
      go_enter Tryz.func61, Tryz.ntmps61
      go_wp2
      go_ret
      exact ⟨rfl, rfl⟩
  · have d1 : decide (lo ≤ n) = false := decide_eq_false h1
    obtain rfl : b = false := hb.f fun h => h1 h.1
    go_enter Tryz.func61, Tryz.ntmps61
    go_wp2
    go_ret
    exact ⟨rfl, rfl⟩
/-- the loop's state: all is well so far, or something is wrong -/
def MSt (ks : List TT) (k : Int) (b : Nat) (X : Tm) (ls : Bool) (j : Nat) (s d : Int) : Prop := (s ≤ (b : Int) ∧ (∀ y ∈ ks.take j, y.tm.wf) ∧ (ls = true → ∀ y ∈ ks.take j, y.tm.kind ≠ k) ∧ s = 1 + (Tm.sizeL (TT.pre ks j) : Nat) ∧ d = (Tm.depthL (TT.pre ks j) : Nat)) ∨ (1000 ≤ s ∧ s ≤ 1000 + (b : Int) ∧ 0 ≤ d ∧ d < 1000 + (b : Int) ∧ ¬ (X.wf ∧ X.size ≤ b))
def RetMs (w : World) (t : Tm) (b : Nat) (e : Ending) (w' : World) : Prop := ∃ n d : Int, e = .returned (.tuple #[.int .i64 n, .int .i64 d]) ∧ Hid (Tm.Meas t b n d) ∧ Below w.heap.size w w'
set_option maxHeartbeats 16000000 in
set_option maxRecDepth 100000 in
theorem rmeasure_any : ∀ (t : TT) (bi : Int) (b : Nat) (w : World), Hid (bi = (b : Int)) → b ≤ 500 → t.Mem w →
    Calls Tryz.prog 38 #[t.val, .int .i64 bi] w (RetMs w t.tm b) := by
  refine fun t => TT.ind (P := fun t => ∀ (bi : Int) (b : Nat) (w : World), Hid (bi = (b : Int)) → b ≤ 500 → t.Mem w → Calls Tryz.prog 38 #[t.val, .int .i64 bi] w (RetMs w t.tm b)) (fun t ih0 bi b w hbi hb HM0 => ?_) t
  obtain ⟨k, f, o, v, A, c, ks⟩ := t
  obtain ⟨HK0, hl, HM⟩ := HM0.kids
  clear HM0
  have ih : ∀ x ∈ ks, ∀ (bi : Int) (b : Nat) (w : World), Hid (bi = (b : Int)) → b ≤ 500 → x.Mem w → Calls Tryz.prog 38 #[x.val, .int .i64 bi] w (RetMs w x.tm b) := ih0
  clear ih0
  show Calls _ _ #[.agg #[.int .i64 k, .int .i64 f, .int .i64 o, .int .i64 v, .slice A ks.length c], .int .i64 bi] w _
  obtain ⟨X, hX⟩ : ∃ X, Hid ((TT.mk k f o v A c ks).tm = X) := ⟨_, Lib.hid rfl⟩
  rw [hX.out]
  have hXk := Lib.hid (hX.out.symm.trans (TT.tm_mk k f o v A c ks))
  have HX := BL.one w #[.int .i64 k, .int .i64 f, .int .i64 o, .int .i64 v, .slice A ks.length c] 24
  go_enter Tryz.func38, Tryz.ntmps38
  go_upto_region 1 with fail
  generalize w.alloc (.cells #[.int .i64 k, .int .i64 f, .int .i64 o, .int .i64 v, .slice A ks.length c] 24) = W0 at *
  by_cases hb0 : b = 0
  · subst hb0
    obtain rfl : bi = 0 := hbi.out
    have hM := Lib.hid (show Tm.Meas X 0 1000 1000 from .inr ⟨fun h => by have := Tm.size_pos X; omega, by omega, by omega, by omega, by omega⟩)
    go_wp2
    go_ret2
    exact ⟨1000, 1000, rfl, hM, HX.below⟩
  · have hb1 : 1 ≤ bi := by rw [hbi.out]; omega
    have hbI : bi ≤ 500 := by rw [hbi.out]; omega
    have hd0 : decide (bi ≤ 0) = false := decide_eq_false (by omega)
    obtain ⟨lf, hlf⟩ := bool_of (fun _ : Unit => k = 1 ∧ (1 ≤ f ∧ f ≤ 7) ∧ (1 ≤ o ∧ o ≤ 6) ∧ (0 ≤ v ∧ v ≤ 999999) ∧ ks.length = 0)
    replace hlf := hlf ()
    generalize lf () = lf at hlf
    obtain ⟨ls, hls⟩ := bool_of (fun _ : Unit => (k = 2 ∨ k = 3) ∧ 2 ≤ ks.length)
    replace hls := hls ()
    generalize ls () = ls at hls
    obtain ⟨bd, hbd⟩ := bool_of (fun _ : Unit => ¬ ((ls = true ∨ (k = 4 ∧ ks.length = 1)) ∧ f = 0 ∧ o = 0 ∧ v = 0))
    replace hbd := hbd ()
    generalize bd () = bd at hbd
    have HLF := Lib.hid hlf
    have HLS := Lib.hid hls
    have HBD := Lib.hid hbd
    go_upto_region 3 with fail
    have hc00 := HX.cell 0 0 rfl rfl
    have hc01 := HX.cell 0 1 rfl rfl
    have hc02 := HX.cell 0 2 rfl rfl
    have hc03 := HX.cell 0 3 rfl rfl
    have hc04 := HX.cell 0 4 rfl rfl
    try simp only [List.getElem_toArray, List.getElem_cons_zero, List.getElem_cons_succ] at hc00 hc01 hc02 hc03 hc04
    go_cut [6] (fun x wx => x = .bool lf ∧ wx = W0)
    case first =>
      clear hls hbd hX hXk HX HLF HLS HBD
      by_cases hk1 : k = 1
      · subst hk1
        by_cases g0 : 1 ≤ f ∧ f ≤ 7
        · by_cases g1 : 1 ≤ o ∧ o ≤ 6
          · by_cases g2 : 0 ≤ v ∧ v ≤ 999999
            · by_cases hn : ks.length = 0
              · obtain rfl : lf = true := hlf.t ⟨rfl, g0, g1, g2, hn⟩
                have qn : ((ks.length : Int) == 0) = true := by rw [hn]; rfl
                have a0 := yes g0; have a1 := yes g1; have a2 := yes g2
                clear hn hlf
                go_wp2_with fail
                refine (bin_any W0 a0).mono ?_
                rintro e w0 ⟨rfl, hw0⟩
                obtain rfl : W0 = w0 := hw0.symm
                go_wp2_with fail
                refine (bin_any W0 a1).mono ?_
                rintro e w1 ⟨rfl, hw1⟩
                obtain rfl : W0 = w1 := hw1.symm
                go_wp2_with fail
                refine (bin_any W0 a2).mono ?_
                rintro e w2 ⟨rfl, hw2⟩
                obtain rfl : W0 = w2 := hw2.symm
                go_wp2_with fail
                go_meet
                case rel => exact ⟨rfl, rfl⟩
              · obtain rfl : lf = false := hlf.f fun h => hn h.2.2.2.2
                have qn : ((ks.length : Int) == 0) = false := beq_eq_false_iff_ne.2 (by omega)
                have a0 := yes g0; have a1 := yes g1; have a2 := yes g2
                clear hn hlf
                go_wp2_with fail
                refine (bin_any W0 a0).mono ?_
                rintro e w0 ⟨rfl, hw0⟩
                obtain rfl : W0 = w0 := hw0.symm
                go_wp2_with fail
                refine (bin_any W0 a1).mono ?_
                rintro e w1 ⟨rfl, hw1⟩
                obtain rfl : W0 = w1 := hw1.symm
                go_wp2_with fail
                refine (bin_any W0 a2).mono ?_
                rintro e w2 ⟨rfl, hw2⟩
                obtain rfl : W0 = w2 := hw2.symm
                go_wp2_with fail
                go_meet
                case rel => exact ⟨rfl, rfl⟩
            · obtain rfl : lf = false := hlf.f fun h => g2 h.2.2.2.1
              have a0 := yes g0; have a1 := yes g1; have a2 := no g2
              clear hlf
              go_wp2_with fail
              refine (bin_any W0 a0).mono ?_
              rintro e w0 ⟨rfl, hw0⟩
              obtain rfl : W0 = w0 := hw0.symm
              go_wp2_with fail
              refine (bin_any W0 a1).mono ?_
              rintro e w1 ⟨rfl, hw1⟩
              obtain rfl : W0 = w1 := hw1.symm
              go_wp2_with fail
              refine (bin_any W0 a2).mono ?_
              rintro e w2 ⟨rfl, hw2⟩
              obtain rfl : W0 = w2 := hw2.symm
              go_wp2_with fail
              go_meet
              case rel => exact ⟨rfl, rfl⟩
          · obtain rfl : lf = false := hlf.f fun h => g1 h.2.2.1
            have a0 := yes g0; have a1 := no g1
            clear hlf
            go_wp2_with fail
            refine (bin_any W0 a0).mono ?_
            rintro e w0 ⟨rfl, hw0⟩
            obtain rfl : W0 = w0 := hw0.symm
            go_wp2_with fail
            refine (bin_any W0 a1).mono ?_
            rintro e w1 ⟨rfl, hw1⟩
            obtain rfl : W0 = w1 := hw1.symm
            go_wp2_with fail
            go_meet
            case rel => exact ⟨rfl, rfl⟩
        · obtain rfl : lf = false := hlf.f fun h => g0 h.2.1
          have a0 := no g0
          clear hlf
          go_wp2_with fail
          refine (bin_any W0 a0).mono ?_
          rintro e w0 ⟨rfl, hw0⟩
          obtain rfl : W0 = w0 := hw0.symm
          go_wp2_with fail
          go_meet
          case rel => exact ⟨rfl, rfl⟩
      · have q1 : (k == 1) = false := beq_eq_false_iff_ne.2 hk1
        obtain rfl : lf = false := hlf.f fun h => hk1 h.1
        clear hk1 hlf
        go_wp2_with fail
        go_meet
        case rel => exact ⟨rfl, rfl⟩
    case rest =>
      obtain ⟨rfl, hwc⟩ := hcut
      obtain rfl := hwc.symm
      clear hc00 hc01 hc02 hc03 hc04 hlf
      cases lf with
      | true =>
        have hM := Lib.hid (show Tm.Meas X b 1 1 by
          obtain ⟨rfl, ⟨h1, h2⟩, ⟨h3, h4⟩, ⟨h5, h6⟩, h7⟩ := HLF.out.1 rfl
          obtain rfl : ks = [] := List.eq_nil_of_length_eq_zero h7
          rw [hXk.out]
          refine .inl ⟨⟨?_, ?_⟩, ?_, ?_⟩
          · rw [List.map_nil, Tm.wf]; exact ⟨.inl ⟨rfl, h1, h2, h3, h4, h5, h6, rfl⟩, trivial⟩
          · rw [List.map_nil, Tm.size, Tm.sizeL]; omega
          · rw [List.map_nil, Tm.size, Tm.sizeL]; rfl
          · rw [List.map_nil, Tm.depth, Tm.depthL]; rfl)
        go_wp2
        go_ret2
        exact ⟨1, 1, rfl, hM, HX.below⟩
      | false =>
        go_upto_region 6 with fail
        have hc00 := HX.cell 0 0 rfl rfl
        have hc01 := HX.cell 0 1 rfl rfl
        have hc02 := HX.cell 0 2 rfl rfl
        have hc03 := HX.cell 0 3 rfl rfl
        have hc04 := HX.cell 0 4 rfl rfl
        try simp only [List.getElem_toArray, List.getElem_cons_zero, List.getElem_cons_succ] at hc00 hc01 hc02 hc03 hc04
        go_cut [7] (fun x wx => x = .bool ls ∧ wx = W0)
        case first =>
          clear hX hXk HX HLF HLS HBD
          by_cases h2 : k = 2
          · subst h2
            by_cases hn : 2 ≤ ks.length
            · obtain rfl : ls = true := hls.t ⟨by omega, hn⟩
              have qn : decide ((2 : Int) ≤ (ks.length : Int)) = true := decide_eq_true (by omega)
              clear hn hls hbd
              go_wp2_with fail
              go_meet
              case rel => exact ⟨rfl, rfl⟩
            · obtain rfl : ls = false := hls.f fun h => hn h.2
              have qn : decide ((2 : Int) ≤ (ks.length : Int)) = false := decide_eq_false (by omega)
              clear hn hls hbd
              go_wp2_with fail
              go_meet
              case rel => exact ⟨rfl, rfl⟩
          · have q2 : (k == 2) = false := beq_eq_false_iff_ne.2 h2
            by_cases h3 : k = 3
            · subst h3
              by_cases hn : 2 ≤ ks.length
              · obtain rfl : ls = true := hls.t ⟨by omega, hn⟩
                have qn : decide ((2 : Int) ≤ (ks.length : Int)) = true := decide_eq_true (by omega)
                clear hn hls hbd
                go_wp2_with fail
                go_meet
                case rel => exact ⟨rfl, rfl⟩
              · obtain rfl : ls = false := hls.f fun h => hn h.2
                have qn : decide ((2 : Int) ≤ (ks.length : Int)) = false := decide_eq_false (by omega)
                clear hn hls hbd
                go_wp2_with fail
                go_meet
                case rel => exact ⟨rfl, rfl⟩
            · have q3 : (k == 3) = false := beq_eq_false_iff_ne.2 h3
              obtain rfl : ls = false := hls.f fun h => by omega
              clear h2 h3 hls hbd
              go_wp2_with fail
              go_meet
              case rel => exact ⟨rfl, rfl⟩
        case rest =>
          obtain ⟨rfl, hwc⟩ := hcut
          obtain rfl := hwc.symm
          go_upto_region 7 with fail
          go_cut [81] (fun x wx => x = .bool bd ∧ wx = W0)
          case first =>
            clear hX hXk HX HLF HLS HBD
            cases ls with
            | true =>
              by_cases hf : f = 0
              · subst hf
                by_cases ho : o = 0
                · subst ho
                  by_cases hv : v = 0
                  · subst hv
                    obtain rfl : bd = false := hbd.f fun h => h ⟨.inl rfl, rfl, rfl, rfl⟩
                    clear hbd hls
                    go_wp2_with fail
                    go_meet
                    case rel => exact ⟨rfl, rfl⟩
                  · obtain rfl : bd = true := hbd.t fun h => hv h.2.2.2
                    have qv : (v != 0) = true := bne_iff_ne.2 hv
                    clear hv hbd hls
                    go_wp2_with fail
                    go_meet
                    case rel => exact ⟨rfl, rfl⟩
                · obtain rfl : bd = true := hbd.t fun h => ho h.2.2.1
                  have qo : (o != 0) = true := bne_iff_ne.2 ho
                  clear ho hbd hls
                  go_wp2_with fail
                  go_meet
                  case rel => exact ⟨rfl, rfl⟩
              · obtain rfl : bd = true := hbd.t fun h => hf h.2.1
                have qf : (f != 0) = true := bne_iff_ne.2 hf
                clear hf hbd hls
                go_wp2_with fail
                go_meet
                case rel => exact ⟨rfl, rfl⟩
            | false =>
              by_cases h4 : k = 4
              · subst h4
                by_cases hn : ks.length = 1
                · have qn : ((ks.length : Int) != 1) = false := by rw [hn]; rfl
                  replace hn := Lib.hid hn
                  by_cases hf : f = 0
                  · subst hf
                    by_cases ho : o = 0
                    · subst ho
                      by_cases hv : v = 0
                      · subst hv
                        obtain rfl : bd = false := hbd.f fun h => h ⟨.inr ⟨rfl, hn.out⟩, rfl, rfl, rfl⟩
                        clear hbd hls
                        go_wp2_with fail
                        go_meet
                        case rel => exact ⟨rfl, rfl⟩
                      · obtain rfl : bd = true := hbd.t fun h => hv h.2.2.2
                        have qv : (v != 0) = true := bne_iff_ne.2 hv
                        clear hv hbd hls
                        go_wp2_with fail
                        go_meet
                        case rel => exact ⟨rfl, rfl⟩
                    · obtain rfl : bd = true := hbd.t fun h => ho h.2.2.1
                      have qo : (o != 0) = true := bne_iff_ne.2 ho
                      clear ho hbd hls
                      go_wp2_with fail
                      go_meet
                      case rel => exact ⟨rfl, rfl⟩
                  · obtain rfl : bd = true := hbd.t fun h => hf h.2.1
                    have qf : (f != 0) = true := bne_iff_ne.2 hf
                    clear hf hbd hls
                    go_wp2_with fail
                    go_meet
                    case rel => exact ⟨rfl, rfl⟩
                · have qn : ((ks.length : Int) != 1) = true := bne_iff_ne.2 (by omega)
                  obtain rfl : bd = true := hbd.t fun h => by
                    rcases h.1 with h | h
                    · cases h
                    · exact hn h.2
                  clear hn hbd hls
                  go_wp2_with fail
                  go_meet
                  case rel => exact ⟨rfl, rfl⟩
              · have q4 : (k != 4) = true := bne_iff_ne.2 h4
                obtain rfl : bd = true := hbd.t fun h => by
                  rcases h.1 with h | h
                  · cases h
                  · exact h4 h.1
                clear h4 hbd hls
                go_wp2_with fail
                go_meet
                case rel => exact ⟨rfl, rfl⟩
          case rest =>
            obtain ⟨rfl, hwc⟩ := hcut
            obtain rfl := hwc.symm
            clear hc00 hc01 hc02 hc03 hc04 hls hbd
            have hshape := Lib.hid (show bd = true → ¬ X.wf by
              intro h hw
              rw [hXk.out, Tm.wf] at hw
              refine HBD.out.1 h ?_
              rcases hw.1 with ⟨h1, h2, h3, h4, h5, h6, h7, h8⟩ | ⟨h1, h2, h3, h4, h5, _⟩ | ⟨h1, h2, h3, h4, h5⟩
              · rw [List.map_eq_nil_iff] at h8
                have := HLF.out.2 ⟨h1, ⟨h2, h3⟩, ⟨h4, h5⟩, ⟨h6, h7⟩, by rw [h8]; rfl⟩
                cases this
              · rw [List.length_map] at h5
                exact ⟨.inl (HLS.out.2 ⟨h1, h5⟩), h2, h3, h4⟩
              · rw [List.length_map] at h5
                exact ⟨.inr ⟨h1, h5⟩, h2, h3, h4⟩)
            cases bd with
            | true =>
              have hM := Lib.hid (show Tm.Meas X b 1000 1000 from .inr ⟨fun h => hshape.out rfl h.1, by omega, by omega, by omega, by omega⟩)
              go_wp2
              go_ret2
              exact ⟨1000, 1000, rfl, hM, HX.below⟩
            | false =>
              have hhead := Lib.hid (show (ls = true ∨ (k = 4 ∧ ks.length = 1)) ∧ f = 0 ∧ o = 0 ∧ v = 0 by
                by_cases h : (ls = true ∨ (k = 4 ∧ ks.length = 1)) ∧ f = 0 ∧ o = 0 ∧ v = 0
                · exact h
                · have := HBD.out.2 h
                  cases this)
              clear HBD hshape HLF
              go_wp2
              go_loopg [8, 9, 10, 11, 12] ks.length (fun g s8 s9 i _ _ wr => ∃ (j : Nat) (s d : Int), j + g = ks.length ∧ i = .int .i64 (j : Int) ∧ s8 = .int .i64 s ∧ s9 = .int .i64 d ∧ Hid (MSt ks k b X ls j s d) ∧ (1 ≤ s ∧ s ≤ 1500 ∧ 0 ≤ d ∧ d ≤ 1500) ∧ BL w wr [(w.heap.size, #[.int .i64 k, .int .i64 f, .int .i64 o, .int .i64 v, .slice A ks.length c], 24)])
              case atStart => exact ⟨0, 1, 0, by omega, rfl, rfl, rfl, Lib.hid (.inl ⟨by omega, by simp, by simp, rfl, rfl⟩), by omega, HX⟩
              case round =>
                clear HX
                obtain ⟨j, s, d, hj, rfl, rfl, rfl, hst, hsd, HX⟩ := hrel
                have HK := HK0.ext HX.below
                have hc04 := HX.cell 0 4 rfl rfl
                try simp only [List.getElem_toArray, List.getElem_cons_zero, List.getElem_cons_succ] at hc04
                rcases hst.out with hgood0 | hbad0
                · have hgood := Lib.hid hgood0
                  clear hgood0
                  have hs1 : decide (s < 1000) = true := decide_eq_true (by have := hgood.out.1; omega)
                  clear hst
                  by_cases hjl : j < ks.length
                  · obtain ⟨x, hx⟩ : ∃ x, Hid (ks[j]? = some x) := ⟨_, Lib.hid (List.getElem?_eq_getElem hjl)⟩
                    have hxm : x ∈ ks := List.mem_of_getElem? hx.out
                    have htk := Lib.hid (show ks.take (j + 1) = ks.take j ++ [x] by
                      obtain ⟨hi, h2⟩ := List.getElem?_eq_some_iff.1 hx.out
                      rw [List.take_succ_eq_append_getElem hi, h2])
                    obtain ⟨ad, rfl, hadb, e0, e1, e2, e3, e4⟩ := HK.at_ hx.out
                    have hkind : x.tm.kind = x.k := by rw [TT.tm_eq]; rfl
                    obtain ⟨xk, hxk⟩ : ∃ z, Hid (x.k = z) := ⟨_, Lib.hid rfl⟩
                    rw [hxk.out] at hkind
                    replace hkind := Lib.hid hkind
                    by_cases hkk : ls = true ∧ xk = k
                    · obtain ⟨rfl, rfl⟩ := hkk
                      have hM := Lib.hid (show Tm.Meas X b 1000 1000 from .inr ⟨fun h => by
                        have hw := h.1
                        rw [hXk.out, Tm.wf] at hw
                        have h2 := HLS.out.1 rfl
                        rcases hw.1 with ⟨h1, _⟩ | ⟨_, _, _, _, _, h3⟩ | ⟨h1, _⟩
                        · omega
                        · exact h3 _ (List.mem_map_of_mem hxm) hkind.out
                        · omega, by omega, by omega, by omega, by omega⟩)
                      have hc00 := HX.cell 0 0 rfl rfl
                      try simp only [List.getElem_toArray, List.getElem_cons_zero] at hc00
                      rw [hxk.out] at e0
                      go_upto_region 14 with fail
                      go_quiet (fail)
                      replace HX := HX.ext (drew_below (Below.refl _ _) nq)
                      go_wp2
                      go_ret2
                      exact ⟨1000, 1000, rfl, hM, HX.below⟩
                    · obtain ⟨r, hr⟩ : ∃ r : Int, Hid (bi - s = r) := ⟨_, Lib.hid rfl⟩
                      obtain ⟨rn, hrn⟩ : ∃ rn : Nat, Hid (r = (rn : Int) ∧ (rn : Int) = (b : Int) - s) := ⟨((b : Int) - s).toNat, Lib.hid (by have := hgood.out.1; rw [← hr.out, hbi.out]; omega)⟩
                      have hrb : rn ≤ 500 := by have := hrn.out; omega
                      have hxM := (HM x hxm).ext HX.below
                      have hcall := fun W => ih x hxm r rn W (Lib.hid hrn.out.1) hrb
                      have hsb : s ≤ bi := by rw [hbi.out]; exact hgood.out.1
                      have hgo : ∀ n' d' : Int, Tm.Meas x.tm rn n' d' → Hid (MSt ks k b X ls (j + 1) (s + n') (max d d')) ∧ (1 ≤ s + n' ∧ s + n' ≤ 1500 ∧ 0 ≤ max d d' ∧ max d d' ≤ 1500) ∧ (0 ≤ n' ∧ n' ≤ 1500 ∧ 0 ≤ d' ∧ d' ≤ 1500) := fun n' d' hm => by
                        obtain ⟨q1, q2, q3, q4, q5⟩ := hgood.out
                        have q6 := hrn.out.2
                        have q7 := Tm.depthL_size (TT.pre ks j)
                        rcases hm with ⟨⟨m1, m2⟩, rfl, rfl⟩ | ⟨m1, m2, m3, m4, m5⟩
                        · have m6 := Tm.depth_size x.tm
                          refine ⟨Lib.hid (.inl ⟨by omega, ?_, ?_, ?_, ?_⟩), by omega, by omega⟩
                          · intro y hy
                            rw [htk.out] at hy
                            rcases List.mem_append.1 hy with h | h
                            · exact q2 y h
                            · rw [List.mem_singleton.1 h]; exact m1
                          · intro hls y hy
                            rw [htk.out] at hy
                            rcases List.mem_append.1 hy with h | h
                            · exact q3 hls y h
                            · rw [List.mem_singleton.1 h, hkind.out]
                              exact fun e => hkk ⟨hls, e⟩
                          · rw [TT.pre_succ hx.out, Tm.sizeL_append, Tm.sizeL, Tm.sizeL]; omega
                          · rw [TT.pre_succ hx.out, Tm.depthL_append, Tm.depthL, Tm.depthL]; omega
                        · refine ⟨Lib.hid (.inr ⟨by omega, by omega, by omega, by omega, fun h => m1 ?_⟩), by omega, by omega⟩
                          obtain ⟨h1, h2⟩ := h
                          rw [hXk.out] at h1 h2
                          rw [Tm.wf, Tm.wfL_iff] at h1
                          rw [Tm.size, TT.pre_split ks (j + 1), Tm.sizeL_append, TT.pre_succ hx.out, Tm.sizeL_append, Tm.sizeL, Tm.sizeL] at h2
                          exact ⟨h1.2 _ (List.mem_map_of_mem hxm), by omega⟩
                      have hbn : bi - s ≤ 500 := by omega
                      clear hgood
                      cases ls with
                      | false =>
                        go_upto_region 14 with fail
                        go_quiet (fail)
                        have hnb := drew_below (Below.refl wr.heap.size wr) nq
                        replace HX := HX.ext hnb
                        have hxM2 := hxM.ext hnb
                        replace hc04 := cellup hnb hc04
                        replace e0 := cellup hnb e0
                        replace e1 := cellup hnb e1
                        replace e2 := cellup hnb e2
                        replace e3 := cellup hnb e3
                        replace e4 := cellup hnb e4
                        clear hxM
                        go_wp2_with fail
                        rw [hr.out]
                        refine (hcall _ hxM2).mono ?_
                        rintro e w5 ⟨n', d', rfl, hm, hb5⟩
                        replace HX := HX.ext hb5
                        obtain ⟨k1, k2, k3⟩ := hgo n' d' hm.out
                        have hjg : j + 1 + (ks.length - (j + 1)) = ks.length := by omega
                        have hjm : ks.length - (j + 1) < gk := by omega
                        replace k2 := Lib.hid k2
                        clear hb5 hc04 hgo hcall hm hr hrn
                        go_wp2
                        go_roundg (ks.length - (j + 1))
                        case measure => exact hjm
                        case rel => exact ⟨j + 1, s + n', max d d', hjg, by simp, rfl, rfl, k1, k2.out, HX⟩
                      | true =>
                        have qk : (xk == k) = false := beq_eq_false_iff_ne.2 fun e => hkk ⟨rfl, e⟩
                        have hc00 := HX.cell 0 0 rfl rfl
                        try simp only [List.getElem_toArray, List.getElem_cons_zero] at hc00
                        rw [hxk.out] at e0
                        go_upto_region 14 with fail
                        go_quiet (fail)
                        have hnb := drew_below (Below.refl wr.heap.size wr) nq
                        clear hc00
                        rw [← hxk.out] at e0
                        replace HX := HX.ext hnb
                        have hxM2 := hxM.ext hnb
                        replace hc04 := cellup hnb hc04
                        replace e0 := cellup hnb e0
                        replace e1 := cellup hnb e1
                        replace e2 := cellup hnb e2
                        replace e3 := cellup hnb e3
                        replace e4 := cellup hnb e4
                        clear hxM
                        go_wp2_with fail
                        rw [hr.out]
                        refine (hcall _ hxM2).mono ?_
                        rintro e w5 ⟨n', d', rfl, hm, hb5⟩
                        replace HX := HX.ext hb5
                        obtain ⟨k1, k2, k3⟩ := hgo n' d' hm.out
                        have hjg : j + 1 + (ks.length - (j + 1)) = ks.length := by omega
                        have hjm : ks.length - (j + 1) < gk := by omega
                        replace k2 := Lib.hid k2
                        clear hb5 hc04 hgo hcall hm hr hrn
                        go_wp2
                        go_roundg (ks.length - (j + 1))
                        case measure => exact hjm
                        case rel => exact ⟨j + 1, s + n', max d d', hjg, by simp, rfl, rfl, k1, k2.out, HX⟩
                  · obtain rfl : j = ks.length := by omega
                    have hM := Lib.hid (show Tm.Meas X b s (d + 1) by
                      obtain ⟨q1, q2, q3, q4, q5⟩ := hgood.out
                      rw [List.take_length] at q2 q3
                      rw [TT.pre_all] at q4 q5
                      obtain ⟨h1, rfl, rfl, rfl⟩ := hhead.out
                      rw [hXk.out]
                      refine .inl ⟨⟨?_, ?_⟩, ?_, ?_⟩
                      · rw [Tm.wf, Tm.wfL_iff]
                        refine ⟨?_, fun t ht => ?_⟩
                        · rcases h1 with h1 | ⟨h1, h2⟩
                          · have h3 := HLS.out.1 h1
                            exact .inr (.inl ⟨h3.1, rfl, rfl, rfl, by rw [List.length_map]; exact h3.2, fun t ht => by
                              obtain ⟨y, hy, rfl⟩ := List.mem_map.1 ht
                              exact q3 h1 y hy⟩)
                          · exact .inr (.inr ⟨h1, rfl, rfl, rfl, by rw [List.length_map]; exact h2⟩)
                        · obtain ⟨y, hy, rfl⟩ := List.mem_map.1 ht
                          exact q2 y hy
                      · rw [Tm.size]; omega
                      · rw [Tm.size]; omega
                      · rw [Tm.depth]; omega)
                    clear hgood
                    go_wp2
                    go_ret2
                    exact ⟨s, (d + 1), rfl, hM, HX.below⟩
                · have hbad := Lib.hid hbad0
                  clear hbad0
                  have hs1 : decide (s < 1000) = false := decide_eq_false (by have := hbad.out.1; omega)
                  have hM := Lib.hid (show Tm.Meas X b s (d + 1) from .inr ⟨hbad.out.2.2.2.2, hbad.out.1, hbad.out.2.1, by have := hbad.out.2.2.1; omega, by have := hbad.out.2.2.2.1; omega⟩)
                  clear hst hbad
                  by_cases hjl : j < ks.length
                  · go_wp2
                    go_ret2
                    exact ⟨s, (d + 1), rfl, hM, HX.below⟩
                  · obtain rfl : j = ks.length := by omega
                    go_wp2
                    go_ret2
                    exact ⟨s, (d + 1), rfl, hM, HX.below⟩
set_option maxHeartbeats 1000000 in
set_option maxRecDepth 100000 in
theorem rvalid50_any {b : Bool} (t : TT) (w : World) (HM : t.Mem w) (hb : Tells b t.tm.Ok) : Calls Tryz.prog 14 #[t.val] w (RetB w b) := by
  have HX := BL.one w #[.int .i64 t.k, .int .i64 t.f, .int .i64 t.o, .int .i64 t.v, .slice t.A t.ks.length t.c] 24
  replace HM := TT.Mem.ext HX.below HM
  show Calls _ _ #[.agg #[.int .i64 t.k, .int .i64 t.f, .int .i64 t.o, .int .i64 t.v, .slice t.A t.ks.length t.c]] w _
  go_enter Tryz.func14, Tryz.ntmps14
  go_upto_region 1 with fail
  generalize w.alloc (.cells #[.int .i64 t.k, .int .i64 t.f, .int .i64 t.o, .int .i64 t.v, .slice t.A t.ks.length t.c] 24) = W0 at *
  have hc00 := HX.cell 0 0 rfl rfl
  have hc01 := HX.cell 0 1 rfl rfl
  have hc02 := HX.cell 0 2 rfl rfl
  have hc03 := HX.cell 0 3 rfl rfl
  have hc04 := HX.cell 0 4 rfl rfl
  try simp only [List.getElem_toArray, List.getElem_cons_zero, List.getElem_cons_succ] at hc00 hc01 hc02 hc03 hc04
  go_wp2_with fail
  refine (rmeasure_any t 41 41 W0 (Lib.hid rfl) (by omega) HM).mono ?_
  rintro e w5 ⟨n, d, rfl, hM, hb5⟩
  replace HX := HX.ext hb5
  clear hc00 hc01 hc02 hc03 hc04
  by_cases h1 : n ≤ 40
  · have d1 : decide (n ≤ 40) = true := decide_eq_true h1
    by_cases h2 : d ≤ 8
    · have d2 : decide (d ≤ 8) = true := decide_eq_true h2
      obtain rfl : b = true := hb.t (by
        rcases hM.out with ⟨⟨m1, m2⟩, m3, m4⟩ | ⟨_, m2, _⟩
        · exact ⟨m1, by omega, by omega⟩
        · omega)
      go_wp2
      go_ret
      exact ⟨rfl, HX.below⟩
    · have d2 : decide (d ≤ 8) = false := decide_eq_false h2
      obtain rfl : b = false := hb.f fun h => by
        rcases hM.out with ⟨⟨m1, m2⟩, m3, m4⟩ | ⟨_, m2, _⟩
        · have := h.2.2; omega
        · omega
      go_wp2
      go_ret
      exact ⟨rfl, HX.below⟩
  · have d1 : decide (n ≤ 40) = false := decide_eq_false h1
    obtain rfl : b = false := hb.f fun h => by
      rcases hM.out with ⟨⟨m1, m2⟩, m3, m4⟩ | ⟨m1, m2, _⟩
      · have := h.2.1; omega
      · exact m1 ⟨h.1, by have := h.2.1; omega⟩
    go_wp2
    go_ret
    exact ⟨rfl, HX.below⟩
end Go.Proofs.YtilojhhmichemaaGreatDoor

namespace Go.Proofs.YtilojhhmichemaaGreatDoor
open Go.RowKit Go.Proofs Go

theorem bnum_any {n : Int} {b : Bool} (w : World) (hb : Tells b (1 ≤ n ∧ n ≤ 999)) : Calls Tryz.prog 80 #[.int .i64 n] w fun e w' => e = .returned (.bool b) ∧ w' = w := by
  go_enter Tryz.func80, Tryz.ntmps80
  go_wp2_with fail
  refine (bin_any w hb).mono ?_
  rintro e w1 ⟨rfl, hw1⟩
  obtain rfl : w = w1 := hw1.symm
  go_wp2
  go_ret
  exact ⟨rfl, rfl⟩
theorem bid_any {n : Int} {b : Bool} (w : World) (hb : Tells b (1 ≤ n ∧ n ≤ 9999)) : Calls Tryz.prog 81 #[.int .i64 n] w fun e w' => e = .returned (.bool b) ∧ w' = w := by
  go_enter Tryz.func81, Tryz.ntmps81
  go_wp2_with fail
  refine (bin_any w hb).mono ?_
  rintro e w1 ⟨rfl, hw1⟩
  obtain rfl : w = w1 := hw1.symm
  go_wp2
  go_ret
  exact ⟨rfl, rfl⟩
set_option maxHeartbeats 4000000 in
set_option maxRecDepth 100000 in
theorem bspec_any {b : Bool} (s : Sp) (w : World) (hb : Tells b s.V) : Calls Tryz.prog 52 #[s.val] w (RetB w b) := by
  have HX := BL.one w #[.int .i64 s.id, .int .i64 s.ob, .int .i64 s.rv, .int .i64 s.os, .int .i64 s.rs, .int .i64 s.ax, .int .i64 s.wt] 42
  show Calls _ _ #[.agg #[.int .i64 s.id, .int .i64 s.ob, .int .i64 s.rv, .int .i64 s.os, .int .i64 s.rs, .int .i64 s.ax, .int .i64 s.wt]] w _
  go_enter Tryz.func52, Tryz.ntmps52
  go_upto_region 1 with fail
  generalize w.alloc (.cells #[.int .i64 s.id, .int .i64 s.ob, .int .i64 s.rv, .int .i64 s.os, .int .i64 s.rs, .int .i64 s.ax, .int .i64 s.wt] 42) = V at *
  have hc00 := HX.cell 0 0 rfl rfl
  have hc01 := HX.cell 0 1 rfl rfl
  have hc02 := HX.cell 0 2 rfl rfl
  have hc03 := HX.cell 0 3 rfl rfl
  have hc04 := HX.cell 0 4 rfl rfl
  have hc05 := HX.cell 0 5 rfl rfl
  have hc06 := HX.cell 0 6 rfl rfl
  try simp only [List.getElem_toArray, List.getElem_cons_zero, List.getElem_cons_succ] at hc00 hc01 hc02 hc03 hc04 hc05 hc06
  by_cases g0 : 1 ≤ s.ob ∧ s.ob ≤ 999
  · by_cases g1 : 1 ≤ s.rv ∧ s.rv ≤ 999
    · by_cases g2 : 1 ≤ s.os ∧ s.os ≤ 9
      · by_cases g3 : 1 ≤ s.rs ∧ s.rs ≤ 9
        · by_cases g4 : 1 ≤ s.id ∧ s.id ≤ 9999
          · by_cases g5 : 0 ≤ s.ax ∧ s.ax ≤ 11
            · by_cases g6 : 1 ≤ s.wt ∧ s.wt ≤ 200000
              · obtain rfl : b = true := hb.t ⟨⟨g0, g1, g2, g3⟩, g4, g5, g6⟩
                have h0 := yes g0
                have h1 := yes g1
                have h2 := yes g2
                have h3 := yes g3
                have h4 := yes g4
                have h5 := yes g5
                have h6 := yes g6
                clear hb g0 g1 g2 g3 g4 g5 g6
                go_wp2_with fail
                refine (bnum_any V h0).mono ?_
                rintro e w0 ⟨rfl, hw0⟩
                obtain rfl : V = w0 := hw0.symm
                go_wp2_with fail
                refine (bnum_any V h1).mono ?_
                rintro e w1 ⟨rfl, hw1⟩
                obtain rfl : V = w1 := hw1.symm
                go_wp2_with fail
                refine (bin_any V h2).mono ?_
                rintro e w2 ⟨rfl, hw2⟩
                obtain rfl : V = w2 := hw2.symm
                go_wp2_with fail
                refine (bin_any V h3).mono ?_
                rintro e w3 ⟨rfl, hw3⟩
                obtain rfl : V = w3 := hw3.symm
                go_wp2_with fail
                refine (bid_any V h4).mono ?_
                rintro e w4 ⟨rfl, hw4⟩
                obtain rfl : V = w4 := hw4.symm
                go_wp2_with fail
                refine (bin_any V h5).mono ?_
                rintro e w5 ⟨rfl, hw5⟩
                obtain rfl : V = w5 := hw5.symm
                go_wp2_with fail
                refine (bin_any V h6).mono ?_
                rintro e w6 ⟨rfl, hw6⟩
                obtain rfl : V = w6 := hw6.symm
                go_wp2
                go_ret
                exact ⟨rfl, HX.below⟩
              · obtain rfl : b = false := hb.f fun h => g6 h.2.2.2
                have h0 := yes g0
                have h1 := yes g1
                have h2 := yes g2
                have h3 := yes g3
                have h4 := yes g4
                have h5 := yes g5
                have h6 := no g6
                clear hb g0 g1 g2 g3 g4 g5 g6
                go_wp2_with fail
                refine (bnum_any V h0).mono ?_
                rintro e w0 ⟨rfl, hw0⟩
                obtain rfl : V = w0 := hw0.symm
                go_wp2_with fail
                refine (bnum_any V h1).mono ?_
                rintro e w1 ⟨rfl, hw1⟩
                obtain rfl : V = w1 := hw1.symm
                go_wp2_with fail
                refine (bin_any V h2).mono ?_
                rintro e w2 ⟨rfl, hw2⟩
                obtain rfl : V = w2 := hw2.symm
                go_wp2_with fail
                refine (bin_any V h3).mono ?_
                rintro e w3 ⟨rfl, hw3⟩
                obtain rfl : V = w3 := hw3.symm
                go_wp2_with fail
                refine (bid_any V h4).mono ?_
                rintro e w4 ⟨rfl, hw4⟩
                obtain rfl : V = w4 := hw4.symm
                go_wp2_with fail
                refine (bin_any V h5).mono ?_
                rintro e w5 ⟨rfl, hw5⟩
                obtain rfl : V = w5 := hw5.symm
                go_wp2_with fail
                refine (bin_any V h6).mono ?_
                rintro e w6 ⟨rfl, hw6⟩
                obtain rfl : V = w6 := hw6.symm
                go_wp2
                go_ret
                exact ⟨rfl, HX.below⟩
            · obtain rfl : b = false := hb.f fun h => g5 h.2.2.1
              have h0 := yes g0
              have h1 := yes g1
              have h2 := yes g2
              have h3 := yes g3
              have h4 := yes g4
              have h5 := no g5
              clear hb g0 g1 g2 g3 g4 g5
              go_wp2_with fail
              refine (bnum_any V h0).mono ?_
              rintro e w0 ⟨rfl, hw0⟩
              obtain rfl : V = w0 := hw0.symm
              go_wp2_with fail
              refine (bnum_any V h1).mono ?_
              rintro e w1 ⟨rfl, hw1⟩
              obtain rfl : V = w1 := hw1.symm
              go_wp2_with fail
              refine (bin_any V h2).mono ?_
              rintro e w2 ⟨rfl, hw2⟩
              obtain rfl : V = w2 := hw2.symm
              go_wp2_with fail
              refine (bin_any V h3).mono ?_
              rintro e w3 ⟨rfl, hw3⟩
              obtain rfl : V = w3 := hw3.symm
              go_wp2_with fail
              refine (bid_any V h4).mono ?_
              rintro e w4 ⟨rfl, hw4⟩
              obtain rfl : V = w4 := hw4.symm
              go_wp2_with fail
              refine (bin_any V h5).mono ?_
              rintro e w5 ⟨rfl, hw5⟩
              obtain rfl : V = w5 := hw5.symm
              go_wp2
              go_ret
              exact ⟨rfl, HX.below⟩
          · obtain rfl : b = false := hb.f fun h => g4 h.2.1
            have h0 := yes g0
            have h1 := yes g1
            have h2 := yes g2
            have h3 := yes g3
            have h4 := no g4
            clear hb g0 g1 g2 g3 g4
            go_wp2_with fail
            refine (bnum_any V h0).mono ?_
            rintro e w0 ⟨rfl, hw0⟩
            obtain rfl : V = w0 := hw0.symm
            go_wp2_with fail
            refine (bnum_any V h1).mono ?_
            rintro e w1 ⟨rfl, hw1⟩
            obtain rfl : V = w1 := hw1.symm
            go_wp2_with fail
            refine (bin_any V h2).mono ?_
            rintro e w2 ⟨rfl, hw2⟩
            obtain rfl : V = w2 := hw2.symm
            go_wp2_with fail
            refine (bin_any V h3).mono ?_
            rintro e w3 ⟨rfl, hw3⟩
            obtain rfl : V = w3 := hw3.symm
            go_wp2_with fail
            refine (bid_any V h4).mono ?_
            rintro e w4 ⟨rfl, hw4⟩
            obtain rfl : V = w4 := hw4.symm
            go_wp2
            go_ret
            exact ⟨rfl, HX.below⟩
        · obtain rfl : b = false := hb.f fun h => g3 h.1.2.2.2
          have h0 := yes g0
          have h1 := yes g1
          have h2 := yes g2
          have h3 := no g3
          clear hb g0 g1 g2 g3
          by_cases g4 : 1 ≤ s.id ∧ s.id ≤ 9999
          · have h4 := yes g4
            clear g4
            go_wp2_with fail
            refine (bnum_any V h0).mono ?_
            rintro e w0 ⟨rfl, hw0⟩
            obtain rfl : V = w0 := hw0.symm
            go_wp2_with fail
            refine (bnum_any V h1).mono ?_
            rintro e w1 ⟨rfl, hw1⟩
            obtain rfl : V = w1 := hw1.symm
            go_wp2_with fail
            refine (bin_any V h2).mono ?_
            rintro e w2 ⟨rfl, hw2⟩
            obtain rfl : V = w2 := hw2.symm
            go_wp2_with fail
            refine (bin_any V h3).mono ?_
            rintro e w3 ⟨rfl, hw3⟩
            obtain rfl : V = w3 := hw3.symm
            go_wp2_with fail
            refine (bid_any V h4).mono ?_
            rintro e w4 ⟨rfl, hw4⟩
            obtain rfl : V = w4 := hw4.symm
            go_wp2
            go_ret
            exact ⟨rfl, HX.below⟩
          · have h4 := no g4
            clear g4
            go_wp2_with fail
            refine (bnum_any V h0).mono ?_
            rintro e w0 ⟨rfl, hw0⟩
            obtain rfl : V = w0 := hw0.symm
            go_wp2_with fail
            refine (bnum_any V h1).mono ?_
            rintro e w1 ⟨rfl, hw1⟩
            obtain rfl : V = w1 := hw1.symm
            go_wp2_with fail
            refine (bin_any V h2).mono ?_
            rintro e w2 ⟨rfl, hw2⟩
            obtain rfl : V = w2 := hw2.symm
            go_wp2_with fail
            refine (bin_any V h3).mono ?_
            rintro e w3 ⟨rfl, hw3⟩
            obtain rfl : V = w3 := hw3.symm
            go_wp2_with fail
            refine (bid_any V h4).mono ?_
            rintro e w4 ⟨rfl, hw4⟩
            obtain rfl : V = w4 := hw4.symm
            go_wp2
            go_ret
            exact ⟨rfl, HX.below⟩
      · obtain rfl : b = false := hb.f fun h => g2 h.1.2.2.1
        have h0 := yes g0
        have h1 := yes g1
        have h2 := no g2
        clear hb g0 g1 g2
        by_cases g4 : 1 ≤ s.id ∧ s.id ≤ 9999
        · have h4 := yes g4
          clear g4
          go_wp2_with fail
          refine (bnum_any V h0).mono ?_
          rintro e w0 ⟨rfl, hw0⟩
          obtain rfl : V = w0 := hw0.symm
          go_wp2_with fail
          refine (bnum_any V h1).mono ?_
          rintro e w1 ⟨rfl, hw1⟩
          obtain rfl : V = w1 := hw1.symm
          go_wp2_with fail
          refine (bin_any V h2).mono ?_
          rintro e w2 ⟨rfl, hw2⟩
          obtain rfl : V = w2 := hw2.symm
          go_wp2_with fail
          refine (bid_any V h4).mono ?_
          rintro e w4 ⟨rfl, hw4⟩
          obtain rfl : V = w4 := hw4.symm
          go_wp2
          go_ret
          exact ⟨rfl, HX.below⟩
        · have h4 := no g4
          clear g4
          go_wp2_with fail
          refine (bnum_any V h0).mono ?_
          rintro e w0 ⟨rfl, hw0⟩
          obtain rfl : V = w0 := hw0.symm
          go_wp2_with fail
          refine (bnum_any V h1).mono ?_
          rintro e w1 ⟨rfl, hw1⟩
          obtain rfl : V = w1 := hw1.symm
          go_wp2_with fail
          refine (bin_any V h2).mono ?_
          rintro e w2 ⟨rfl, hw2⟩
          obtain rfl : V = w2 := hw2.symm
          go_wp2_with fail
          refine (bid_any V h4).mono ?_
          rintro e w4 ⟨rfl, hw4⟩
          obtain rfl : V = w4 := hw4.symm
          go_wp2
          go_ret
          exact ⟨rfl, HX.below⟩
    · obtain rfl : b = false := hb.f fun h => g1 h.1.2.1
      have h0 := yes g0
      have h1 := no g1
      clear hb g0 g1
      by_cases g4 : 1 ≤ s.id ∧ s.id ≤ 9999
      · have h4 := yes g4
        clear g4
        go_wp2_with fail
        refine (bnum_any V h0).mono ?_
        rintro e w0 ⟨rfl, hw0⟩
        obtain rfl : V = w0 := hw0.symm
        go_wp2_with fail
        refine (bnum_any V h1).mono ?_
        rintro e w1 ⟨rfl, hw1⟩
        obtain rfl : V = w1 := hw1.symm
        go_wp2_with fail
        refine (bid_any V h4).mono ?_
        rintro e w4 ⟨rfl, hw4⟩
        obtain rfl : V = w4 := hw4.symm
        go_wp2
        go_ret
        exact ⟨rfl, HX.below⟩
      · have h4 := no g4
        clear g4
        go_wp2_with fail
        refine (bnum_any V h0).mono ?_
        rintro e w0 ⟨rfl, hw0⟩
        obtain rfl : V = w0 := hw0.symm
        go_wp2_with fail
        refine (bnum_any V h1).mono ?_
        rintro e w1 ⟨rfl, hw1⟩
        obtain rfl : V = w1 := hw1.symm
        go_wp2_with fail
        refine (bid_any V h4).mono ?_
        rintro e w4 ⟨rfl, hw4⟩
        obtain rfl : V = w4 := hw4.symm
        go_wp2
        go_ret
        exact ⟨rfl, HX.below⟩
  · obtain rfl : b = false := hb.f fun h => g0 h.1.1
    have h0 := no g0
    clear hb g0
    by_cases g4 : 1 ≤ s.id ∧ s.id ≤ 9999
    · have h4 := yes g4
      clear g4
      go_wp2_with fail
      refine (bnum_any V h0).mono ?_
      rintro e w0 ⟨rfl, hw0⟩
      obtain rfl : V = w0 := hw0.symm
      go_wp2_with fail
      refine (bid_any V h4).mono ?_
      rintro e w4 ⟨rfl, hw4⟩
      obtain rfl : V = w4 := hw4.symm
      go_wp2
      go_ret
      exact ⟨rfl, HX.below⟩
    · have h4 := no g4
      clear g4
      go_wp2_with fail
      refine (bnum_any V h0).mono ?_
      rintro e w0 ⟨rfl, hw0⟩
      obtain rfl : V = w0 := hw0.symm
      go_wp2_with fail
      refine (bid_any V h4).mono ?_
      rintro e w4 ⟨rfl, hw4⟩
      obtain rfl : V = w4 := hw4.symm
      go_wp2
      go_ret
      exact ⟨rfl, HX.below⟩
set_option maxHeartbeats 1000000 in
set_option maxRecDepth 100000 in
theorem rspec_any {b : Bool} (s : Sp) (w : World) (hb : Tells b s.V) : Calls Tryz.prog 29 #[s.val] w (RetB w b) := by
  have HX := BL.one w #[.int .i64 s.id, .int .i64 s.ob, .int .i64 s.rv, .int .i64 s.os, .int .i64 s.rs, .int .i64 s.ax, .int .i64 s.wt] 42
  show Calls _ _ #[.agg #[.int .i64 s.id, .int .i64 s.ob, .int .i64 s.rv, .int .i64 s.os, .int .i64 s.rs, .int .i64 s.ax, .int .i64 s.wt]] w _
  go_enter Tryz.func29, Tryz.ntmps29
  go_upto_region 1 with fail
  generalize w.alloc (.cells #[.int .i64 s.id, .int .i64 s.ob, .int .i64 s.rv, .int .i64 s.os, .int .i64 s.rs, .int .i64 s.ax, .int .i64 s.wt] 42) = V at *
  have hc00 := HX.cell 0 0 rfl rfl
  have hc01 := HX.cell 0 1 rfl rfl
  have hc02 := HX.cell 0 2 rfl rfl
  have hc03 := HX.cell 0 3 rfl rfl
  have hc04 := HX.cell 0 4 rfl rfl
  have hc05 := HX.cell 0 5 rfl rfl
  have hc06 := HX.cell 0 6 rfl rfl
  try simp only [List.getElem_toArray, List.getElem_cons_zero, List.getElem_cons_succ] at hc00 hc01 hc02 hc03 hc04 hc05 hc06
  go_wp2_with fail
  refine (bspec_any s V hb).mono ?_
  rintro e w5 ⟨rfl, hb5⟩
  replace HX := HX.ext hb5
  go_wp2
  go_ret
  exact ⟨rfl, HX.below⟩
end Go.Proofs.YtilojhhmichemaaGreatDoor

namespace Go.Proofs.YtilojhhmichemaaGreatDoor
open Go.RowKit Go.Proofs Go

set_option maxHeartbeats 8000000 in
set_option maxRecDepth 100000 in
theorem rnormal_any : ∀ (t : TT) (turned : Bool) (w : World), t.tm.wf → t.tm.size ≤ 1000 → t.Mem w →
    Calls Tryz.prog 51 #[t.val, .bool turned] w (RetT w (t.tm.norm turned) (FrT w t)) := by
  refine fun t => TT.ind (P := fun t => ∀ (turned : Bool) (w : World), t.tm.wf → t.tm.size ≤ 1000 → t.Mem w → Calls Tryz.prog 51 #[t.val, .bool turned] w (RetT w (t.tm.norm turned) (FrT w t))) (fun t ih0 turned w hw hs HM0 => ?_) t
  obtain ⟨k, f, o, v, A, c, ks⟩ := t
  obtain ⟨HK, hl, HM⟩ := HM0.kids
  clear HM0
  have ih : ∀ x ∈ ks, ∀ (turned : Bool) (w : World), x.tm.wf → x.tm.size ≤ 1000 → x.Mem w → Calls Tryz.prog 51 #[x.val, .bool turned] w (RetT w (x.tm.norm turned) (FrT w x)) := ih0
  clear ih0
  show Calls _ _ #[.agg #[.int .i64 k, .int .i64 f, .int .i64 o, .int .i64 v, .slice A ks.length c], .bool turned] w _
  have hw2 := hw
  rw [TT.tm_mk, Tm.wf, Tm.wfL_iff] at hw2
  have hwk := Lib.hid (show ∀ x ∈ ks, x.tm.wf from fun x hx => hw2.2 _ (List.mem_map_of_mem hx))
  have hsk := Lib.hid (show ∀ x ∈ ks, x.tm.size ≤ 1000 from fun x hx => by have := TT.size_kid (t := TT.mk k f o v A c ks) hx; omega)
  have hskk := Lib.hid (show Tm.sizeL (ks.map TT.tm) ≤ 1000 by rw [TT.tm_mk, Tm.size] at hs; omega)
  have hkl : ks.length ≤ 1000 := by have h1 := Tm.sizeL_len (ks.map TT.tm); rw [List.length_map] at h1; have := hskk.out; omega
  have hsh := hw2.1
  clear hw2 hw hs
  have HX := BL.two w #[.int .i64 k, .int .i64 f, .int .i64 o, .int .i64 v, .slice A ks.length c] #[.int .i64 0, .int .i64 0, .int .i64 0, .int .i64 0, .slice none 0 0] 24 24
  obtain ⟨B, hB⟩ : ∃ B, Hid (((w.alloc (.cells #[.int .i64 k, .int .i64 f, .int .i64 o, .int .i64 v, .slice A ks.length c] 24)).alloc (.cells #[.int .i64 0, .int .i64 0, .int .i64 0, .int .i64 0, .slice none 0 0] 24)).heap.size + 1 = B) := ⟨_, Lib.hid rfl⟩
  have hB2 : B = w.heap.size + 1 + 1 + 1 := by have h := hB.out; simp at h; omega
  rcases hsh with ⟨rfl, _, _, ho1, ho2, _, _, hks⟩ | ⟨hk, rfl, rfl, rfl, h2, _⟩ | ⟨rfl, rfl, rfl, rfl, h1⟩
  · rw [List.map_eq_nil_iff] at hks
    subst hks
    clear ih hwk hsk hskk
    go_enter Tryz.func51, Tryz.ntmps51
    go_upto_region 1 with fail
    generalize (w.alloc (.cells #[.int .i64 1, .int .i64 f, .int .i64 o, .int .i64 v, .slice A ([] : List TT).length c] 24)).alloc (.cells #[.int .i64 0, .int .i64 0, .int .i64 0, .int .i64 0, .slice none 0 0] 24) = V at *
    simp only [List.length_nil] at HX
    cases turned with
    | false =>
      have hres := Lib.hid (show (TT.mk 1 f o v A c []).tm = Tm.norm (TT.mk 1 f o v A c []).tm false by rw [TT.tm_mk, Tm.norm_cmp]; rfl)
      have hc00 := HX.cell 0 0 rfl rfl
      have hc01 := HX.cell 0 1 rfl rfl
      have hc02 := HX.cell 0 2 rfl rfl
      have hc03 := HX.cell 0 3 rfl rfl
      have hc04 := HX.cell 0 4 rfl rfl
      try simp only [List.getElem_toArray, List.getElem_cons_zero, List.getElem_cons_succ] at hc00 hc01 hc02 hc03 hc04
      have hc10 := HX.cell 1 0 rfl rfl
      have hc11 := HX.cell 1 1 rfl rfl
      have hc12 := HX.cell 1 2 rfl rfl
      have hc13 := HX.cell 1 3 rfl rfl
      have hc14 := HX.cell 1 4 rfl rfl
      try simp only [List.getElem_toArray, List.getElem_cons_zero, List.getElem_cons_succ] at hc10 hc11 hc12 hc13 hc14
      have hf10 := HX.free 1 0 rfl
      have hf11 := HX.free 1 1 rfl
      have hf12 := HX.free 1 2 rfl
      have hf13 := HX.free 1 3 rfl
      have hf14 := HX.free 1 4 rfl
      try simp only [] at hf10 hf11 hf12 hf13 hf14
      go_wp2
      clear hc10 hc11 hc12 hc13 hc14
      clear hf10 hf11 hf12 hf13 hf14
      have HG := grown_set5 V (w.heap.size + 1) (.int .i64 1) (.int .i64 f) (.int .i64 o) (.int .i64 v) (.slice A 0 c)
      replace HX := HX.put5 1 rfl (by omega) (by intro k q hk hne; match k, hk with | 0, hk => (simp at hk; subst hk; simp at hne ⊢; try omega) | 1, hk => (simp at hk; subst hk; simp at hne ⊢; try omega) | k + 2, hk => simp at hk) (.int .i64 1) (.int .i64 f) (.int .i64 o) (.int .i64 v) (.slice A 0 c)
      simp only [List.set_cons_zero, List.set_cons_succ] at HX
      generalize ((((V.setCell ⟨w.heap.size + 1, 0, none⟩ (.int .i64 1)).setCell ⟨w.heap.size + 1, 1, none⟩ (.int .i64 f)).setCell ⟨w.heap.size + 1, 2, none⟩ (.int .i64 o)).setCell ⟨w.heap.size + 1, 3, none⟩ (.int .i64 v)).setCell ⟨w.heap.size + 1, 4, none⟩ (.slice A 0 c) = Wz at *
      have hc10 := HX.cell 1 0 rfl rfl
      have hc11 := HX.cell 1 1 rfl rfl
      have hc12 := HX.cell 1 2 rfl rfl
      have hc13 := HX.cell 1 3 rfl rfl
      have hc14 := HX.cell 1 4 rfl rfl
      try simp only [List.getElem_toArray, List.getElem_cons_zero, List.getElem_cons_succ] at hc10 hc11 hc12 hc13 hc14
      exact bodyPost_ret (v := .agg #[.int .i64 1, .int .i64 f, .int .i64 o, .int .i64 v, .slice A 0 c]) (by simp [results, Tryz.results51, go_sem, hc10, hc11, hc12, hc13, hc14]) rfl (show RetT _ _ _ _ _ from ⟨TT.mk 1 f o v A c [], rfl, TT.Mem.leaf, hres.out, fun p hp => TT.Bl.leaf, HX.below⟩)
    | true =>
      rcases (show o = 1 ∨ o = 2 ∨ o = 3 ∨ o = 4 ∨ o = 5 ∨ o = 6 by omega) with ho1 | ho2 | ho3 | ho4 | ho5 | ho6
      · subst ho1
        have hres := Lib.hid (show (TT.mk 1 f 2 v A c []).tm = Tm.norm (TT.mk 1 f 1 v A c []).tm true by rw [TT.tm_mk, TT.tm_mk, Tm.norm_cmp]; rfl)
        have HX6 := HX.ext (below_alloc V (.cells #[.int .i64 0, .int .i64 2, .int .i64 1, .int .i64 6, .int .i64 5, .int .i64 4, .int .i64 3] 3))
        have hc00 := HX.cell 0 0 rfl rfl
        have hc01 := HX.cell 0 1 rfl rfl
        have hc02 := HX.cell 0 2 rfl rfl
        have hc03 := HX.cell 0 3 rfl rfl
        have hc04 := HX.cell 0 4 rfl rfl
        try simp only [List.getElem_toArray, List.getElem_cons_zero, List.getElem_cons_succ] at hc00 hc01 hc02 hc03 hc04
        have hd02 := HX6.cell 0 2 rfl rfl
        simp only [List.getElem_toArray, List.getElem_cons_zero, List.getElem_cons_succ] at hd02
        have hf02 := HX6.free 0 2 rfl
        simp only [] at hf02
        go_upto_region 5 with fail
        have HX7 := HX6.putc 0 (g := w.heap.size) (cs := #[.int .i64 1, .int .i64 f, .int .i64 1, .int .i64 v, .slice A 0 c]) rfl (by omega) 2 (by simp) (by intro k q hk hne; match k, hk with | 0, hk => (simp at hk; subst hk; simp at hne ⊢; try omega) | 1, hk => (simp at hk; subst hk; simp at hne ⊢; try omega) | k + 2, hk => simp at hk) (.int .i64 2)
        simp only [List.set_cons_zero] at HX7
        replace HX : BL w ((V.alloc (.cells #[.int .i64 0, .int .i64 2, .int .i64 1, .int .i64 6, .int .i64 5, .int .i64 4, .int .i64 3] 3)).setCell ⟨w.heap.size, 2, none⟩ (.int .i64 2)) [(w.heap.size, #[.int .i64 1, .int .i64 f, .int .i64 2, .int .i64 v, .slice A 0 c], 24), (w.heap.size + 1, #[.int .i64 0, .int .i64 0, .int .i64 0, .int .i64 0, .slice none 0 0], 24)] := HX7
        clear HX7 HX6 hf02 hd02 hc00 hc01 hc02 hc03 hc04
        generalize (V.alloc (.cells #[.int .i64 0, .int .i64 2, .int .i64 1, .int .i64 6, .int .i64 5, .int .i64 4, .int .i64 3] 3)).setCell ⟨w.heap.size, 2, none⟩ (.int .i64 2) = V9 at *
        have hc00 := HX.cell 0 0 rfl rfl
        have hc01 := HX.cell 0 1 rfl rfl
        have hc02 := HX.cell 0 2 rfl rfl
        have hc03 := HX.cell 0 3 rfl rfl
        have hc04 := HX.cell 0 4 rfl rfl
        try simp only [List.getElem_toArray, List.getElem_cons_zero, List.getElem_cons_succ] at hc00 hc01 hc02 hc03 hc04
        have hc10 := HX.cell 1 0 rfl rfl
        have hc11 := HX.cell 1 1 rfl rfl
        have hc12 := HX.cell 1 2 rfl rfl
        have hc13 := HX.cell 1 3 rfl rfl
        have hc14 := HX.cell 1 4 rfl rfl
        try simp only [List.getElem_toArray, List.getElem_cons_zero, List.getElem_cons_succ] at hc10 hc11 hc12 hc13 hc14
        have hf10 := HX.free 1 0 rfl
        have hf11 := HX.free 1 1 rfl
        have hf12 := HX.free 1 2 rfl
        have hf13 := HX.free 1 3 rfl
        have hf14 := HX.free 1 4 rfl
        try simp only [] at hf10 hf11 hf12 hf13 hf14
        go_wp2
        clear hc10 hc11 hc12 hc13 hc14
        clear hf10 hf11 hf12 hf13 hf14
        have HG := grown_set5 V9 (w.heap.size + 1) (.int .i64 1) (.int .i64 f) (.int .i64 2) (.int .i64 v) (.slice A 0 c)
        replace HX := HX.put5 1 rfl (by omega) (by intro k q hk hne; match k, hk with | 0, hk => (simp at hk; subst hk; simp at hne ⊢; try omega) | 1, hk => (simp at hk; subst hk; simp at hne ⊢; try omega) | k + 2, hk => simp at hk) (.int .i64 1) (.int .i64 f) (.int .i64 2) (.int .i64 v) (.slice A 0 c)
        simp only [List.set_cons_zero, List.set_cons_succ] at HX
        generalize ((((V9.setCell ⟨w.heap.size + 1, 0, none⟩ (.int .i64 1)).setCell ⟨w.heap.size + 1, 1, none⟩ (.int .i64 f)).setCell ⟨w.heap.size + 1, 2, none⟩ (.int .i64 2)).setCell ⟨w.heap.size + 1, 3, none⟩ (.int .i64 v)).setCell ⟨w.heap.size + 1, 4, none⟩ (.slice A 0 c) = Wz at *
        have hc10 := HX.cell 1 0 rfl rfl
        have hc11 := HX.cell 1 1 rfl rfl
        have hc12 := HX.cell 1 2 rfl rfl
        have hc13 := HX.cell 1 3 rfl rfl
        have hc14 := HX.cell 1 4 rfl rfl
        try simp only [List.getElem_toArray, List.getElem_cons_zero, List.getElem_cons_succ] at hc10 hc11 hc12 hc13 hc14
        exact bodyPost_ret (v := .agg #[.int .i64 1, .int .i64 f, .int .i64 2, .int .i64 v, .slice A 0 c]) (by simp [results, Tryz.results51, go_sem, hc10, hc11, hc12, hc13, hc14]) rfl (show RetT _ _ _ _ _ from ⟨TT.mk 1 f 2 v A c [], rfl, TT.Mem.leaf, hres.out, fun p hp => TT.Bl.leaf, HX.below⟩)
      · subst ho2
        have hres := Lib.hid (show (TT.mk 1 f 1 v A c []).tm = Tm.norm (TT.mk 1 f 2 v A c []).tm true by rw [TT.tm_mk, TT.tm_mk, Tm.norm_cmp]; rfl)
        have HX6 := HX.ext (below_alloc V (.cells #[.int .i64 0, .int .i64 2, .int .i64 1, .int .i64 6, .int .i64 5, .int .i64 4, .int .i64 3] 3))
        have hc00 := HX.cell 0 0 rfl rfl
        have hc01 := HX.cell 0 1 rfl rfl
        have hc02 := HX.cell 0 2 rfl rfl
        have hc03 := HX.cell 0 3 rfl rfl
        have hc04 := HX.cell 0 4 rfl rfl
        try simp only [List.getElem_toArray, List.getElem_cons_zero, List.getElem_cons_succ] at hc00 hc01 hc02 hc03 hc04
        have hd02 := HX6.cell 0 2 rfl rfl
        simp only [List.getElem_toArray, List.getElem_cons_zero, List.getElem_cons_succ] at hd02
        have hf02 := HX6.free 0 2 rfl
        simp only [] at hf02
        go_upto_region 5 with fail
        have HX7 := HX6.putc 0 (g := w.heap.size) (cs := #[.int .i64 1, .int .i64 f, .int .i64 2, .int .i64 v, .slice A 0 c]) rfl (by omega) 2 (by simp) (by intro k q hk hne; match k, hk with | 0, hk => (simp at hk; subst hk; simp at hne ⊢; try omega) | 1, hk => (simp at hk; subst hk; simp at hne ⊢; try omega) | k + 2, hk => simp at hk) (.int .i64 1)
        simp only [List.set_cons_zero] at HX7
        replace HX : BL w ((V.alloc (.cells #[.int .i64 0, .int .i64 2, .int .i64 1, .int .i64 6, .int .i64 5, .int .i64 4, .int .i64 3] 3)).setCell ⟨w.heap.size, 2, none⟩ (.int .i64 1)) [(w.heap.size, #[.int .i64 1, .int .i64 f, .int .i64 1, .int .i64 v, .slice A 0 c], 24), (w.heap.size + 1, #[.int .i64 0, .int .i64 0, .int .i64 0, .int .i64 0, .slice none 0 0], 24)] := HX7
        clear HX7 HX6 hf02 hd02 hc00 hc01 hc02 hc03 hc04
        generalize (V.alloc (.cells #[.int .i64 0, .int .i64 2, .int .i64 1, .int .i64 6, .int .i64 5, .int .i64 4, .int .i64 3] 3)).setCell ⟨w.heap.size, 2, none⟩ (.int .i64 1) = V9 at *
        have hc00 := HX.cell 0 0 rfl rfl
        have hc01 := HX.cell 0 1 rfl rfl
        have hc02 := HX.cell 0 2 rfl rfl
        have hc03 := HX.cell 0 3 rfl rfl
        have hc04 := HX.cell 0 4 rfl rfl
        try simp only [List.getElem_toArray, List.getElem_cons_zero, List.getElem_cons_succ] at hc00 hc01 hc02 hc03 hc04
        have hc10 := HX.cell 1 0 rfl rfl
        have hc11 := HX.cell 1 1 rfl rfl
        have hc12 := HX.cell 1 2 rfl rfl
        have hc13 := HX.cell 1 3 rfl rfl
        have hc14 := HX.cell 1 4 rfl rfl
        try simp only [List.getElem_toArray, List.getElem_cons_zero, List.getElem_cons_succ] at hc10 hc11 hc12 hc13 hc14
        have hf10 := HX.free 1 0 rfl
        have hf11 := HX.free 1 1 rfl
        have hf12 := HX.free 1 2 rfl
        have hf13 := HX.free 1 3 rfl
        have hf14 := HX.free 1 4 rfl
        try simp only [] at hf10 hf11 hf12 hf13 hf14
        go_wp2
        clear hc10 hc11 hc12 hc13 hc14
        clear hf10 hf11 hf12 hf13 hf14
        have HG := grown_set5 V9 (w.heap.size + 1) (.int .i64 1) (.int .i64 f) (.int .i64 1) (.int .i64 v) (.slice A 0 c)
        replace HX := HX.put5 1 rfl (by omega) (by intro k q hk hne; match k, hk with | 0, hk => (simp at hk; subst hk; simp at hne ⊢; try omega) | 1, hk => (simp at hk; subst hk; simp at hne ⊢; try omega) | k + 2, hk => simp at hk) (.int .i64 1) (.int .i64 f) (.int .i64 1) (.int .i64 v) (.slice A 0 c)
        simp only [List.set_cons_zero, List.set_cons_succ] at HX
        generalize ((((V9.setCell ⟨w.heap.size + 1, 0, none⟩ (.int .i64 1)).setCell ⟨w.heap.size + 1, 1, none⟩ (.int .i64 f)).setCell ⟨w.heap.size + 1, 2, none⟩ (.int .i64 1)).setCell ⟨w.heap.size + 1, 3, none⟩ (.int .i64 v)).setCell ⟨w.heap.size + 1, 4, none⟩ (.slice A 0 c) = Wz at *
        have hc10 := HX.cell 1 0 rfl rfl
        have hc11 := HX.cell 1 1 rfl rfl
        have hc12 := HX.cell 1 2 rfl rfl
        have hc13 := HX.cell 1 3 rfl rfl
        have hc14 := HX.cell 1 4 rfl rfl
        try simp only [List.getElem_toArray, List.getElem_cons_zero, List.getElem_cons_succ] at hc10 hc11 hc12 hc13 hc14
        exact bodyPost_ret (v := .agg #[.int .i64 1, .int .i64 f, .int .i64 1, .int .i64 v, .slice A 0 c]) (by simp [results, Tryz.results51, go_sem, hc10, hc11, hc12, hc13, hc14]) rfl (show RetT _ _ _ _ _ from ⟨TT.mk 1 f 1 v A c [], rfl, TT.Mem.leaf, hres.out, fun p hp => TT.Bl.leaf, HX.below⟩)
      · subst ho3
        have hres := Lib.hid (show (TT.mk 1 f 6 v A c []).tm = Tm.norm (TT.mk 1 f 3 v A c []).tm true by rw [TT.tm_mk, TT.tm_mk, Tm.norm_cmp]; rfl)
        have HX6 := HX.ext (below_alloc V (.cells #[.int .i64 0, .int .i64 2, .int .i64 1, .int .i64 6, .int .i64 5, .int .i64 4, .int .i64 3] 3))
        have hc00 := HX.cell 0 0 rfl rfl
        have hc01 := HX.cell 0 1 rfl rfl
        have hc02 := HX.cell 0 2 rfl rfl
        have hc03 := HX.cell 0 3 rfl rfl
        have hc04 := HX.cell 0 4 rfl rfl
        try simp only [List.getElem_toArray, List.getElem_cons_zero, List.getElem_cons_succ] at hc00 hc01 hc02 hc03 hc04
        have hd02 := HX6.cell 0 2 rfl rfl
        simp only [List.getElem_toArray, List.getElem_cons_zero, List.getElem_cons_succ] at hd02
        have hf02 := HX6.free 0 2 rfl
        simp only [] at hf02
        go_upto_region 5 with fail
        have HX7 := HX6.putc 0 (g := w.heap.size) (cs := #[.int .i64 1, .int .i64 f, .int .i64 3, .int .i64 v, .slice A 0 c]) rfl (by omega) 2 (by simp) (by intro k q hk hne; match k, hk with | 0, hk => (simp at hk; subst hk; simp at hne ⊢; try omega) | 1, hk => (simp at hk; subst hk; simp at hne ⊢; try omega) | k + 2, hk => simp at hk) (.int .i64 6)
        simp only [List.set_cons_zero] at HX7
        replace HX : BL w ((V.alloc (.cells #[.int .i64 0, .int .i64 2, .int .i64 1, .int .i64 6, .int .i64 5, .int .i64 4, .int .i64 3] 3)).setCell ⟨w.heap.size, 2, none⟩ (.int .i64 6)) [(w.heap.size, #[.int .i64 1, .int .i64 f, .int .i64 6, .int .i64 v, .slice A 0 c], 24), (w.heap.size + 1, #[.int .i64 0, .int .i64 0, .int .i64 0, .int .i64 0, .slice none 0 0], 24)] := HX7
        clear HX7 HX6 hf02 hd02 hc00 hc01 hc02 hc03 hc04
        generalize (V.alloc (.cells #[.int .i64 0, .int .i64 2, .int .i64 1, .int .i64 6, .int .i64 5, .int .i64 4, .int .i64 3] 3)).setCell ⟨w.heap.size, 2, none⟩ (.int .i64 6) = V9 at *
        have hc00 := HX.cell 0 0 rfl rfl
        have hc01 := HX.cell 0 1 rfl rfl
        have hc02 := HX.cell 0 2 rfl rfl
        have hc03 := HX.cell 0 3 rfl rfl
        have hc04 := HX.cell 0 4 rfl rfl
        try simp only [List.getElem_toArray, List.getElem_cons_zero, List.getElem_cons_succ] at hc00 hc01 hc02 hc03 hc04
        have hc10 := HX.cell 1 0 rfl rfl
        have hc11 := HX.cell 1 1 rfl rfl
        have hc12 := HX.cell 1 2 rfl rfl
        have hc13 := HX.cell 1 3 rfl rfl
        have hc14 := HX.cell 1 4 rfl rfl
        try simp only [List.getElem_toArray, List.getElem_cons_zero, List.getElem_cons_succ] at hc10 hc11 hc12 hc13 hc14
        have hf10 := HX.free 1 0 rfl
        have hf11 := HX.free 1 1 rfl
        have hf12 := HX.free 1 2 rfl
        have hf13 := HX.free 1 3 rfl
        have hf14 := HX.free 1 4 rfl
        try simp only [] at hf10 hf11 hf12 hf13 hf14
        go_wp2
        clear hc10 hc11 hc12 hc13 hc14
        clear hf10 hf11 hf12 hf13 hf14
        have HG := grown_set5 V9 (w.heap.size + 1) (.int .i64 1) (.int .i64 f) (.int .i64 6) (.int .i64 v) (.slice A 0 c)
        replace HX := HX.put5 1 rfl (by omega) (by intro k q hk hne; match k, hk with | 0, hk => (simp at hk; subst hk; simp at hne ⊢; try omega) | 1, hk => (simp at hk; subst hk; simp at hne ⊢; try omega) | k + 2, hk => simp at hk) (.int .i64 1) (.int .i64 f) (.int .i64 6) (.int .i64 v) (.slice A 0 c)
        simp only [List.set_cons_zero, List.set_cons_succ] at HX
        generalize ((((V9.setCell ⟨w.heap.size + 1, 0, none⟩ (.int .i64 1)).setCell ⟨w.heap.size + 1, 1, none⟩ (.int .i64 f)).setCell ⟨w.heap.size + 1, 2, none⟩ (.int .i64 6)).setCell ⟨w.heap.size + 1, 3, none⟩ (.int .i64 v)).setCell ⟨w.heap.size + 1, 4, none⟩ (.slice A 0 c) = Wz at *
        have hc10 := HX.cell 1 0 rfl rfl
        have hc11 := HX.cell 1 1 rfl rfl
        have hc12 := HX.cell 1 2 rfl rfl
        have hc13 := HX.cell 1 3 rfl rfl
        have hc14 := HX.cell 1 4 rfl rfl
        try simp only [List.getElem_toArray, List.getElem_cons_zero, List.getElem_cons_succ] at hc10 hc11 hc12 hc13 hc14
        exact bodyPost_ret (v := .agg #[.int .i64 1, .int .i64 f, .int .i64 6, .int .i64 v, .slice A 0 c]) (by simp [results, Tryz.results51, go_sem, hc10, hc11, hc12, hc13, hc14]) rfl (show RetT _ _ _ _ _ from ⟨TT.mk 1 f 6 v A c [], rfl, TT.Mem.leaf, hres.out, fun p hp => TT.Bl.leaf, HX.below⟩)
      · subst ho4
        have hres := Lib.hid (show (TT.mk 1 f 5 v A c []).tm = Tm.norm (TT.mk 1 f 4 v A c []).tm true by rw [TT.tm_mk, TT.tm_mk, Tm.norm_cmp]; rfl)
        have HX6 := HX.ext (below_alloc V (.cells #[.int .i64 0, .int .i64 2, .int .i64 1, .int .i64 6, .int .i64 5, .int .i64 4, .int .i64 3] 3))
        have hc00 := HX.cell 0 0 rfl rfl
        have hc01 := HX.cell 0 1 rfl rfl
        have hc02 := HX.cell 0 2 rfl rfl
        have hc03 := HX.cell 0 3 rfl rfl
        have hc04 := HX.cell 0 4 rfl rfl
        try simp only [List.getElem_toArray, List.getElem_cons_zero, List.getElem_cons_succ] at hc00 hc01 hc02 hc03 hc04
        have hd02 := HX6.cell 0 2 rfl rfl
        simp only [List.getElem_toArray, List.getElem_cons_zero, List.getElem_cons_succ] at hd02
        have hf02 := HX6.free 0 2 rfl
        simp only [] at hf02
        go_upto_region 5 with fail
        have HX7 := HX6.putc 0 (g := w.heap.size) (cs := #[.int .i64 1, .int .i64 f, .int .i64 4, .int .i64 v, .slice A 0 c]) rfl (by omega) 2 (by simp) (by intro k q hk hne; match k, hk with | 0, hk => (simp at hk; subst hk; simp at hne ⊢; try omega) | 1, hk => (simp at hk; subst hk; simp at hne ⊢; try omega) | k + 2, hk => simp at hk) (.int .i64 5)
        simp only [List.set_cons_zero] at HX7
        replace HX : BL w ((V.alloc (.cells #[.int .i64 0, .int .i64 2, .int .i64 1, .int .i64 6, .int .i64 5, .int .i64 4, .int .i64 3] 3)).setCell ⟨w.heap.size, 2, none⟩ (.int .i64 5)) [(w.heap.size, #[.int .i64 1, .int .i64 f, .int .i64 5, .int .i64 v, .slice A 0 c], 24), (w.heap.size + 1, #[.int .i64 0, .int .i64 0, .int .i64 0, .int .i64 0, .slice none 0 0], 24)] := HX7
        clear HX7 HX6 hf02 hd02 hc00 hc01 hc02 hc03 hc04
        generalize (V.alloc (.cells #[.int .i64 0, .int .i64 2, .int .i64 1, .int .i64 6, .int .i64 5, .int .i64 4, .int .i64 3] 3)).setCell ⟨w.heap.size, 2, none⟩ (.int .i64 5) = V9 at *
        have hc00 := HX.cell 0 0 rfl rfl
        have hc01 := HX.cell 0 1 rfl rfl
        have hc02 := HX.cell 0 2 rfl rfl
        have hc03 := HX.cell 0 3 rfl rfl
        have hc04 := HX.cell 0 4 rfl rfl
        try simp only [List.getElem_toArray, List.getElem_cons_zero, List.getElem_cons_succ] at hc00 hc01 hc02 hc03 hc04
        have hc10 := HX.cell 1 0 rfl rfl
        have hc11 := HX.cell 1 1 rfl rfl
        have hc12 := HX.cell 1 2 rfl rfl
        have hc13 := HX.cell 1 3 rfl rfl
        have hc14 := HX.cell 1 4 rfl rfl
        try simp only [List.getElem_toArray, List.getElem_cons_zero, List.getElem_cons_succ] at hc10 hc11 hc12 hc13 hc14
        have hf10 := HX.free 1 0 rfl
        have hf11 := HX.free 1 1 rfl
        have hf12 := HX.free 1 2 rfl
        have hf13 := HX.free 1 3 rfl
        have hf14 := HX.free 1 4 rfl
        try simp only [] at hf10 hf11 hf12 hf13 hf14
        go_wp2
        clear hc10 hc11 hc12 hc13 hc14
        clear hf10 hf11 hf12 hf13 hf14
        have HG := grown_set5 V9 (w.heap.size + 1) (.int .i64 1) (.int .i64 f) (.int .i64 5) (.int .i64 v) (.slice A 0 c)
        replace HX := HX.put5 1 rfl (by omega) (by intro k q hk hne; match k, hk with | 0, hk => (simp at hk; subst hk; simp at hne ⊢; try omega) | 1, hk => (simp at hk; subst hk; simp at hne ⊢; try omega) | k + 2, hk => simp at hk) (.int .i64 1) (.int .i64 f) (.int .i64 5) (.int .i64 v) (.slice A 0 c)
        simp only [List.set_cons_zero, List.set_cons_succ] at HX
        generalize ((((V9.setCell ⟨w.heap.size + 1, 0, none⟩ (.int .i64 1)).setCell ⟨w.heap.size + 1, 1, none⟩ (.int .i64 f)).setCell ⟨w.heap.size + 1, 2, none⟩ (.int .i64 5)).setCell ⟨w.heap.size + 1, 3, none⟩ (.int .i64 v)).setCell ⟨w.heap.size + 1, 4, none⟩ (.slice A 0 c) = Wz at *
        have hc10 := HX.cell 1 0 rfl rfl
        have hc11 := HX.cell 1 1 rfl rfl
        have hc12 := HX.cell 1 2 rfl rfl
        have hc13 := HX.cell 1 3 rfl rfl
        have hc14 := HX.cell 1 4 rfl rfl
        try simp only [List.getElem_toArray, List.getElem_cons_zero, List.getElem_cons_succ] at hc10 hc11 hc12 hc13 hc14
        exact bodyPost_ret (v := .agg #[.int .i64 1, .int .i64 f, .int .i64 5, .int .i64 v, .slice A 0 c]) (by simp [results, Tryz.results51, go_sem, hc10, hc11, hc12, hc13, hc14]) rfl (show RetT _ _ _ _ _ from ⟨TT.mk 1 f 5 v A c [], rfl, TT.Mem.leaf, hres.out, fun p hp => TT.Bl.leaf, HX.below⟩)
      · subst ho5
        have hres := Lib.hid (show (TT.mk 1 f 4 v A c []).tm = Tm.norm (TT.mk 1 f 5 v A c []).tm true by rw [TT.tm_mk, TT.tm_mk, Tm.norm_cmp]; rfl)
        have HX6 := HX.ext (below_alloc V (.cells #[.int .i64 0, .int .i64 2, .int .i64 1, .int .i64 6, .int .i64 5, .int .i64 4, .int .i64 3] 3))
        have hc00 := HX.cell 0 0 rfl rfl
        have hc01 := HX.cell 0 1 rfl rfl
        have hc02 := HX.cell 0 2 rfl rfl
        have hc03 := HX.cell 0 3 rfl rfl
        have hc04 := HX.cell 0 4 rfl rfl
        try simp only [List.getElem_toArray, List.getElem_cons_zero, List.getElem_cons_succ] at hc00 hc01 hc02 hc03 hc04
        have hd02 := HX6.cell 0 2 rfl rfl
        simp only [List.getElem_toArray, List.getElem_cons_zero, List.getElem_cons_succ] at hd02
        have hf02 := HX6.free 0 2 rfl
        simp only [] at hf02
        go_upto_region 5 with fail
        have HX7 := HX6.putc 0 (g := w.heap.size) (cs := #[.int .i64 1, .int .i64 f, .int .i64 5, .int .i64 v, .slice A 0 c]) rfl (by omega) 2 (by simp) (by intro k q hk hne; match k, hk with | 0, hk => (simp at hk; subst hk; simp at hne ⊢; try omega) | 1, hk => (simp at hk; subst hk; simp at hne ⊢; try omega) | k + 2, hk => simp at hk) (.int .i64 4)
        simp only [List.set_cons_zero] at HX7
        replace HX : BL w ((V.alloc (.cells #[.int .i64 0, .int .i64 2, .int .i64 1, .int .i64 6, .int .i64 5, .int .i64 4, .int .i64 3] 3)).setCell ⟨w.heap.size, 2, none⟩ (.int .i64 4)) [(w.heap.size, #[.int .i64 1, .int .i64 f, .int .i64 4, .int .i64 v, .slice A 0 c], 24), (w.heap.size + 1, #[.int .i64 0, .int .i64 0, .int .i64 0, .int .i64 0, .slice none 0 0], 24)] := HX7
        clear HX7 HX6 hf02 hd02 hc00 hc01 hc02 hc03 hc04
        generalize (V.alloc (.cells #[.int .i64 0, .int .i64 2, .int .i64 1, .int .i64 6, .int .i64 5, .int .i64 4, .int .i64 3] 3)).setCell ⟨w.heap.size, 2, none⟩ (.int .i64 4) = V9 at *
        have hc00 := HX.cell 0 0 rfl rfl
        have hc01 := HX.cell 0 1 rfl rfl
        have hc02 := HX.cell 0 2 rfl rfl
        have hc03 := HX.cell 0 3 rfl rfl
        have hc04 := HX.cell 0 4 rfl rfl
        try simp only [List.getElem_toArray, List.getElem_cons_zero, List.getElem_cons_succ] at hc00 hc01 hc02 hc03 hc04
        have hc10 := HX.cell 1 0 rfl rfl
        have hc11 := HX.cell 1 1 rfl rfl
        have hc12 := HX.cell 1 2 rfl rfl
        have hc13 := HX.cell 1 3 rfl rfl
        have hc14 := HX.cell 1 4 rfl rfl
        try simp only [List.getElem_toArray, List.getElem_cons_zero, List.getElem_cons_succ] at hc10 hc11 hc12 hc13 hc14
        have hf10 := HX.free 1 0 rfl
        have hf11 := HX.free 1 1 rfl
        have hf12 := HX.free 1 2 rfl
        have hf13 := HX.free 1 3 rfl
        have hf14 := HX.free 1 4 rfl
        try simp only [] at hf10 hf11 hf12 hf13 hf14
        go_wp2
        clear hc10 hc11 hc12 hc13 hc14
        clear hf10 hf11 hf12 hf13 hf14
        have HG := grown_set5 V9 (w.heap.size + 1) (.int .i64 1) (.int .i64 f) (.int .i64 4) (.int .i64 v) (.slice A 0 c)
        replace HX := HX.put5 1 rfl (by omega) (by intro k q hk hne; match k, hk with | 0, hk => (simp at hk; subst hk; simp at hne ⊢; try omega) | 1, hk => (simp at hk; subst hk; simp at hne ⊢; try omega) | k + 2, hk => simp at hk) (.int .i64 1) (.int .i64 f) (.int .i64 4) (.int .i64 v) (.slice A 0 c)
        simp only [List.set_cons_zero, List.set_cons_succ] at HX
        generalize ((((V9.setCell ⟨w.heap.size + 1, 0, none⟩ (.int .i64 1)).setCell ⟨w.heap.size + 1, 1, none⟩ (.int .i64 f)).setCell ⟨w.heap.size + 1, 2, none⟩ (.int .i64 4)).setCell ⟨w.heap.size + 1, 3, none⟩ (.int .i64 v)).setCell ⟨w.heap.size + 1, 4, none⟩ (.slice A 0 c) = Wz at *
        have hc10 := HX.cell 1 0 rfl rfl
        have hc11 := HX.cell 1 1 rfl rfl
        have hc12 := HX.cell 1 2 rfl rfl
        have hc13 := HX.cell 1 3 rfl rfl
        have hc14 := HX.cell 1 4 rfl rfl
        try simp only [List.getElem_toArray, List.getElem_cons_zero, List.getElem_cons_succ] at hc10 hc11 hc12 hc13 hc14
        exact bodyPost_ret (v := .agg #[.int .i64 1, .int .i64 f, .int .i64 4, .int .i64 v, .slice A 0 c]) (by simp [results, Tryz.results51, go_sem, hc10, hc11, hc12, hc13, hc14]) rfl (show RetT _ _ _ _ _ from ⟨TT.mk 1 f 4 v A c [], rfl, TT.Mem.leaf, hres.out, fun p hp => TT.Bl.leaf, HX.below⟩)
      · subst ho6
        have hres := Lib.hid (show (TT.mk 1 f 3 v A c []).tm = Tm.norm (TT.mk 1 f 6 v A c []).tm true by rw [TT.tm_mk, TT.tm_mk, Tm.norm_cmp]; rfl)
        have HX6 := HX.ext (below_alloc V (.cells #[.int .i64 0, .int .i64 2, .int .i64 1, .int .i64 6, .int .i64 5, .int .i64 4, .int .i64 3] 3))
        have hc00 := HX.cell 0 0 rfl rfl
        have hc01 := HX.cell 0 1 rfl rfl
        have hc02 := HX.cell 0 2 rfl rfl
        have hc03 := HX.cell 0 3 rfl rfl
        have hc04 := HX.cell 0 4 rfl rfl
        try simp only [List.getElem_toArray, List.getElem_cons_zero, List.getElem_cons_succ] at hc00 hc01 hc02 hc03 hc04
        have hd02 := HX6.cell 0 2 rfl rfl
        simp only [List.getElem_toArray, List.getElem_cons_zero, List.getElem_cons_succ] at hd02
        have hf02 := HX6.free 0 2 rfl
        simp only [] at hf02
        go_upto_region 5 with fail
        have HX7 := HX6.putc 0 (g := w.heap.size) (cs := #[.int .i64 1, .int .i64 f, .int .i64 6, .int .i64 v, .slice A 0 c]) rfl (by omega) 2 (by simp) (by intro k q hk hne; match k, hk with | 0, hk => (simp at hk; subst hk; simp at hne ⊢; try omega) | 1, hk => (simp at hk; subst hk; simp at hne ⊢; try omega) | k + 2, hk => simp at hk) (.int .i64 3)
        simp only [List.set_cons_zero] at HX7
        replace HX : BL w ((V.alloc (.cells #[.int .i64 0, .int .i64 2, .int .i64 1, .int .i64 6, .int .i64 5, .int .i64 4, .int .i64 3] 3)).setCell ⟨w.heap.size, 2, none⟩ (.int .i64 3)) [(w.heap.size, #[.int .i64 1, .int .i64 f, .int .i64 3, .int .i64 v, .slice A 0 c], 24), (w.heap.size + 1, #[.int .i64 0, .int .i64 0, .int .i64 0, .int .i64 0, .slice none 0 0], 24)] := HX7
        clear HX7 HX6 hf02 hd02 hc00 hc01 hc02 hc03 hc04
        generalize (V.alloc (.cells #[.int .i64 0, .int .i64 2, .int .i64 1, .int .i64 6, .int .i64 5, .int .i64 4, .int .i64 3] 3)).setCell ⟨w.heap.size, 2, none⟩ (.int .i64 3) = V9 at *
        have hc00 := HX.cell 0 0 rfl rfl
        have hc01 := HX.cell 0 1 rfl rfl
        have hc02 := HX.cell 0 2 rfl rfl
        have hc03 := HX.cell 0 3 rfl rfl
        have hc04 := HX.cell 0 4 rfl rfl
        try simp only [List.getElem_toArray, List.getElem_cons_zero, List.getElem_cons_succ] at hc00 hc01 hc02 hc03 hc04
        have hc10 := HX.cell 1 0 rfl rfl
        have hc11 := HX.cell 1 1 rfl rfl
        have hc12 := HX.cell 1 2 rfl rfl
        have hc13 := HX.cell 1 3 rfl rfl
        have hc14 := HX.cell 1 4 rfl rfl
        try simp only [List.getElem_toArray, List.getElem_cons_zero, List.getElem_cons_succ] at hc10 hc11 hc12 hc13 hc14
        have hf10 := HX.free 1 0 rfl
        have hf11 := HX.free 1 1 rfl
        have hf12 := HX.free 1 2 rfl
        have hf13 := HX.free 1 3 rfl
        have hf14 := HX.free 1 4 rfl
        try simp only [] at hf10 hf11 hf12 hf13 hf14
        go_wp2
        clear hc10 hc11 hc12 hc13 hc14
        clear hf10 hf11 hf12 hf13 hf14
        have HG := grown_set5 V9 (w.heap.size + 1) (.int .i64 1) (.int .i64 f) (.int .i64 3) (.int .i64 v) (.slice A 0 c)
        replace HX := HX.put5 1 rfl (by omega) (by intro k q hk hne; match k, hk with | 0, hk => (simp at hk; subst hk; simp at hne ⊢; try omega) | 1, hk => (simp at hk; subst hk; simp at hne ⊢; try omega) | k + 2, hk => simp at hk) (.int .i64 1) (.int .i64 f) (.int .i64 3) (.int .i64 v) (.slice A 0 c)
        simp only [List.set_cons_zero, List.set_cons_succ] at HX
        generalize ((((V9.setCell ⟨w.heap.size + 1, 0, none⟩ (.int .i64 1)).setCell ⟨w.heap.size + 1, 1, none⟩ (.int .i64 f)).setCell ⟨w.heap.size + 1, 2, none⟩ (.int .i64 3)).setCell ⟨w.heap.size + 1, 3, none⟩ (.int .i64 v)).setCell ⟨w.heap.size + 1, 4, none⟩ (.slice A 0 c) = Wz at *
        have hc10 := HX.cell 1 0 rfl rfl
        have hc11 := HX.cell 1 1 rfl rfl
        have hc12 := HX.cell 1 2 rfl rfl
        have hc13 := HX.cell 1 3 rfl rfl
        have hc14 := HX.cell 1 4 rfl rfl
        try simp only [List.getElem_toArray, List.getElem_cons_zero, List.getElem_cons_succ] at hc10 hc11 hc12 hc13 hc14
        exact bodyPost_ret (v := .agg #[.int .i64 1, .int .i64 f, .int .i64 3, .int .i64 v, .slice A 0 c]) (by simp [results, Tryz.results51, go_sem, hc10, hc11, hc12, hc13, hc14]) rfl (show RetT _ _ _ _ _ from ⟨TT.mk 1 f 3 v A c [], rfl, TT.Mem.leaf, hres.out, fun p hp => TT.Bl.leaf, HX.below⟩)
  · rw [List.length_map] at h2
    replace h2 := Lib.hid h2
    go_enter Tryz.func51, Tryz.ntmps51
    go_upto_region 1 with fail
    generalize (w.alloc (.cells #[.int .i64 k, .int .i64 0, .int .i64 0, .int .i64 0, .slice A ks.length c] 24)).alloc (.cells #[.int .i64 0, .int .i64 0, .int .i64 0, .int .i64 0, .slice none 0 0] 24) = V at *
    have hVs : V.heap.size = w.heap.size + 1 + 1 := by have h := hB.out; omega
    rcases hk with rfl | rfl
    · cases turned with
      | false =>
        have hc00 := HX.cell 0 0 rfl rfl
        have hc01 := HX.cell 0 1 rfl rfl
        have hc02 := HX.cell 0 2 rfl rfl
        have hc03 := HX.cell 0 3 rfl rfl
        have hc04 := HX.cell 0 4 rfl rfl
        try simp only [List.getElem_toArray, List.getElem_cons_zero, List.getElem_cons_succ] at hc00 hc01 hc02 hc03 hc04
        go_upto_region 9 with fail
        have hb := below_alloc V (.cells #[.int .i64 2, .int .i64 0, .int .i64 0, .int .i64 0, .slice none 0 0] 24)
        replace HX := HX.new #[.int .i64 2, .int .i64 0, .int .i64 0, .int .i64 0, .slice none 0 0] 24
        simp only [List.nil_append, List.cons_append] at HX
        rw [hVs] at HX
        clear hb hc00 hc01 hc02 hc03 hc04
        generalize hV1e : V.alloc (.cells #[.int .i64 2, .int .i64 0, .int .i64 0, .int .i64 0, .slice none 0 0] 24) = V2 at *
        have hV2s : V2.heap.size = B := by rw [← hV1e]; simp; omega
        clear hV1e
        go_wp2
        go_loopg [6] ks.length (fun g i wr => ∃ (j : Nat) (A8 : Option Addr) (c8 : Nat) (us : List TT), j + g = ks.length ∧ i = .int .i64 (j : Int) ∧ BL w wr [(w.heap.size, #[.int .i64 2, .int .i64 0, .int .i64 0, .int .i64 0, .slice A ks.length c], 24), (w.heap.size + 1, #[.int .i64 0, .int .i64 0, .int .i64 0, .int .i64 0, .slice none 0 0], 24), (w.heap.size + 1 + 1, #[.int .i64 2, .int .i64 0, .int .i64 0, .int .i64 0, .slice A8 us.length c8], 24)] ∧ TT.TR 24 wr B A8 c8 us ∧ Hid (us.map TT.tm = Tm.flat 2 (Tm.normL (TT.pre ks j) false)) ∧ Hid (∀ p : Nat → Prop, (∀ x ∈ ks, x.Bl p) → ∀ x ∈ us, x.Bl (fun n => p n ∨ B ≤ n)) ∧ B ≤ wr.heap.size)
        case atStart => exact ⟨0, none, 0, [], by omega, rfl, HX, TT.TR.nil _ _ _, Lib.hid rfl, Lib.hid (fun p _ x hx => by simp at hx), by omega⟩
        case round =>
          clear HX
          obtain ⟨j, A8, c8, us, hj, rfl, HX, HT, hfl, hbp, hBr⟩ := hrel
          have hc04 := HX.cell 0 4 rfl rfl
          try simp only [List.getElem_toArray, List.getElem_cons_zero, List.getElem_cons_succ] at hc04
          by_cases hjl : j < ks.length
          · obtain ⟨x, hx⟩ : ∃ x, Hid (ks[j]? = some x) := ⟨_, Lib.hid (List.getElem?_eq_getElem hjl)⟩
            have hxm : x ∈ ks := List.mem_of_getElem? hx.out
            have hxM := (HM x hxm).ext HX.below
            have hxL : x.Bl (· < w.heap.size) := (HM x hxm).bl
            obtain ⟨ad, rfl, hadb, e0, e1, e2, e3, e4⟩ := (HK.ext HX.below).at_ hx.out
            have hnle := Lib.hid (show Tm.sizeL (Tm.normL (TT.pre ks (j + 1)) false) ≤ 1000 by
              have h1 := Tm.sizeL_norm false (ks := TT.pre ks (j + 1)) (fun t ht => by
                rw [TT.pre] at ht
                obtain ⟨x, hx, rfl⟩ := List.mem_map.1 ht
                exact (Tm.norm_size _ (hwk.out x (List.mem_of_mem_take hx)) _).1)
              have h2 := hskk.out
              rw [TT.pre_split ks (j + 1), Tm.sizeL_append] at h2
              omega)
            go_wp2_with fail
            refine (ih x hxm false wr (hwk.out x hxm) (hsk.out x hxm) hxM).mono ?_
            rintro e w5 ⟨y, he, hym, hyt, hyb, hb5⟩; obtain ⟨ky, fy, oy, vy, Ay, cy, ys⟩ := y; change e = .returned (.agg #[.int .i64 ky, .int .i64 fy, .int .i64 oy, .int .i64 vy, .slice Ay ys.length cy]) at he; subst he
            clear hc04 e0 e1 e2 e3 e4 hadb
            have hblk := HT.own.blk
            replace HT := HT.ext hb5
            replace HX := HX.ext hb5
            have hBr0 := hBr
            replace hBr := Nat.le_trans hBr hb5.size
            clear hxM
            go_upto_region 15 with fail
            have hb := below_alloc w5 (.cells #[.int .i64 ky, .int .i64 fy, .int .i64 oy, .int .i64 vy, .slice Ay ys.length cy] 24)
            have HXk := BL.one w5 #[.int .i64 ky, .int .i64 fy, .int .i64 oy, .int .i64 vy, .slice Ay ys.length cy] 24
            replace HX := HX.ext hb
            replace HT := HT.ext hb
            replace hym := hym.ext hb
            replace hBr := Nat.le_trans hBr hb.size
            have hsz6 := hb5.size
            clear hb hb5
            generalize w5.alloc (.cells #[.int .i64 ky, .int .i64 fy, .int .i64 oy, .int .i64 vy, .slice Ay ys.length cy] 24) = W1 at *
            generalize w5.heap.size = g1 at *
            have hk0 := HXk.cell 0 0 rfl rfl
            have hk1 := HXk.cell 0 1 rfl rfl
            have hk2 := HXk.cell 0 2 rfl rfl
            have hk3 := HXk.cell 0 3 rfl rfl
            have hk4 := HXk.cell 0 4 rfl rfl
            simp only [List.getElem_toArray, List.getElem_cons_zero, List.getElem_cons_succ] at hk0 hk1 hk2 hk3 hk4
            clear HXk
            obtain ⟨hyK, hyl, hyS⟩ := hym.kids
            have hpre := Lib.hid (show Tm.normL (TT.pre ks (j + 1)) false = Tm.normL (TT.pre ks j) false ++ [(TT.mk ky fy oy vy Ay cy ys).tm] by
              rw [TT.pre_succ hx.out, Tm.normL_map, List.map_append, ← Tm.normL_map]
              exact congrArg _ (congrArg (fun z => [z]) hyt.symm))
            have hflen := Lib.hid (show us.length + (if ky = 2 then ys.length else 1) ≤ 1000000 by
              have h1 := Tm.sizeL_flat 2 (Tm.normL (TT.pre ks (j + 1)) false)
              have h2 := Tm.sizeL_len (Tm.flat 2 (Tm.normL (TT.pre ks (j + 1)) false))
              have h3 : (Tm.flat 2 [(TT.mk ky fy oy vy Ay cy ys).tm]).length = if ky = 2 then ys.length else 1 := by
                rw [TT.tm_mk, Tm.flat, Tm.flat, List.append_nil]
                show (if ky = 2 then _ else _ : List Tm).length = _
                split
                · show (ys.map TT.tm).length = _; rw [List.length_map]
                · rfl
              have h4 : (Tm.flat 2 (Tm.normL (TT.pre ks (j + 1)) false)).length = us.length + if ky = 2 then ys.length else 1 := by rw [hpre.out, Tm.flat_append, ← hfl.out, List.length_append, List.length_map, h3]
              have := hnle.out
              omega)
            have hyB : ∀ p : Nat → Prop, x.Bl p → (TT.mk ky fy oy vy Ay cy ys).Bl (fun n => p n ∨ B ≤ n) := fun p hp => (hyb p hp).mono fun n hn => hn.elim .inl fun h => .inr (by omega)
            by_cases hkk : ky = 2
            · subst hkk
              rw [if_pos rfl] at hflen
              have hfl2 := Lib.hid (show (us ++ ys).map TT.tm = Tm.flat 2 (Tm.normL (TT.pre ks (j + 1)) false) by
                rw [hpre.out, Tm.flat_append, ← hfl.out, TT.tm_mk, Tm.flat, Tm.flat, List.append_nil, if_pos (by rfl), List.map_append]; rfl)
              have hbp2 := Lib.hid (show ∀ p : Nat → Prop, (∀ x ∈ ks, x.Bl p) → ∀ x ∈ us ++ ys, x.Bl (fun n => p n ∨ B ≤ n) from fun p hp z hz => by
                rcases List.mem_append.1 hz with h | h
                · exact hbp.out p hp z h
                · exact (TT.Bl_iff.1 (hyB p (hp x hxm))).2 z h)
              have hFar : ∀ ad, A8 = some ad → ∀ z ∈ ys, z.Bl (· ≠ ad.block) := fun ad e z hz => ((TT.Bl_iff.1 (hyb (· < w.heap.size) hxL)).2 z hz).mono fun n hn => by have := hblk ad e; show n ≠ ad.block; omega
              clear hfl hbp hpre hnle hblk
              have hc20 := HX.cell 2 0 rfl rfl
              have hc24 := HX.cell 2 4 rfl rfl
              try simp only [List.getElem_toArray, List.getElem_cons_zero, List.getElem_cons_succ] at hc20 hc24
              have hflo := hflen.out
              go_wp2_with (at_builtin; refine TT.wp_tpushes Tryz.underlying22 infoT _ rfl _ _ rfl rfl rfl HT hyK hyS hFar rfl rfl (by omega) hBr ?_; intro A9 c9 w9 HT9 hg9 hb9; have hBr2 := Nat.le_trans hBr hb9.size; replace HX := HX.low (by omega) (by intro i p hp; match i, hp with | 0, hp => (simp at hp; subst hp; simp; omega) | 1, hp => (simp at hp; subst hp; simp; omega) | 2, hp => (simp at hp; subst hp; simp; omega) | i + 3, hp => simp at hp) hb9; have hc24 := HX.cell 2 4 rfl rfl; have hf24 := HX.free 2 4 rfl; (try simp only [List.getElem_toArray, List.getElem_cons_zero, List.getElem_cons_succ] at hc24 hf24))
              try clear hc24
              try clear hf24
              replace HT9 := HT9.grown (g := w.heap.size + 1 + 1) (grown_set (grown_refl w9 _) 4 (.slice A9 (us.length + ys.length) c9)) (by omega) (fun x hx => (hbp2.out (· < w.heap.size) (fun y hy => (HM y hy).bl) x hx).mono fun n hn => by show n ≠ w.heap.size + 1 + 1; omega)
              replace HX := HX.putk 2 rfl (by omega) (by intro k q hk hne; match k, hk with | 0, hk => (simp at hk; subst hk; simp at hne ⊢; try omega) | 1, hk => (simp at hk; subst hk; simp at hne ⊢; try omega) | 2, hk => (simp at hk; subst hk; simp at hne ⊢; try omega) | k + 3, hk => simp at hk) (.slice A9 (us.length + ys.length) c9)
              simp only [List.set_cons_zero, List.set_cons_succ] at HX
              replace hBr2 : B ≤ (w9.setCell ⟨w.heap.size + 1 + 1, 4, none⟩ (.slice A9 (us.length + ys.length) c9)).heap.size := Nat.le_trans hBr2 (grown_set (grown_refl w9 _) 4 _).size
              go_wp2
              go_roundg (ks.length - (j + 1))
              case measure => omega
              case rel => exact ⟨j + 1, A9, c9, us ++ ys, by omega, by first | rfl | go_num, by simpa [List.length_append] using HX, HT9, hfl2, hbp2, hBr2⟩
            · rw [if_neg hkk] at hflen
              have qk : (ky == 2) = false := beq_eq_false_iff_ne.2 hkk
              have hfl2 := Lib.hid (show (us ++ [(TT.mk ky fy oy vy Ay cy ys)]).map TT.tm = Tm.flat 2 (Tm.normL (TT.pre ks (j + 1)) false) by
                rw [hpre.out, Tm.flat_append, ← hfl.out, TT.tm_mk, Tm.flat, Tm.flat, List.append_nil, if_neg (by exact hkk), List.map_append, List.map_cons, TT.tm_mk]; rfl)
              have hbp2 := Lib.hid (show ∀ p : Nat → Prop, (∀ x ∈ ks, x.Bl p) → ∀ x ∈ us ++ [(TT.mk ky fy oy vy Ay cy ys)], x.Bl (fun n => p n ∨ B ≤ n) from fun p hp z hz => by
                rcases List.mem_append.1 hz with h | h
                · exact hbp.out p hp z h
                · rw [List.mem_singleton.1 h]; exact hyB p (hp x hxm))
              have hFar : ∀ ad, A8 = some ad → (TT.mk ky fy oy vy Ay cy ys).Bl (· ≠ ad.block) := fun ad e => (hyb (· < w.heap.size) hxL).mono fun n hn => by have := hblk ad e; show n ≠ ad.block; omega
              clear hfl hbp hpre hnle hblk hkk
              have hc20 := HX.cell 2 0 rfl rfl
              have hc24 := HX.cell 2 4 rfl rfl
              try simp only [List.getElem_toArray, List.getElem_cons_zero, List.getElem_cons_succ] at hc20 hc24
              have hflo := hflen.out
              go_wp2_with (at_builtin; refine TT.wp_tpush Tryz.underlying22 infoT _ rfl _ _ rfl (TT.mk ky fy oy vy Ay cy ys) rfl rfl rfl HT hym hFar rfl (by omega) hBr ?_; intro A9 c9 w9 HT9 hb9 hs9; have hBr2 := Nat.le_trans hBr hb9.size; replace HX := HX.low (by omega) (by intro i p hp; match i, hp with | 0, hp => (simp at hp; subst hp; simp; omega) | 1, hp => (simp at hp; subst hp; simp; omega) | 2, hp => (simp at hp; subst hp; simp; omega) | i + 3, hp => simp at hp) hb9; have hc24 := HX.cell 2 4 rfl rfl; have hf24 := HX.free 2 4 rfl; (try simp only [List.getElem_toArray, List.getElem_cons_zero, List.getElem_cons_succ] at hc24 hf24))
              try clear hc24
              try clear hf24
              replace HT9 := HT9.grown (g := w.heap.size + 1 + 1) (grown_set (grown_refl w9 _) 4 (.slice A9 (us.length + 1) c9)) (by omega) (fun x hx => (hbp2.out (· < w.heap.size) (fun y hy => (HM y hy).bl) x hx).mono fun n hn => by show n ≠ w.heap.size + 1 + 1; omega)
              replace HX := HX.putk 2 rfl (by omega) (by intro k q hk hne; match k, hk with | 0, hk => (simp at hk; subst hk; simp at hne ⊢; try omega) | 1, hk => (simp at hk; subst hk; simp at hne ⊢; try omega) | 2, hk => (simp at hk; subst hk; simp at hne ⊢; try omega) | k + 3, hk => simp at hk) (.slice A9 (us.length + 1) c9)
              simp only [List.set_cons_zero, List.set_cons_succ] at HX
              replace hBr2 : B ≤ (w9.setCell ⟨w.heap.size + 1 + 1, 4, none⟩ (.slice A9 (us.length + 1) c9)).heap.size := Nat.le_trans hBr2 (grown_set (grown_refl w9 _) 4 _).size
              go_wp2
              go_roundg (ks.length - (j + 1))
              case measure => omega
              case rel => exact ⟨j + 1, A9, c9, us ++ [(TT.mk ky fy oy vy Ay cy ys)], by omega, by first | rfl | go_num, by simpa [List.length_append] using HX, HT9, hfl2, hbp2, hBr2⟩
          · obtain rfl : j = ks.length := by omega
            rw [TT.pre_all] at hfl
            have hres := Lib.hid (show (TT.mk 2 0 0 0 A8 c8 us).tm = Tm.norm (TT.mk 2 0 0 0 A c ks).tm false by
              rw [TT.tm_mk, hfl.out, TT.tm_mk, Tm.norm_list _ (by omega) (by rw [List.length_map]; exact h2.out)]; rfl)
            have hnew : FrT w (TT.mk 2 0 0 0 A c ks) (TT.mk 2 0 0 0 A8 c8 us) := fun p hp => TT.Bl_iff.2 ⟨fun _ ad e => .inr (by have := (HT.own.blk ad e).1; omega), fun z hz => (hbp.out p (TT.Bl_iff.1 hp).2 z hz).mono fun n hn => hn.elim .inl fun h => .inr (by omega)⟩
            have hc20 := HX.cell 2 0 rfl rfl
            have hc21 := HX.cell 2 1 rfl rfl
            have hc22 := HX.cell 2 2 rfl rfl
            have hc23 := HX.cell 2 3 rfl rfl
            have hc24 := HX.cell 2 4 rfl rfl
            try simp only [List.getElem_toArray, List.getElem_cons_zero, List.getElem_cons_succ] at hc20 hc21 hc22 hc23 hc24
            have hc10 := HX.cell 1 0 rfl rfl
            have hc11 := HX.cell 1 1 rfl rfl
            have hc12 := HX.cell 1 2 rfl rfl
            have hc13 := HX.cell 1 3 rfl rfl
            have hc14 := HX.cell 1 4 rfl rfl
            try simp only [List.getElem_toArray, List.getElem_cons_zero, List.getElem_cons_succ] at hc10 hc11 hc12 hc13 hc14
            have hf10 := HX.free 1 0 rfl
            have hf11 := HX.free 1 1 rfl
            have hf12 := HX.free 1 2 rfl
            have hf13 := HX.free 1 3 rfl
            have hf14 := HX.free 1 4 rfl
            try simp only [] at hf10 hf11 hf12 hf13 hf14
            go_wp2
            clear hc10 hc11 hc12 hc13 hc14
            clear hf10 hf11 hf12 hf13 hf14
            have HG := grown_set5 wr (w.heap.size + 1) (.int .i64 2) (.int .i64 0) (.int .i64 0) (.int .i64 0) (.slice A8 us.length c8)
            replace HX := HX.put5 1 rfl (by omega) (by intro k q hk hne; match k, hk with | 0, hk => (simp at hk; subst hk; simp at hne ⊢; try omega) | 1, hk => (simp at hk; subst hk; simp at hne ⊢; try omega) | 2, hk => (simp at hk; subst hk; simp at hne ⊢; try omega) | k + 3, hk => simp at hk) (.int .i64 2) (.int .i64 0) (.int .i64 0) (.int .i64 0) (.slice A8 us.length c8)
            simp only [List.set_cons_zero, List.set_cons_succ] at HX
            have HT2 := HT.grown HG (by omega) (fun x hx => (hbp.out (· < w.heap.size) (fun y hy => (HM y hy).bl) x hx).mono fun n hn => by show n ≠ w.heap.size + 1; omega)
            have hmem := (TT.Mem_iff (t := TT.mk 2 0 0 0 A8 c8 us)).2 ⟨HT2.reads, by have := HT2.len; show us.length ≤ _; omega, HT2.mem⟩
            generalize ((((wr.setCell ⟨w.heap.size + 1, 0, none⟩ (.int .i64 2)).setCell ⟨w.heap.size + 1, 1, none⟩ (.int .i64 0)).setCell ⟨w.heap.size + 1, 2, none⟩ (.int .i64 0)).setCell ⟨w.heap.size + 1, 3, none⟩ (.int .i64 0)).setCell ⟨w.heap.size + 1, 4, none⟩ (.slice A8 us.length c8) = Wz at *
            have hc10 := HX.cell 1 0 rfl rfl
            have hc11 := HX.cell 1 1 rfl rfl
            have hc12 := HX.cell 1 2 rfl rfl
            have hc13 := HX.cell 1 3 rfl rfl
            have hc14 := HX.cell 1 4 rfl rfl
            try simp only [List.getElem_toArray, List.getElem_cons_zero, List.getElem_cons_succ] at hc10 hc11 hc12 hc13 hc14
            exact bodyPost_ret (v := .agg #[.int .i64 2, .int .i64 0, .int .i64 0, .int .i64 0, .slice A8 us.length c8]) (by simp [results, Tryz.results51, go_sem, hc10, hc11, hc12, hc13, hc14]) rfl (show RetT _ _ _ _ _ from ⟨TT.mk 2 0 0 0 A8 c8 us, rfl, hmem, hres.out, hnew, HX.below⟩)
      | true =>
        have hc00 := HX.cell 0 0 rfl rfl
        have hc01 := HX.cell 0 1 rfl rfl
        have hc02 := HX.cell 0 2 rfl rfl
        have hc03 := HX.cell 0 3 rfl rfl
        have hc04 := HX.cell 0 4 rfl rfl
        try simp only [List.getElem_toArray, List.getElem_cons_zero, List.getElem_cons_succ] at hc00 hc01 hc02 hc03 hc04
        go_upto_region 9 with fail
        have hb := below_alloc V (.cells #[.int .i64 2, .int .i64 0, .int .i64 0, .int .i64 0, .slice none 0 0] 24)
        replace HX := HX.new #[.int .i64 2, .int .i64 0, .int .i64 0, .int .i64 0, .slice none 0 0] 24
        simp only [List.nil_append, List.cons_append] at HX
        rw [hVs] at HX
        clear hb hc00 hc01 hc02 hc03 hc04
        generalize hV1e : V.alloc (.cells #[.int .i64 2, .int .i64 0, .int .i64 0, .int .i64 0, .slice none 0 0] 24) = V1 at *
        have hV1s : V1.heap.size = B := by rw [← hV1e]; simp; omega
        clear hV1e
        have hc00 := HX.cell 0 0 rfl rfl
        try simp only [List.getElem_toArray, List.getElem_cons_zero] at hc00
        have hc20 := HX.cell 2 0 rfl rfl
        try simp only [List.getElem_toArray, List.getElem_cons_zero] at hc20
        have hf20 := HX.free 2 0 rfl
        simp only [] at hf20
        go_upto_region 11 with fail
        have HX7 := HX.putc 2 (g := w.heap.size + 1 + 1) (cs := #[.int .i64 2, .int .i64 0, .int .i64 0, .int .i64 0, .slice none 0 0]) rfl (by omega) 0 (by simp) (by intro k q hk hne; match k, hk with | 0, hk => (simp at hk; subst hk; simp at hne ⊢; try omega) | 1, hk => (simp at hk; subst hk; simp at hne ⊢; try omega) | 2, hk => (simp at hk; subst hk; simp at hne ⊢; try omega) | k + 3, hk => simp at hk) (.int .i64 3)
        simp only [List.set_cons_zero, List.set_cons_succ] at HX7
        have hV2s : (V1.setCell ⟨w.heap.size + 1 + 1, 0, none⟩ (.int .i64 3)).heap.size = B := by rw [← hV1s]; simp [World.setCell]
        replace HX : BL w (V1.setCell ⟨w.heap.size + 1 + 1, 0, none⟩ (.int .i64 3)) [(w.heap.size, #[.int .i64 2, .int .i64 0, .int .i64 0, .int .i64 0, .slice A ks.length c], 24), (w.heap.size + 1, #[.int .i64 0, .int .i64 0, .int .i64 0, .int .i64 0, .slice none 0 0], 24), (w.heap.size + 1 + 1, #[.int .i64 3, .int .i64 0, .int .i64 0, .int .i64 0, .slice none 0 0], 24)] := HX7
        clear HX7 hf20 hc00 hc20
        generalize V1.setCell ⟨w.heap.size + 1 + 1, 0, none⟩ (.int .i64 3) = V2 at *
        go_wp2
        go_loopg [6] ks.length (fun g i wr => ∃ (j : Nat) (A8 : Option Addr) (c8 : Nat) (us : List TT), j + g = ks.length ∧ i = .int .i64 (j : Int) ∧ BL w wr [(w.heap.size, #[.int .i64 2, .int .i64 0, .int .i64 0, .int .i64 0, .slice A ks.length c], 24), (w.heap.size + 1, #[.int .i64 0, .int .i64 0, .int .i64 0, .int .i64 0, .slice none 0 0], 24), (w.heap.size + 1 + 1, #[.int .i64 3, .int .i64 0, .int .i64 0, .int .i64 0, .slice A8 us.length c8], 24)] ∧ TT.TR 24 wr B A8 c8 us ∧ Hid (us.map TT.tm = Tm.flat 3 (Tm.normL (TT.pre ks j) true)) ∧ Hid (∀ p : Nat → Prop, (∀ x ∈ ks, x.Bl p) → ∀ x ∈ us, x.Bl (fun n => p n ∨ B ≤ n)) ∧ B ≤ wr.heap.size)
        case atStart => exact ⟨0, none, 0, [], by omega, rfl, HX, TT.TR.nil _ _ _, Lib.hid rfl, Lib.hid (fun p _ x hx => by simp at hx), by omega⟩
        case round =>
          clear HX
          obtain ⟨j, A8, c8, us, hj, rfl, HX, HT, hfl, hbp, hBr⟩ := hrel
          have hc04 := HX.cell 0 4 rfl rfl
          try simp only [List.getElem_toArray, List.getElem_cons_zero, List.getElem_cons_succ] at hc04
          by_cases hjl : j < ks.length
          · obtain ⟨x, hx⟩ : ∃ x, Hid (ks[j]? = some x) := ⟨_, Lib.hid (List.getElem?_eq_getElem hjl)⟩
            have hxm : x ∈ ks := List.mem_of_getElem? hx.out
            have hxM := (HM x hxm).ext HX.below
            have hxL : x.Bl (· < w.heap.size) := (HM x hxm).bl
            obtain ⟨ad, rfl, hadb, e0, e1, e2, e3, e4⟩ := (HK.ext HX.below).at_ hx.out
            have hnle := Lib.hid (show Tm.sizeL (Tm.normL (TT.pre ks (j + 1)) true) ≤ 1000 by
              have h1 := Tm.sizeL_norm true (ks := TT.pre ks (j + 1)) (fun t ht => by
                rw [TT.pre] at ht
                obtain ⟨x, hx, rfl⟩ := List.mem_map.1 ht
                exact (Tm.norm_size _ (hwk.out x (List.mem_of_mem_take hx)) _).1)
              have h2 := hskk.out
              rw [TT.pre_split ks (j + 1), Tm.sizeL_append] at h2
              omega)
            go_wp2_with fail
            refine (ih x hxm true wr (hwk.out x hxm) (hsk.out x hxm) hxM).mono ?_
            rintro e w5 ⟨y, he, hym, hyt, hyb, hb5⟩; obtain ⟨ky, fy, oy, vy, Ay, cy, ys⟩ := y; change e = .returned (.agg #[.int .i64 ky, .int .i64 fy, .int .i64 oy, .int .i64 vy, .slice Ay ys.length cy]) at he; subst he
            clear hc04 e0 e1 e2 e3 e4 hadb
            have hblk := HT.own.blk
            replace HT := HT.ext hb5
            replace HX := HX.ext hb5
            have hBr0 := hBr
            replace hBr := Nat.le_trans hBr hb5.size
            clear hxM
            go_upto_region 15 with fail
            have hb := below_alloc w5 (.cells #[.int .i64 ky, .int .i64 fy, .int .i64 oy, .int .i64 vy, .slice Ay ys.length cy] 24)
            have HXk := BL.one w5 #[.int .i64 ky, .int .i64 fy, .int .i64 oy, .int .i64 vy, .slice Ay ys.length cy] 24
            replace HX := HX.ext hb
            replace HT := HT.ext hb
            replace hym := hym.ext hb
            replace hBr := Nat.le_trans hBr hb.size
            have hsz6 := hb5.size
            clear hb hb5
            generalize w5.alloc (.cells #[.int .i64 ky, .int .i64 fy, .int .i64 oy, .int .i64 vy, .slice Ay ys.length cy] 24) = W1 at *
            generalize w5.heap.size = g1 at *
            have hk0 := HXk.cell 0 0 rfl rfl
            have hk1 := HXk.cell 0 1 rfl rfl
            have hk2 := HXk.cell 0 2 rfl rfl
            have hk3 := HXk.cell 0 3 rfl rfl
            have hk4 := HXk.cell 0 4 rfl rfl
            simp only [List.getElem_toArray, List.getElem_cons_zero, List.getElem_cons_succ] at hk0 hk1 hk2 hk3 hk4
            clear HXk
            obtain ⟨hyK, hyl, hyS⟩ := hym.kids
            have hpre := Lib.hid (show Tm.normL (TT.pre ks (j + 1)) true = Tm.normL (TT.pre ks j) true ++ [(TT.mk ky fy oy vy Ay cy ys).tm] by
              rw [TT.pre_succ hx.out, Tm.normL_map, List.map_append, ← Tm.normL_map]
              exact congrArg _ (congrArg (fun z => [z]) hyt.symm))
            have hflen := Lib.hid (show us.length + (if ky = 3 then ys.length else 1) ≤ 1000000 by
              have h1 := Tm.sizeL_flat 3 (Tm.normL (TT.pre ks (j + 1)) true)
              have h2 := Tm.sizeL_len (Tm.flat 3 (Tm.normL (TT.pre ks (j + 1)) true))
              have h3 : (Tm.flat 3 [(TT.mk ky fy oy vy Ay cy ys).tm]).length = if ky = 3 then ys.length else 1 := by
                rw [TT.tm_mk, Tm.flat, Tm.flat, List.append_nil]
                show (if ky = 3 then _ else _ : List Tm).length = _
                split
                · show (ys.map TT.tm).length = _; rw [List.length_map]
                · rfl
              have h4 : (Tm.flat 3 (Tm.normL (TT.pre ks (j + 1)) true)).length = us.length + if ky = 3 then ys.length else 1 := by rw [hpre.out, Tm.flat_append, ← hfl.out, List.length_append, List.length_map, h3]
              have := hnle.out
              omega)
            have hyB : ∀ p : Nat → Prop, x.Bl p → (TT.mk ky fy oy vy Ay cy ys).Bl (fun n => p n ∨ B ≤ n) := fun p hp => (hyb p hp).mono fun n hn => hn.elim .inl fun h => .inr (by omega)
            by_cases hkk : ky = 3
            · subst hkk
              rw [if_pos rfl] at hflen
              have hfl2 := Lib.hid (show (us ++ ys).map TT.tm = Tm.flat 3 (Tm.normL (TT.pre ks (j + 1)) true) by
                rw [hpre.out, Tm.flat_append, ← hfl.out, TT.tm_mk, Tm.flat, Tm.flat, List.append_nil, if_pos (by rfl), List.map_append]; rfl)
              have hbp2 := Lib.hid (show ∀ p : Nat → Prop, (∀ x ∈ ks, x.Bl p) → ∀ x ∈ us ++ ys, x.Bl (fun n => p n ∨ B ≤ n) from fun p hp z hz => by
                rcases List.mem_append.1 hz with h | h
                · exact hbp.out p hp z h
                · exact (TT.Bl_iff.1 (hyB p (hp x hxm))).2 z h)
              have hFar : ∀ ad, A8 = some ad → ∀ z ∈ ys, z.Bl (· ≠ ad.block) := fun ad e z hz => ((TT.Bl_iff.1 (hyb (· < w.heap.size) hxL)).2 z hz).mono fun n hn => by have := hblk ad e; show n ≠ ad.block; omega
              clear hfl hbp hpre hnle hblk
              have hc20 := HX.cell 2 0 rfl rfl
              have hc24 := HX.cell 2 4 rfl rfl
              try simp only [List.getElem_toArray, List.getElem_cons_zero, List.getElem_cons_succ] at hc20 hc24
              have hflo := hflen.out
              go_wp2_with (at_builtin; refine TT.wp_tpushes Tryz.underlying22 infoT _ rfl _ _ rfl rfl rfl HT hyK hyS hFar rfl rfl (by omega) hBr ?_; intro A9 c9 w9 HT9 hg9 hb9; have hBr2 := Nat.le_trans hBr hb9.size; replace HX := HX.low (by omega) (by intro i p hp; match i, hp with | 0, hp => (simp at hp; subst hp; simp; omega) | 1, hp => (simp at hp; subst hp; simp; omega) | 2, hp => (simp at hp; subst hp; simp; omega) | i + 3, hp => simp at hp) hb9; have hc24 := HX.cell 2 4 rfl rfl; have hf24 := HX.free 2 4 rfl; (try simp only [List.getElem_toArray, List.getElem_cons_zero, List.getElem_cons_succ] at hc24 hf24))
              try clear hc24
              try clear hf24
              replace HT9 := HT9.grown (g := w.heap.size + 1 + 1) (grown_set (grown_refl w9 _) 4 (.slice A9 (us.length + ys.length) c9)) (by omega) (fun x hx => (hbp2.out (· < w.heap.size) (fun y hy => (HM y hy).bl) x hx).mono fun n hn => by show n ≠ w.heap.size + 1 + 1; omega)
              replace HX := HX.putk 2 rfl (by omega) (by intro k q hk hne; match k, hk with | 0, hk => (simp at hk; subst hk; simp at hne ⊢; try omega) | 1, hk => (simp at hk; subst hk; simp at hne ⊢; try omega) | 2, hk => (simp at hk; subst hk; simp at hne ⊢; try omega) | k + 3, hk => simp at hk) (.slice A9 (us.length + ys.length) c9)
              simp only [List.set_cons_zero, List.set_cons_succ] at HX
              replace hBr2 : B ≤ (w9.setCell ⟨w.heap.size + 1 + 1, 4, none⟩ (.slice A9 (us.length + ys.length) c9)).heap.size := Nat.le_trans hBr2 (grown_set (grown_refl w9 _) 4 _).size
              go_wp2
              go_roundg (ks.length - (j + 1))
              case measure => omega
              case rel => exact ⟨j + 1, A9, c9, us ++ ys, by omega, by first | rfl | go_num, by simpa [List.length_append] using HX, HT9, hfl2, hbp2, hBr2⟩
            · rw [if_neg hkk] at hflen
              have qk : (ky == 3) = false := beq_eq_false_iff_ne.2 hkk
              have hfl2 := Lib.hid (show (us ++ [(TT.mk ky fy oy vy Ay cy ys)]).map TT.tm = Tm.flat 3 (Tm.normL (TT.pre ks (j + 1)) true) by
                rw [hpre.out, Tm.flat_append, ← hfl.out, TT.tm_mk, Tm.flat, Tm.flat, List.append_nil, if_neg (by exact hkk), List.map_append, List.map_cons, TT.tm_mk]; rfl)
              have hbp2 := Lib.hid (show ∀ p : Nat → Prop, (∀ x ∈ ks, x.Bl p) → ∀ x ∈ us ++ [(TT.mk ky fy oy vy Ay cy ys)], x.Bl (fun n => p n ∨ B ≤ n) from fun p hp z hz => by
                rcases List.mem_append.1 hz with h | h
                · exact hbp.out p hp z h
                · rw [List.mem_singleton.1 h]; exact hyB p (hp x hxm))
              have hFar : ∀ ad, A8 = some ad → (TT.mk ky fy oy vy Ay cy ys).Bl (· ≠ ad.block) := fun ad e => (hyb (· < w.heap.size) hxL).mono fun n hn => by have := hblk ad e; show n ≠ ad.block; omega
              clear hfl hbp hpre hnle hblk hkk
              have hc20 := HX.cell 2 0 rfl rfl
              have hc24 := HX.cell 2 4 rfl rfl
              try simp only [List.getElem_toArray, List.getElem_cons_zero, List.getElem_cons_succ] at hc20 hc24
              have hflo := hflen.out
              go_wp2_with (at_builtin; refine TT.wp_tpush Tryz.underlying22 infoT _ rfl _ _ rfl (TT.mk ky fy oy vy Ay cy ys) rfl rfl rfl HT hym hFar rfl (by omega) hBr ?_; intro A9 c9 w9 HT9 hb9 hs9; have hBr2 := Nat.le_trans hBr hb9.size; replace HX := HX.low (by omega) (by intro i p hp; match i, hp with | 0, hp => (simp at hp; subst hp; simp; omega) | 1, hp => (simp at hp; subst hp; simp; omega) | 2, hp => (simp at hp; subst hp; simp; omega) | i + 3, hp => simp at hp) hb9; have hc24 := HX.cell 2 4 rfl rfl; have hf24 := HX.free 2 4 rfl; (try simp only [List.getElem_toArray, List.getElem_cons_zero, List.getElem_cons_succ] at hc24 hf24))
              try clear hc24
              try clear hf24
              replace HT9 := HT9.grown (g := w.heap.size + 1 + 1) (grown_set (grown_refl w9 _) 4 (.slice A9 (us.length + 1) c9)) (by omega) (fun x hx => (hbp2.out (· < w.heap.size) (fun y hy => (HM y hy).bl) x hx).mono fun n hn => by show n ≠ w.heap.size + 1 + 1; omega)
              replace HX := HX.putk 2 rfl (by omega) (by intro k q hk hne; match k, hk with | 0, hk => (simp at hk; subst hk; simp at hne ⊢; try omega) | 1, hk => (simp at hk; subst hk; simp at hne ⊢; try omega) | 2, hk => (simp at hk; subst hk; simp at hne ⊢; try omega) | k + 3, hk => simp at hk) (.slice A9 (us.length + 1) c9)
              simp only [List.set_cons_zero, List.set_cons_succ] at HX
              replace hBr2 : B ≤ (w9.setCell ⟨w.heap.size + 1 + 1, 4, none⟩ (.slice A9 (us.length + 1) c9)).heap.size := Nat.le_trans hBr2 (grown_set (grown_refl w9 _) 4 _).size
              go_wp2
              go_roundg (ks.length - (j + 1))
              case measure => omega
              case rel => exact ⟨j + 1, A9, c9, us ++ [(TT.mk ky fy oy vy Ay cy ys)], by omega, by first | rfl | go_num, by simpa [List.length_append] using HX, HT9, hfl2, hbp2, hBr2⟩
          · obtain rfl : j = ks.length := by omega
            rw [TT.pre_all] at hfl
            have hres := Lib.hid (show (TT.mk 3 0 0 0 A8 c8 us).tm = Tm.norm (TT.mk 2 0 0 0 A c ks).tm true by
              rw [TT.tm_mk, hfl.out, TT.tm_mk, Tm.norm_list _ (by omega) (by rw [List.length_map]; exact h2.out)]; rfl)
            have hnew : FrT w (TT.mk 2 0 0 0 A c ks) (TT.mk 3 0 0 0 A8 c8 us) := fun p hp => TT.Bl_iff.2 ⟨fun _ ad e => .inr (by have := (HT.own.blk ad e).1; omega), fun z hz => (hbp.out p (TT.Bl_iff.1 hp).2 z hz).mono fun n hn => hn.elim .inl fun h => .inr (by omega)⟩
            have hc20 := HX.cell 2 0 rfl rfl
            have hc21 := HX.cell 2 1 rfl rfl
            have hc22 := HX.cell 2 2 rfl rfl
            have hc23 := HX.cell 2 3 rfl rfl
            have hc24 := HX.cell 2 4 rfl rfl
            try simp only [List.getElem_toArray, List.getElem_cons_zero, List.getElem_cons_succ] at hc20 hc21 hc22 hc23 hc24
            have hc10 := HX.cell 1 0 rfl rfl
            have hc11 := HX.cell 1 1 rfl rfl
            have hc12 := HX.cell 1 2 rfl rfl
            have hc13 := HX.cell 1 3 rfl rfl
            have hc14 := HX.cell 1 4 rfl rfl
            try simp only [List.getElem_toArray, List.getElem_cons_zero, List.getElem_cons_succ] at hc10 hc11 hc12 hc13 hc14
            have hf10 := HX.free 1 0 rfl
            have hf11 := HX.free 1 1 rfl
            have hf12 := HX.free 1 2 rfl
            have hf13 := HX.free 1 3 rfl
            have hf14 := HX.free 1 4 rfl
            try simp only [] at hf10 hf11 hf12 hf13 hf14
            go_wp2
            clear hc10 hc11 hc12 hc13 hc14
            clear hf10 hf11 hf12 hf13 hf14
            have HG := grown_set5 wr (w.heap.size + 1) (.int .i64 3) (.int .i64 0) (.int .i64 0) (.int .i64 0) (.slice A8 us.length c8)
            replace HX := HX.put5 1 rfl (by omega) (by intro k q hk hne; match k, hk with | 0, hk => (simp at hk; subst hk; simp at hne ⊢; try omega) | 1, hk => (simp at hk; subst hk; simp at hne ⊢; try omega) | 2, hk => (simp at hk; subst hk; simp at hne ⊢; try omega) | k + 3, hk => simp at hk) (.int .i64 3) (.int .i64 0) (.int .i64 0) (.int .i64 0) (.slice A8 us.length c8)
            simp only [List.set_cons_zero, List.set_cons_succ] at HX
            have HT2 := HT.grown HG (by omega) (fun x hx => (hbp.out (· < w.heap.size) (fun y hy => (HM y hy).bl) x hx).mono fun n hn => by show n ≠ w.heap.size + 1; omega)
            have hmem := (TT.Mem_iff (t := TT.mk 3 0 0 0 A8 c8 us)).2 ⟨HT2.reads, by have := HT2.len; show us.length ≤ _; omega, HT2.mem⟩
            generalize ((((wr.setCell ⟨w.heap.size + 1, 0, none⟩ (.int .i64 3)).setCell ⟨w.heap.size + 1, 1, none⟩ (.int .i64 0)).setCell ⟨w.heap.size + 1, 2, none⟩ (.int .i64 0)).setCell ⟨w.heap.size + 1, 3, none⟩ (.int .i64 0)).setCell ⟨w.heap.size + 1, 4, none⟩ (.slice A8 us.length c8) = Wz at *
            have hc10 := HX.cell 1 0 rfl rfl
            have hc11 := HX.cell 1 1 rfl rfl
            have hc12 := HX.cell 1 2 rfl rfl
            have hc13 := HX.cell 1 3 rfl rfl
            have hc14 := HX.cell 1 4 rfl rfl
            try simp only [List.getElem_toArray, List.getElem_cons_zero, List.getElem_cons_succ] at hc10 hc11 hc12 hc13 hc14
            exact bodyPost_ret (v := .agg #[.int .i64 3, .int .i64 0, .int .i64 0, .int .i64 0, .slice A8 us.length c8]) (by simp [results, Tryz.results51, go_sem, hc10, hc11, hc12, hc13, hc14]) rfl (show RetT _ _ _ _ _ from ⟨TT.mk 3 0 0 0 A8 c8 us, rfl, hmem, hres.out, hnew, HX.below⟩)
    · cases turned with
      | false =>
        have hc00 := HX.cell 0 0 rfl rfl
        have hc01 := HX.cell 0 1 rfl rfl
        have hc02 := HX.cell 0 2 rfl rfl
        have hc03 := HX.cell 0 3 rfl rfl
        have hc04 := HX.cell 0 4 rfl rfl
        try simp only [List.getElem_toArray, List.getElem_cons_zero, List.getElem_cons_succ] at hc00 hc01 hc02 hc03 hc04
        go_upto_region 9 with fail
        have hb := below_alloc V (.cells #[.int .i64 3, .int .i64 0, .int .i64 0, .int .i64 0, .slice none 0 0] 24)
        replace HX := HX.new #[.int .i64 3, .int .i64 0, .int .i64 0, .int .i64 0, .slice none 0 0] 24
        simp only [List.nil_append, List.cons_append] at HX
        rw [hVs] at HX
        clear hb hc00 hc01 hc02 hc03 hc04
        generalize hV1e : V.alloc (.cells #[.int .i64 3, .int .i64 0, .int .i64 0, .int .i64 0, .slice none 0 0] 24) = V2 at *
        have hV2s : V2.heap.size = B := by rw [← hV1e]; simp; omega
        clear hV1e
        go_wp2
        go_loopg [6] ks.length (fun g i wr => ∃ (j : Nat) (A8 : Option Addr) (c8 : Nat) (us : List TT), j + g = ks.length ∧ i = .int .i64 (j : Int) ∧ BL w wr [(w.heap.size, #[.int .i64 3, .int .i64 0, .int .i64 0, .int .i64 0, .slice A ks.length c], 24), (w.heap.size + 1, #[.int .i64 0, .int .i64 0, .int .i64 0, .int .i64 0, .slice none 0 0], 24), (w.heap.size + 1 + 1, #[.int .i64 3, .int .i64 0, .int .i64 0, .int .i64 0, .slice A8 us.length c8], 24)] ∧ TT.TR 24 wr B A8 c8 us ∧ Hid (us.map TT.tm = Tm.flat 3 (Tm.normL (TT.pre ks j) false)) ∧ Hid (∀ p : Nat → Prop, (∀ x ∈ ks, x.Bl p) → ∀ x ∈ us, x.Bl (fun n => p n ∨ B ≤ n)) ∧ B ≤ wr.heap.size)
        case atStart => exact ⟨0, none, 0, [], by omega, rfl, HX, TT.TR.nil _ _ _, Lib.hid rfl, Lib.hid (fun p _ x hx => by simp at hx), by omega⟩
        case round =>
          clear HX
          obtain ⟨j, A8, c8, us, hj, rfl, HX, HT, hfl, hbp, hBr⟩ := hrel
          have hc04 := HX.cell 0 4 rfl rfl
          try simp only [List.getElem_toArray, List.getElem_cons_zero, List.getElem_cons_succ] at hc04
          by_cases hjl : j < ks.length
          · obtain ⟨x, hx⟩ : ∃ x, Hid (ks[j]? = some x) := ⟨_, Lib.hid (List.getElem?_eq_getElem hjl)⟩
            have hxm : x ∈ ks := List.mem_of_getElem? hx.out
            have hxM := (HM x hxm).ext HX.below
            have hxL : x.Bl (· < w.heap.size) := (HM x hxm).bl
            obtain ⟨ad, rfl, hadb, e0, e1, e2, e3, e4⟩ := (HK.ext HX.below).at_ hx.out
            have hnle := Lib.hid (show Tm.sizeL (Tm.normL (TT.pre ks (j + 1)) false) ≤ 1000 by
              have h1 := Tm.sizeL_norm false (ks := TT.pre ks (j + 1)) (fun t ht => by
                rw [TT.pre] at ht
                obtain ⟨x, hx, rfl⟩ := List.mem_map.1 ht
                exact (Tm.norm_size _ (hwk.out x (List.mem_of_mem_take hx)) _).1)
              have h2 := hskk.out
              rw [TT.pre_split ks (j + 1), Tm.sizeL_append] at h2
              omega)
            go_wp2_with fail
            refine (ih x hxm false wr (hwk.out x hxm) (hsk.out x hxm) hxM).mono ?_
            rintro e w5 ⟨y, he, hym, hyt, hyb, hb5⟩; obtain ⟨ky, fy, oy, vy, Ay, cy, ys⟩ := y; change e = .returned (.agg #[.int .i64 ky, .int .i64 fy, .int .i64 oy, .int .i64 vy, .slice Ay ys.length cy]) at he; subst he
            clear hc04 e0 e1 e2 e3 e4 hadb
            have hblk := HT.own.blk
            replace HT := HT.ext hb5
            replace HX := HX.ext hb5
            have hBr0 := hBr
            replace hBr := Nat.le_trans hBr hb5.size
            clear hxM
            go_upto_region 15 with fail
            have hb := below_alloc w5 (.cells #[.int .i64 ky, .int .i64 fy, .int .i64 oy, .int .i64 vy, .slice Ay ys.length cy] 24)
            have HXk := BL.one w5 #[.int .i64 ky, .int .i64 fy, .int .i64 oy, .int .i64 vy, .slice Ay ys.length cy] 24
            replace HX := HX.ext hb
            replace HT := HT.ext hb
            replace hym := hym.ext hb
            replace hBr := Nat.le_trans hBr hb.size
            have hsz6 := hb5.size
            clear hb hb5
            generalize w5.alloc (.cells #[.int .i64 ky, .int .i64 fy, .int .i64 oy, .int .i64 vy, .slice Ay ys.length cy] 24) = W1 at *
            generalize w5.heap.size = g1 at *
            have hk0 := HXk.cell 0 0 rfl rfl
            have hk1 := HXk.cell 0 1 rfl rfl
            have hk2 := HXk.cell 0 2 rfl rfl
            have hk3 := HXk.cell 0 3 rfl rfl
            have hk4 := HXk.cell 0 4 rfl rfl
            simp only [List.getElem_toArray, List.getElem_cons_zero, List.getElem_cons_succ] at hk0 hk1 hk2 hk3 hk4
            clear HXk
            obtain ⟨hyK, hyl, hyS⟩ := hym.kids
            have hpre := Lib.hid (show Tm.normL (TT.pre ks (j + 1)) false = Tm.normL (TT.pre ks j) false ++ [(TT.mk ky fy oy vy Ay cy ys).tm] by
              rw [TT.pre_succ hx.out, Tm.normL_map, List.map_append, ← Tm.normL_map]
              exact congrArg _ (congrArg (fun z => [z]) hyt.symm))
            have hflen := Lib.hid (show us.length + (if ky = 3 then ys.length else 1) ≤ 1000000 by
              have h1 := Tm.sizeL_flat 3 (Tm.normL (TT.pre ks (j + 1)) false)
              have h2 := Tm.sizeL_len (Tm.flat 3 (Tm.normL (TT.pre ks (j + 1)) false))
              have h3 : (Tm.flat 3 [(TT.mk ky fy oy vy Ay cy ys).tm]).length = if ky = 3 then ys.length else 1 := by
                rw [TT.tm_mk, Tm.flat, Tm.flat, List.append_nil]
                show (if ky = 3 then _ else _ : List Tm).length = _
                split
                · show (ys.map TT.tm).length = _; rw [List.length_map]
                · rfl
              have h4 : (Tm.flat 3 (Tm.normL (TT.pre ks (j + 1)) false)).length = us.length + if ky = 3 then ys.length else 1 := by rw [hpre.out, Tm.flat_append, ← hfl.out, List.length_append, List.length_map, h3]
              have := hnle.out
              omega)
            have hyB : ∀ p : Nat → Prop, x.Bl p → (TT.mk ky fy oy vy Ay cy ys).Bl (fun n => p n ∨ B ≤ n) := fun p hp => (hyb p hp).mono fun n hn => hn.elim .inl fun h => .inr (by omega)
            by_cases hkk : ky = 3
            · subst hkk
              rw [if_pos rfl] at hflen
              have hfl2 := Lib.hid (show (us ++ ys).map TT.tm = Tm.flat 3 (Tm.normL (TT.pre ks (j + 1)) false) by
                rw [hpre.out, Tm.flat_append, ← hfl.out, TT.tm_mk, Tm.flat, Tm.flat, List.append_nil, if_pos (by rfl), List.map_append]; rfl)
              have hbp2 := Lib.hid (show ∀ p : Nat → Prop, (∀ x ∈ ks, x.Bl p) → ∀ x ∈ us ++ ys, x.Bl (fun n => p n ∨ B ≤ n) from fun p hp z hz => by
                rcases List.mem_append.1 hz with h | h
                · exact hbp.out p hp z h
                · exact (TT.Bl_iff.1 (hyB p (hp x hxm))).2 z h)
              have hFar : ∀ ad, A8 = some ad → ∀ z ∈ ys, z.Bl (· ≠ ad.block) := fun ad e z hz => ((TT.Bl_iff.1 (hyb (· < w.heap.size) hxL)).2 z hz).mono fun n hn => by have := hblk ad e; show n ≠ ad.block; omega
              clear hfl hbp hpre hnle hblk
              have hc20 := HX.cell 2 0 rfl rfl
              have hc24 := HX.cell 2 4 rfl rfl
              try simp only [List.getElem_toArray, List.getElem_cons_zero, List.getElem_cons_succ] at hc20 hc24
              have hflo := hflen.out
              go_wp2_with (at_builtin; refine TT.wp_tpushes Tryz.underlying22 infoT _ rfl _ _ rfl rfl rfl HT hyK hyS hFar rfl rfl (by omega) hBr ?_; intro A9 c9 w9 HT9 hg9 hb9; have hBr2 := Nat.le_trans hBr hb9.size; replace HX := HX.low (by omega) (by intro i p hp; match i, hp with | 0, hp => (simp at hp; subst hp; simp; omega) | 1, hp => (simp at hp; subst hp; simp; omega) | 2, hp => (simp at hp; subst hp; simp; omega) | i + 3, hp => simp at hp) hb9; have hc24 := HX.cell 2 4 rfl rfl; have hf24 := HX.free 2 4 rfl; (try simp only [List.getElem_toArray, List.getElem_cons_zero, List.getElem_cons_succ] at hc24 hf24))
              try clear hc24
              try clear hf24
              replace HT9 := HT9.grown (g := w.heap.size + 1 + 1) (grown_set (grown_refl w9 _) 4 (.slice A9 (us.length + ys.length) c9)) (by omega) (fun x hx => (hbp2.out (· < w.heap.size) (fun y hy => (HM y hy).bl) x hx).mono fun n hn => by show n ≠ w.heap.size + 1 + 1; omega)
              replace HX := HX.putk 2 rfl (by omega) (by intro k q hk hne; match k, hk with | 0, hk => (simp at hk; subst hk; simp at hne ⊢; try omega) | 1, hk => (simp at hk; subst hk; simp at hne ⊢; try omega) | 2, hk => (simp at hk; subst hk; simp at hne ⊢; try omega) | k + 3, hk => simp at hk) (.slice A9 (us.length + ys.length) c9)
              simp only [List.set_cons_zero, List.set_cons_succ] at HX
              replace hBr2 : B ≤ (w9.setCell ⟨w.heap.size + 1 + 1, 4, none⟩ (.slice A9 (us.length + ys.length) c9)).heap.size := Nat.le_trans hBr2 (grown_set (grown_refl w9 _) 4 _).size
              go_wp2
              go_roundg (ks.length - (j + 1))
              case measure => omega
              case rel => exact ⟨j + 1, A9, c9, us ++ ys, by omega, by first | rfl | go_num, by simpa [List.length_append] using HX, HT9, hfl2, hbp2, hBr2⟩
            · rw [if_neg hkk] at hflen
              have qk : (ky == 3) = false := beq_eq_false_iff_ne.2 hkk
              have hfl2 := Lib.hid (show (us ++ [(TT.mk ky fy oy vy Ay cy ys)]).map TT.tm = Tm.flat 3 (Tm.normL (TT.pre ks (j + 1)) false) by
                rw [hpre.out, Tm.flat_append, ← hfl.out, TT.tm_mk, Tm.flat, Tm.flat, List.append_nil, if_neg (by exact hkk), List.map_append, List.map_cons, TT.tm_mk]; rfl)
              have hbp2 := Lib.hid (show ∀ p : Nat → Prop, (∀ x ∈ ks, x.Bl p) → ∀ x ∈ us ++ [(TT.mk ky fy oy vy Ay cy ys)], x.Bl (fun n => p n ∨ B ≤ n) from fun p hp z hz => by
                rcases List.mem_append.1 hz with h | h
                · exact hbp.out p hp z h
                · rw [List.mem_singleton.1 h]; exact hyB p (hp x hxm))
              have hFar : ∀ ad, A8 = some ad → (TT.mk ky fy oy vy Ay cy ys).Bl (· ≠ ad.block) := fun ad e => (hyb (· < w.heap.size) hxL).mono fun n hn => by have := hblk ad e; show n ≠ ad.block; omega
              clear hfl hbp hpre hnle hblk hkk
              have hc20 := HX.cell 2 0 rfl rfl
              have hc24 := HX.cell 2 4 rfl rfl
              try simp only [List.getElem_toArray, List.getElem_cons_zero, List.getElem_cons_succ] at hc20 hc24
              have hflo := hflen.out
              go_wp2_with (at_builtin; refine TT.wp_tpush Tryz.underlying22 infoT _ rfl _ _ rfl (TT.mk ky fy oy vy Ay cy ys) rfl rfl rfl HT hym hFar rfl (by omega) hBr ?_; intro A9 c9 w9 HT9 hb9 hs9; have hBr2 := Nat.le_trans hBr hb9.size; replace HX := HX.low (by omega) (by intro i p hp; match i, hp with | 0, hp => (simp at hp; subst hp; simp; omega) | 1, hp => (simp at hp; subst hp; simp; omega) | 2, hp => (simp at hp; subst hp; simp; omega) | i + 3, hp => simp at hp) hb9; have hc24 := HX.cell 2 4 rfl rfl; have hf24 := HX.free 2 4 rfl; (try simp only [List.getElem_toArray, List.getElem_cons_zero, List.getElem_cons_succ] at hc24 hf24))
              try clear hc24
              try clear hf24
              replace HT9 := HT9.grown (g := w.heap.size + 1 + 1) (grown_set (grown_refl w9 _) 4 (.slice A9 (us.length + 1) c9)) (by omega) (fun x hx => (hbp2.out (· < w.heap.size) (fun y hy => (HM y hy).bl) x hx).mono fun n hn => by show n ≠ w.heap.size + 1 + 1; omega)
              replace HX := HX.putk 2 rfl (by omega) (by intro k q hk hne; match k, hk with | 0, hk => (simp at hk; subst hk; simp at hne ⊢; try omega) | 1, hk => (simp at hk; subst hk; simp at hne ⊢; try omega) | 2, hk => (simp at hk; subst hk; simp at hne ⊢; try omega) | k + 3, hk => simp at hk) (.slice A9 (us.length + 1) c9)
              simp only [List.set_cons_zero, List.set_cons_succ] at HX
              replace hBr2 : B ≤ (w9.setCell ⟨w.heap.size + 1 + 1, 4, none⟩ (.slice A9 (us.length + 1) c9)).heap.size := Nat.le_trans hBr2 (grown_set (grown_refl w9 _) 4 _).size
              go_wp2
              go_roundg (ks.length - (j + 1))
              case measure => omega
              case rel => exact ⟨j + 1, A9, c9, us ++ [(TT.mk ky fy oy vy Ay cy ys)], by omega, by first | rfl | go_num, by simpa [List.length_append] using HX, HT9, hfl2, hbp2, hBr2⟩
          · obtain rfl : j = ks.length := by omega
            rw [TT.pre_all] at hfl
            have hres := Lib.hid (show (TT.mk 3 0 0 0 A8 c8 us).tm = Tm.norm (TT.mk 3 0 0 0 A c ks).tm false by
              rw [TT.tm_mk, hfl.out, TT.tm_mk, Tm.norm_list _ (by omega) (by rw [List.length_map]; exact h2.out)]; rfl)
            have hnew : FrT w (TT.mk 3 0 0 0 A c ks) (TT.mk 3 0 0 0 A8 c8 us) := fun p hp => TT.Bl_iff.2 ⟨fun _ ad e => .inr (by have := (HT.own.blk ad e).1; omega), fun z hz => (hbp.out p (TT.Bl_iff.1 hp).2 z hz).mono fun n hn => hn.elim .inl fun h => .inr (by omega)⟩
            have hc20 := HX.cell 2 0 rfl rfl
            have hc21 := HX.cell 2 1 rfl rfl
            have hc22 := HX.cell 2 2 rfl rfl
            have hc23 := HX.cell 2 3 rfl rfl
            have hc24 := HX.cell 2 4 rfl rfl
            try simp only [List.getElem_toArray, List.getElem_cons_zero, List.getElem_cons_succ] at hc20 hc21 hc22 hc23 hc24
            have hc10 := HX.cell 1 0 rfl rfl
            have hc11 := HX.cell 1 1 rfl rfl
            have hc12 := HX.cell 1 2 rfl rfl
            have hc13 := HX.cell 1 3 rfl rfl
            have hc14 := HX.cell 1 4 rfl rfl
            try simp only [List.getElem_toArray, List.getElem_cons_zero, List.getElem_cons_succ] at hc10 hc11 hc12 hc13 hc14
            have hf10 := HX.free 1 0 rfl
            have hf11 := HX.free 1 1 rfl
            have hf12 := HX.free 1 2 rfl
            have hf13 := HX.free 1 3 rfl
            have hf14 := HX.free 1 4 rfl
            try simp only [] at hf10 hf11 hf12 hf13 hf14
            go_wp2
            clear hc10 hc11 hc12 hc13 hc14
            clear hf10 hf11 hf12 hf13 hf14
            have HG := grown_set5 wr (w.heap.size + 1) (.int .i64 3) (.int .i64 0) (.int .i64 0) (.int .i64 0) (.slice A8 us.length c8)
            replace HX := HX.put5 1 rfl (by omega) (by intro k q hk hne; match k, hk with | 0, hk => (simp at hk; subst hk; simp at hne ⊢; try omega) | 1, hk => (simp at hk; subst hk; simp at hne ⊢; try omega) | 2, hk => (simp at hk; subst hk; simp at hne ⊢; try omega) | k + 3, hk => simp at hk) (.int .i64 3) (.int .i64 0) (.int .i64 0) (.int .i64 0) (.slice A8 us.length c8)
            simp only [List.set_cons_zero, List.set_cons_succ] at HX
            have HT2 := HT.grown HG (by omega) (fun x hx => (hbp.out (· < w.heap.size) (fun y hy => (HM y hy).bl) x hx).mono fun n hn => by show n ≠ w.heap.size + 1; omega)
            have hmem := (TT.Mem_iff (t := TT.mk 3 0 0 0 A8 c8 us)).2 ⟨HT2.reads, by have := HT2.len; show us.length ≤ _; omega, HT2.mem⟩
            generalize ((((wr.setCell ⟨w.heap.size + 1, 0, none⟩ (.int .i64 3)).setCell ⟨w.heap.size + 1, 1, none⟩ (.int .i64 0)).setCell ⟨w.heap.size + 1, 2, none⟩ (.int .i64 0)).setCell ⟨w.heap.size + 1, 3, none⟩ (.int .i64 0)).setCell ⟨w.heap.size + 1, 4, none⟩ (.slice A8 us.length c8) = Wz at *
            have hc10 := HX.cell 1 0 rfl rfl
            have hc11 := HX.cell 1 1 rfl rfl
            have hc12 := HX.cell 1 2 rfl rfl
            have hc13 := HX.cell 1 3 rfl rfl
            have hc14 := HX.cell 1 4 rfl rfl
            try simp only [List.getElem_toArray, List.getElem_cons_zero, List.getElem_cons_succ] at hc10 hc11 hc12 hc13 hc14
            exact bodyPost_ret (v := .agg #[.int .i64 3, .int .i64 0, .int .i64 0, .int .i64 0, .slice A8 us.length c8]) (by simp [results, Tryz.results51, go_sem, hc10, hc11, hc12, hc13, hc14]) rfl (show RetT _ _ _ _ _ from ⟨TT.mk 3 0 0 0 A8 c8 us, rfl, hmem, hres.out, hnew, HX.below⟩)
      | true =>
        have hc00 := HX.cell 0 0 rfl rfl
        have hc01 := HX.cell 0 1 rfl rfl
        have hc02 := HX.cell 0 2 rfl rfl
        have hc03 := HX.cell 0 3 rfl rfl
        have hc04 := HX.cell 0 4 rfl rfl
        try simp only [List.getElem_toArray, List.getElem_cons_zero, List.getElem_cons_succ] at hc00 hc01 hc02 hc03 hc04
        go_upto_region 9 with fail
        have hb := below_alloc V (.cells #[.int .i64 3, .int .i64 0, .int .i64 0, .int .i64 0, .slice none 0 0] 24)
        replace HX := HX.new #[.int .i64 3, .int .i64 0, .int .i64 0, .int .i64 0, .slice none 0 0] 24
        simp only [List.nil_append, List.cons_append] at HX
        rw [hVs] at HX
        clear hb hc00 hc01 hc02 hc03 hc04
        generalize hV1e : V.alloc (.cells #[.int .i64 3, .int .i64 0, .int .i64 0, .int .i64 0, .slice none 0 0] 24) = V1 at *
        have hV1s : V1.heap.size = B := by rw [← hV1e]; simp; omega
        clear hV1e
        have hc00 := HX.cell 0 0 rfl rfl
        try simp only [List.getElem_toArray, List.getElem_cons_zero] at hc00
        have hc20 := HX.cell 2 0 rfl rfl
        try simp only [List.getElem_toArray, List.getElem_cons_zero] at hc20
        have hf20 := HX.free 2 0 rfl
        simp only [] at hf20
        go_upto_region 11 with fail
        have HX7 := HX.putc 2 (g := w.heap.size + 1 + 1) (cs := #[.int .i64 3, .int .i64 0, .int .i64 0, .int .i64 0, .slice none 0 0]) rfl (by omega) 0 (by simp) (by intro k q hk hne; match k, hk with | 0, hk => (simp at hk; subst hk; simp at hne ⊢; try omega) | 1, hk => (simp at hk; subst hk; simp at hne ⊢; try omega) | 2, hk => (simp at hk; subst hk; simp at hne ⊢; try omega) | k + 3, hk => simp at hk) (.int .i64 2)
        simp only [List.set_cons_zero, List.set_cons_succ] at HX7
        have hV2s : (V1.setCell ⟨w.heap.size + 1 + 1, 0, none⟩ (.int .i64 2)).heap.size = B := by rw [← hV1s]; simp [World.setCell]
        replace HX : BL w (V1.setCell ⟨w.heap.size + 1 + 1, 0, none⟩ (.int .i64 2)) [(w.heap.size, #[.int .i64 3, .int .i64 0, .int .i64 0, .int .i64 0, .slice A ks.length c], 24), (w.heap.size + 1, #[.int .i64 0, .int .i64 0, .int .i64 0, .int .i64 0, .slice none 0 0], 24), (w.heap.size + 1 + 1, #[.int .i64 2, .int .i64 0, .int .i64 0, .int .i64 0, .slice none 0 0], 24)] := HX7
        clear HX7 hf20 hc00 hc20
        generalize V1.setCell ⟨w.heap.size + 1 + 1, 0, none⟩ (.int .i64 2) = V2 at *
        go_wp2
        go_loopg [6] ks.length (fun g i wr => ∃ (j : Nat) (A8 : Option Addr) (c8 : Nat) (us : List TT), j + g = ks.length ∧ i = .int .i64 (j : Int) ∧ BL w wr [(w.heap.size, #[.int .i64 3, .int .i64 0, .int .i64 0, .int .i64 0, .slice A ks.length c], 24), (w.heap.size + 1, #[.int .i64 0, .int .i64 0, .int .i64 0, .int .i64 0, .slice none 0 0], 24), (w.heap.size + 1 + 1, #[.int .i64 2, .int .i64 0, .int .i64 0, .int .i64 0, .slice A8 us.length c8], 24)] ∧ TT.TR 24 wr B A8 c8 us ∧ Hid (us.map TT.tm = Tm.flat 2 (Tm.normL (TT.pre ks j) true)) ∧ Hid (∀ p : Nat → Prop, (∀ x ∈ ks, x.Bl p) → ∀ x ∈ us, x.Bl (fun n => p n ∨ B ≤ n)) ∧ B ≤ wr.heap.size)
        case atStart => exact ⟨0, none, 0, [], by omega, rfl, HX, TT.TR.nil _ _ _, Lib.hid rfl, Lib.hid (fun p _ x hx => by simp at hx), by omega⟩
        case round =>
          clear HX
          obtain ⟨j, A8, c8, us, hj, rfl, HX, HT, hfl, hbp, hBr⟩ := hrel
          have hc04 := HX.cell 0 4 rfl rfl
          try simp only [List.getElem_toArray, List.getElem_cons_zero, List.getElem_cons_succ] at hc04
          by_cases hjl : j < ks.length
          · obtain ⟨x, hx⟩ : ∃ x, Hid (ks[j]? = some x) := ⟨_, Lib.hid (List.getElem?_eq_getElem hjl)⟩
            have hxm : x ∈ ks := List.mem_of_getElem? hx.out
            have hxM := (HM x hxm).ext HX.below
            have hxL : x.Bl (· < w.heap.size) := (HM x hxm).bl
            obtain ⟨ad, rfl, hadb, e0, e1, e2, e3, e4⟩ := (HK.ext HX.below).at_ hx.out
            have hnle := Lib.hid (show Tm.sizeL (Tm.normL (TT.pre ks (j + 1)) true) ≤ 1000 by
              have h1 := Tm.sizeL_norm true (ks := TT.pre ks (j + 1)) (fun t ht => by
                rw [TT.pre] at ht
                obtain ⟨x, hx, rfl⟩ := List.mem_map.1 ht
                exact (Tm.norm_size _ (hwk.out x (List.mem_of_mem_take hx)) _).1)
              have h2 := hskk.out
              rw [TT.pre_split ks (j + 1), Tm.sizeL_append] at h2
              omega)
            go_wp2_with fail
            refine (ih x hxm true wr (hwk.out x hxm) (hsk.out x hxm) hxM).mono ?_
            rintro e w5 ⟨y, he, hym, hyt, hyb, hb5⟩; obtain ⟨ky, fy, oy, vy, Ay, cy, ys⟩ := y; change e = .returned (.agg #[.int .i64 ky, .int .i64 fy, .int .i64 oy, .int .i64 vy, .slice Ay ys.length cy]) at he; subst he
            clear hc04 e0 e1 e2 e3 e4 hadb
            have hblk := HT.own.blk
            replace HT := HT.ext hb5
            replace HX := HX.ext hb5
            have hBr0 := hBr
            replace hBr := Nat.le_trans hBr hb5.size
            clear hxM
            go_upto_region 15 with fail
            have hb := below_alloc w5 (.cells #[.int .i64 ky, .int .i64 fy, .int .i64 oy, .int .i64 vy, .slice Ay ys.length cy] 24)
            have HXk := BL.one w5 #[.int .i64 ky, .int .i64 fy, .int .i64 oy, .int .i64 vy, .slice Ay ys.length cy] 24
            replace HX := HX.ext hb
            replace HT := HT.ext hb
            replace hym := hym.ext hb
            replace hBr := Nat.le_trans hBr hb.size
            have hsz6 := hb5.size
            clear hb hb5
            generalize w5.alloc (.cells #[.int .i64 ky, .int .i64 fy, .int .i64 oy, .int .i64 vy, .slice Ay ys.length cy] 24) = W1 at *
            generalize w5.heap.size = g1 at *
            have hk0 := HXk.cell 0 0 rfl rfl
            have hk1 := HXk.cell 0 1 rfl rfl
            have hk2 := HXk.cell 0 2 rfl rfl
            have hk3 := HXk.cell 0 3 rfl rfl
            have hk4 := HXk.cell 0 4 rfl rfl
            simp only [List.getElem_toArray, List.getElem_cons_zero, List.getElem_cons_succ] at hk0 hk1 hk2 hk3 hk4
            clear HXk
            obtain ⟨hyK, hyl, hyS⟩ := hym.kids
            have hpre := Lib.hid (show Tm.normL (TT.pre ks (j + 1)) true = Tm.normL (TT.pre ks j) true ++ [(TT.mk ky fy oy vy Ay cy ys).tm] by
              rw [TT.pre_succ hx.out, Tm.normL_map, List.map_append, ← Tm.normL_map]
              exact congrArg _ (congrArg (fun z => [z]) hyt.symm))
            have hflen := Lib.hid (show us.length + (if ky = 2 then ys.length else 1) ≤ 1000000 by
              have h1 := Tm.sizeL_flat 2 (Tm.normL (TT.pre ks (j + 1)) true)
              have h2 := Tm.sizeL_len (Tm.flat 2 (Tm.normL (TT.pre ks (j + 1)) true))
              have h3 : (Tm.flat 2 [(TT.mk ky fy oy vy Ay cy ys).tm]).length = if ky = 2 then ys.length else 1 := by
                rw [TT.tm_mk, Tm.flat, Tm.flat, List.append_nil]
                show (if ky = 2 then _ else _ : List Tm).length = _
                split
                · show (ys.map TT.tm).length = _; rw [List.length_map]
                · rfl
              have h4 : (Tm.flat 2 (Tm.normL (TT.pre ks (j + 1)) true)).length = us.length + if ky = 2 then ys.length else 1 := by rw [hpre.out, Tm.flat_append, ← hfl.out, List.length_append, List.length_map, h3]
              have := hnle.out
              omega)
            have hyB : ∀ p : Nat → Prop, x.Bl p → (TT.mk ky fy oy vy Ay cy ys).Bl (fun n => p n ∨ B ≤ n) := fun p hp => (hyb p hp).mono fun n hn => hn.elim .inl fun h => .inr (by omega)
            by_cases hkk : ky = 2
            · subst hkk
              rw [if_pos rfl] at hflen
              have hfl2 := Lib.hid (show (us ++ ys).map TT.tm = Tm.flat 2 (Tm.normL (TT.pre ks (j + 1)) true) by
                rw [hpre.out, Tm.flat_append, ← hfl.out, TT.tm_mk, Tm.flat, Tm.flat, List.append_nil, if_pos (by rfl), List.map_append]; rfl)
              have hbp2 := Lib.hid (show ∀ p : Nat → Prop, (∀ x ∈ ks, x.Bl p) → ∀ x ∈ us ++ ys, x.Bl (fun n => p n ∨ B ≤ n) from fun p hp z hz => by
                rcases List.mem_append.1 hz with h | h
                · exact hbp.out p hp z h
                · exact (TT.Bl_iff.1 (hyB p (hp x hxm))).2 z h)
              have hFar : ∀ ad, A8 = some ad → ∀ z ∈ ys, z.Bl (· ≠ ad.block) := fun ad e z hz => ((TT.Bl_iff.1 (hyb (· < w.heap.size) hxL)).2 z hz).mono fun n hn => by have := hblk ad e; show n ≠ ad.block; omega
              clear hfl hbp hpre hnle hblk
              have hc20 := HX.cell 2 0 rfl rfl
              have hc24 := HX.cell 2 4 rfl rfl
              try simp only [List.getElem_toArray, List.getElem_cons_zero, List.getElem_cons_succ] at hc20 hc24
              have hflo := hflen.out
              go_wp2_with (at_builtin; refine TT.wp_tpushes Tryz.underlying22 infoT _ rfl _ _ rfl rfl rfl HT hyK hyS hFar rfl rfl (by omega) hBr ?_; intro A9 c9 w9 HT9 hg9 hb9; have hBr2 := Nat.le_trans hBr hb9.size; replace HX := HX.low (by omega) (by intro i p hp; match i, hp with | 0, hp => (simp at hp; subst hp; simp; omega) | 1, hp => (simp at hp; subst hp; simp; omega) | 2, hp => (simp at hp; subst hp; simp; omega) | i + 3, hp => simp at hp) hb9; have hc24 := HX.cell 2 4 rfl rfl; have hf24 := HX.free 2 4 rfl; (try simp only [List.getElem_toArray, List.getElem_cons_zero, List.getElem_cons_succ] at hc24 hf24))
              try clear hc24
              try clear hf24
              replace HT9 := HT9.grown (g := w.heap.size + 1 + 1) (grown_set (grown_refl w9 _) 4 (.slice A9 (us.length + ys.length) c9)) (by omega) (fun x hx => (hbp2.out (· < w.heap.size) (fun y hy => (HM y hy).bl) x hx).mono fun n hn => by show n ≠ w.heap.size + 1 + 1; omega)
              replace HX := HX.putk 2 rfl (by omega) (by intro k q hk hne; match k, hk with | 0, hk => (simp at hk; subst hk; simp at hne ⊢; try omega) | 1, hk => (simp at hk; subst hk; simp at hne ⊢; try omega) | 2, hk => (simp at hk; subst hk; simp at hne ⊢; try omega) | k + 3, hk => simp at hk) (.slice A9 (us.length + ys.length) c9)
              simp only [List.set_cons_zero, List.set_cons_succ] at HX
              replace hBr2 : B ≤ (w9.setCell ⟨w.heap.size + 1 + 1, 4, none⟩ (.slice A9 (us.length + ys.length) c9)).heap.size := Nat.le_trans hBr2 (grown_set (grown_refl w9 _) 4 _).size
              go_wp2
              go_roundg (ks.length - (j + 1))
              case measure => omega
              case rel => exact ⟨j + 1, A9, c9, us ++ ys, by omega, by first | rfl | go_num, by simpa [List.length_append] using HX, HT9, hfl2, hbp2, hBr2⟩
            · rw [if_neg hkk] at hflen
              have qk : (ky == 2) = false := beq_eq_false_iff_ne.2 hkk
              have hfl2 := Lib.hid (show (us ++ [(TT.mk ky fy oy vy Ay cy ys)]).map TT.tm = Tm.flat 2 (Tm.normL (TT.pre ks (j + 1)) true) by
                rw [hpre.out, Tm.flat_append, ← hfl.out, TT.tm_mk, Tm.flat, Tm.flat, List.append_nil, if_neg (by exact hkk), List.map_append, List.map_cons, TT.tm_mk]; rfl)
              have hbp2 := Lib.hid (show ∀ p : Nat → Prop, (∀ x ∈ ks, x.Bl p) → ∀ x ∈ us ++ [(TT.mk ky fy oy vy Ay cy ys)], x.Bl (fun n => p n ∨ B ≤ n) from fun p hp z hz => by
                rcases List.mem_append.1 hz with h | h
                · exact hbp.out p hp z h
                · rw [List.mem_singleton.1 h]; exact hyB p (hp x hxm))
              have hFar : ∀ ad, A8 = some ad → (TT.mk ky fy oy vy Ay cy ys).Bl (· ≠ ad.block) := fun ad e => (hyb (· < w.heap.size) hxL).mono fun n hn => by have := hblk ad e; show n ≠ ad.block; omega
              clear hfl hbp hpre hnle hblk hkk
              have hc20 := HX.cell 2 0 rfl rfl
              have hc24 := HX.cell 2 4 rfl rfl
              try simp only [List.getElem_toArray, List.getElem_cons_zero, List.getElem_cons_succ] at hc20 hc24
              have hflo := hflen.out
              go_wp2_with (at_builtin; refine TT.wp_tpush Tryz.underlying22 infoT _ rfl _ _ rfl (TT.mk ky fy oy vy Ay cy ys) rfl rfl rfl HT hym hFar rfl (by omega) hBr ?_; intro A9 c9 w9 HT9 hb9 hs9; have hBr2 := Nat.le_trans hBr hb9.size; replace HX := HX.low (by omega) (by intro i p hp; match i, hp with | 0, hp => (simp at hp; subst hp; simp; omega) | 1, hp => (simp at hp; subst hp; simp; omega) | 2, hp => (simp at hp; subst hp; simp; omega) | i + 3, hp => simp at hp) hb9; have hc24 := HX.cell 2 4 rfl rfl; have hf24 := HX.free 2 4 rfl; (try simp only [List.getElem_toArray, List.getElem_cons_zero, List.getElem_cons_succ] at hc24 hf24))
              try clear hc24
              try clear hf24
              replace HT9 := HT9.grown (g := w.heap.size + 1 + 1) (grown_set (grown_refl w9 _) 4 (.slice A9 (us.length + 1) c9)) (by omega) (fun x hx => (hbp2.out (· < w.heap.size) (fun y hy => (HM y hy).bl) x hx).mono fun n hn => by show n ≠ w.heap.size + 1 + 1; omega)
              replace HX := HX.putk 2 rfl (by omega) (by intro k q hk hne; match k, hk with | 0, hk => (simp at hk; subst hk; simp at hne ⊢; try omega) | 1, hk => (simp at hk; subst hk; simp at hne ⊢; try omega) | 2, hk => (simp at hk; subst hk; simp at hne ⊢; try omega) | k + 3, hk => simp at hk) (.slice A9 (us.length + 1) c9)
              simp only [List.set_cons_zero, List.set_cons_succ] at HX
              replace hBr2 : B ≤ (w9.setCell ⟨w.heap.size + 1 + 1, 4, none⟩ (.slice A9 (us.length + 1) c9)).heap.size := Nat.le_trans hBr2 (grown_set (grown_refl w9 _) 4 _).size
              go_wp2
              go_roundg (ks.length - (j + 1))
              case measure => omega
              case rel => exact ⟨j + 1, A9, c9, us ++ [(TT.mk ky fy oy vy Ay cy ys)], by omega, by first | rfl | go_num, by simpa [List.length_append] using HX, HT9, hfl2, hbp2, hBr2⟩
          · obtain rfl : j = ks.length := by omega
            rw [TT.pre_all] at hfl
            have hres := Lib.hid (show (TT.mk 2 0 0 0 A8 c8 us).tm = Tm.norm (TT.mk 3 0 0 0 A c ks).tm true by
              rw [TT.tm_mk, hfl.out, TT.tm_mk, Tm.norm_list _ (by omega) (by rw [List.length_map]; exact h2.out)]; rfl)
            have hnew : FrT w (TT.mk 3 0 0 0 A c ks) (TT.mk 2 0 0 0 A8 c8 us) := fun p hp => TT.Bl_iff.2 ⟨fun _ ad e => .inr (by have := (HT.own.blk ad e).1; omega), fun z hz => (hbp.out p (TT.Bl_iff.1 hp).2 z hz).mono fun n hn => hn.elim .inl fun h => .inr (by omega)⟩
            have hc20 := HX.cell 2 0 rfl rfl
            have hc21 := HX.cell 2 1 rfl rfl
            have hc22 := HX.cell 2 2 rfl rfl
            have hc23 := HX.cell 2 3 rfl rfl
            have hc24 := HX.cell 2 4 rfl rfl
            try simp only [List.getElem_toArray, List.getElem_cons_zero, List.getElem_cons_succ] at hc20 hc21 hc22 hc23 hc24
            have hc10 := HX.cell 1 0 rfl rfl
            have hc11 := HX.cell 1 1 rfl rfl
            have hc12 := HX.cell 1 2 rfl rfl
            have hc13 := HX.cell 1 3 rfl rfl
            have hc14 := HX.cell 1 4 rfl rfl
            try simp only [List.getElem_toArray, List.getElem_cons_zero, List.getElem_cons_succ] at hc10 hc11 hc12 hc13 hc14
            have hf10 := HX.free 1 0 rfl
            have hf11 := HX.free 1 1 rfl
            have hf12 := HX.free 1 2 rfl
            have hf13 := HX.free 1 3 rfl
            have hf14 := HX.free 1 4 rfl
            try simp only [] at hf10 hf11 hf12 hf13 hf14
            go_wp2
            clear hc10 hc11 hc12 hc13 hc14
            clear hf10 hf11 hf12 hf13 hf14
            have HG := grown_set5 wr (w.heap.size + 1) (.int .i64 2) (.int .i64 0) (.int .i64 0) (.int .i64 0) (.slice A8 us.length c8)
            replace HX := HX.put5 1 rfl (by omega) (by intro k q hk hne; match k, hk with | 0, hk => (simp at hk; subst hk; simp at hne ⊢; try omega) | 1, hk => (simp at hk; subst hk; simp at hne ⊢; try omega) | 2, hk => (simp at hk; subst hk; simp at hne ⊢; try omega) | k + 3, hk => simp at hk) (.int .i64 2) (.int .i64 0) (.int .i64 0) (.int .i64 0) (.slice A8 us.length c8)
            simp only [List.set_cons_zero, List.set_cons_succ] at HX
            have HT2 := HT.grown HG (by omega) (fun x hx => (hbp.out (· < w.heap.size) (fun y hy => (HM y hy).bl) x hx).mono fun n hn => by show n ≠ w.heap.size + 1; omega)
            have hmem := (TT.Mem_iff (t := TT.mk 2 0 0 0 A8 c8 us)).2 ⟨HT2.reads, by have := HT2.len; show us.length ≤ _; omega, HT2.mem⟩
            generalize ((((wr.setCell ⟨w.heap.size + 1, 0, none⟩ (.int .i64 2)).setCell ⟨w.heap.size + 1, 1, none⟩ (.int .i64 0)).setCell ⟨w.heap.size + 1, 2, none⟩ (.int .i64 0)).setCell ⟨w.heap.size + 1, 3, none⟩ (.int .i64 0)).setCell ⟨w.heap.size + 1, 4, none⟩ (.slice A8 us.length c8) = Wz at *
            have hc10 := HX.cell 1 0 rfl rfl
            have hc11 := HX.cell 1 1 rfl rfl
            have hc12 := HX.cell 1 2 rfl rfl
            have hc13 := HX.cell 1 3 rfl rfl
            have hc14 := HX.cell 1 4 rfl rfl
            try simp only [List.getElem_toArray, List.getElem_cons_zero, List.getElem_cons_succ] at hc10 hc11 hc12 hc13 hc14
            exact bodyPost_ret (v := .agg #[.int .i64 2, .int .i64 0, .int .i64 0, .int .i64 0, .slice A8 us.length c8]) (by simp [results, Tryz.results51, go_sem, hc10, hc11, hc12, hc13, hc14]) rfl (show RetT _ _ _ _ _ from ⟨TT.mk 2 0 0 0 A8 c8 us, rfl, hmem, hres.out, hnew, HX.below⟩)
  · rw [List.length_map] at h1
    obtain ⟨x, rfl⟩ := List.length_eq_one_iff.1 h1
    have hxm : x ∈ [x] := List.mem_singleton_self x
    have hxM := (HM x hxm).ext HX.below
    have hxL : x.Bl (· < w.heap.size) := (HM x hxm).bl
    obtain ⟨ad, rfl, hadb, e0, e1, e2, e3, e4⟩ := (HK.ext HX.below).at_ (i := 0) rfl
    rw [Nat.zero_mul, show ad.add 0 = ad from rfl] at e0 e1 e2 e3 e4
    have hres := Lib.hid (show Tm.norm x.tm (!turned) = Tm.norm (TT.mk 4 0 0 0 (some ad) c [x]).tm turned by rw [TT.tm_mk, List.map_cons, List.map_nil, Tm.norm_not])
    go_enter Tryz.func51, Tryz.ntmps51
    go_upto_region 1 with fail
    generalize (w.alloc (.cells #[.int .i64 4, .int .i64 0, .int .i64 0, .int .i64 0, .slice (some ad) [x].length c] 24)).alloc (.cells #[.int .i64 0, .int .i64 0, .int .i64 0, .int .i64 0, .slice none 0 0] 24) = V at *
    simp only [List.length_cons, List.length_nil, Nat.zero_add] at HX
    have hc00 := HX.cell 0 0 rfl rfl
    have hc01 := HX.cell 0 1 rfl rfl
    have hc02 := HX.cell 0 2 rfl rfl
    have hc03 := HX.cell 0 3 rfl rfl
    have hc04 := HX.cell 0 4 rfl rfl
    try simp only [List.getElem_toArray, List.getElem_cons_zero, List.getElem_cons_succ] at hc00 hc01 hc02 hc03 hc04
    go_wp2_with fail
    refine (ih x hxm (!turned) V (hwk.out x hxm) (hsk.out x hxm) hxM).mono ?_
    rintro e w5 ⟨y, he, hym, hyt, hyb, hb5⟩; obtain ⟨ky, fy, oy, vy, Ay, cy, ys⟩ := y; change e = .returned (.agg #[.int .i64 ky, .int .i64 fy, .int .i64 oy, .int .i64 vy, .slice Ay ys.length cy]) at he; subst he
    clear hc00 hc01 hc02 hc03 hc04
    replace HX := HX.ext hb5
    have hBy := hB.out
    have hnew : FrT w (TT.mk 4 0 0 0 (some ad) c [x]) (TT.mk ky fy oy vy Ay cy ys) := fun p hp => (hyb p ((TT.Bl_iff.1 hp).2 x hxm)).mono fun n hn => hn.elim .inl fun h => .inr (by omega)
    have hc10 := HX.cell 1 0 rfl rfl
    have hc11 := HX.cell 1 1 rfl rfl
    have hc12 := HX.cell 1 2 rfl rfl
    have hc13 := HX.cell 1 3 rfl rfl
    have hc14 := HX.cell 1 4 rfl rfl
    try simp only [List.getElem_toArray, List.getElem_cons_zero, List.getElem_cons_succ] at hc10 hc11 hc12 hc13 hc14
    have hf10 := HX.free 1 0 rfl
    have hf11 := HX.free 1 1 rfl
    have hf12 := HX.free 1 2 rfl
    have hf13 := HX.free 1 3 rfl
    have hf14 := HX.free 1 4 rfl
    try simp only [] at hf10 hf11 hf12 hf13 hf14
    go_wp2
    clear hc10 hc11 hc12 hc13 hc14
    clear hf10 hf11 hf12 hf13 hf14
    have HG := grown_set5 w5 (w.heap.size + 1) (.int .i64 ky) (.int .i64 fy) (.int .i64 oy) (.int .i64 vy) (.slice Ay ys.length cy)
    replace HX := HX.put5 1 rfl (by omega) (by intro k q hk hne; match k, hk with | 0, hk => (simp at hk; subst hk; simp at hne ⊢; try omega) | 1, hk => (simp at hk; subst hk; simp at hne ⊢; try omega) | k + 2, hk => simp at hk) (.int .i64 ky) (.int .i64 fy) (.int .i64 oy) (.int .i64 vy) (.slice Ay ys.length cy)
    simp only [List.set_cons_zero, List.set_cons_succ] at HX
    have hy2 := hym.grown HG ((hyb (· < w.heap.size) hxL).mono fun n hn => by show n ≠ w.heap.size + 1; omega)
    generalize ((((w5.setCell ⟨w.heap.size + 1, 0, none⟩ (.int .i64 ky)).setCell ⟨w.heap.size + 1, 1, none⟩ (.int .i64 fy)).setCell ⟨w.heap.size + 1, 2, none⟩ (.int .i64 oy)).setCell ⟨w.heap.size + 1, 3, none⟩ (.int .i64 vy)).setCell ⟨w.heap.size + 1, 4, none⟩ (.slice Ay ys.length cy) = Wz at *
    have hc10 := HX.cell 1 0 rfl rfl
    have hc11 := HX.cell 1 1 rfl rfl
    have hc12 := HX.cell 1 2 rfl rfl
    have hc13 := HX.cell 1 3 rfl rfl
    have hc14 := HX.cell 1 4 rfl rfl
    try simp only [List.getElem_toArray, List.getElem_cons_zero, List.getElem_cons_succ] at hc10 hc11 hc12 hc13 hc14
    exact bodyPost_ret (v := .agg #[.int .i64 ky, .int .i64 fy, .int .i64 oy, .int .i64 vy, .slice Ay ys.length cy]) (by simp [results, Tryz.results51, go_sem, hc10, hc11, hc12, hc13, hc14]) rfl (show RetT _ _ _ _ _ from ⟨(TT.mk ky fy oy vy Ay cy ys), rfl, hy2, hyt.trans hres.out, hnew, HX.below⟩)
set_option maxHeartbeats 4000000 in
set_option maxRecDepth 100000 in
theorem rneg_any {X : Tm} {E : Int} (t : TT) (w : World) (HM : t.Mem w) (hX : Hid ((t.tm.Ok ∧ t.tm.norm true = X ∧ E = 0) ∨ (¬ t.tm.Ok ∧ X = .mk 0 0 0 0 [] ∧ E = 1))) : Calls Tryz.prog 28 #[t.val] w (RetTE w X E) := by
  have HX := BL.two w #[.int .i64 t.k, .int .i64 t.f, .int .i64 t.o, .int .i64 t.v, .slice t.A t.ks.length t.c] #[.int .i64 0, .int .i64 0, .int .i64 0, .int .i64 0, .slice none 0 0] 24 24
  have htl := HM.bl
  replace HM := TT.Mem.ext HX.below HM
  obtain ⟨B, hB⟩ : ∃ B, Hid (((w.alloc (.cells #[.int .i64 t.k, .int .i64 t.f, .int .i64 t.o, .int .i64 t.v, .slice t.A t.ks.length t.c] 24)).alloc (.cells #[.int .i64 0, .int .i64 0, .int .i64 0, .int .i64 0, .slice none 0 0] 24)).heap.size = B) := ⟨_, Lib.hid rfl⟩
  have hB2 : B = w.heap.size + 2 := by rw [← hB.out]; simp
  show Calls _ _ #[.agg #[.int .i64 t.k, .int .i64 t.f, .int .i64 t.o, .int .i64 t.v, .slice t.A t.ks.length t.c]] w _
  go_enter Tryz.func28, Tryz.ntmps28
  go_upto_region 1 with fail
  generalize (w.alloc (.cells #[.int .i64 t.k, .int .i64 t.f, .int .i64 t.o, .int .i64 t.v, .slice t.A t.ks.length t.c] 24)).alloc (.cells #[.int .i64 0, .int .i64 0, .int .i64 0, .int .i64 0, .slice none 0 0] 24) = V at *
  have hc00 := HX.cell 0 0 rfl rfl
  have hc01 := HX.cell 0 1 rfl rfl
  have hc02 := HX.cell 0 2 rfl rfl
  have hc03 := HX.cell 0 3 rfl rfl
  have hc04 := HX.cell 0 4 rfl rfl
  try simp only [List.getElem_toArray, List.getElem_cons_zero, List.getElem_cons_succ] at hc00 hc01 hc02 hc03 hc04
  have hVs : V.heap.size = B := hB.out
  by_cases hv : t.tm.Ok
  · obtain ⟨hx, rfl⟩ : Hid (t.tm.norm true = X) ∧ E = 0 := by
      rcases hX.out with ⟨_, h, k⟩ | ⟨h, _⟩
      · exact ⟨Lib.hid h, k⟩
      · exact absurd hv h
    have hwf := Lib.hid hv.1
    have hsz := hv.2.1
    have hb := yes hv
    clear hv hX
    go_wp2_with fail
    refine (rvalid50_any t V HM hb).mono ?_
    rintro e w4 ⟨rfl, hb4⟩
    replace HX := HX.ext hb4
    replace HM := TT.Mem.ext hb4 HM
    have hBs := hb4.size
    clear hb4 hb hc00 hc01 hc02 hc03 hc04
    have hc00 := HX.cell 0 0 rfl rfl
    have hc01 := HX.cell 0 1 rfl rfl
    have hc02 := HX.cell 0 2 rfl rfl
    have hc03 := HX.cell 0 3 rfl rfl
    have hc04 := HX.cell 0 4 rfl rfl
    try simp only [List.getElem_toArray, List.getElem_cons_zero, List.getElem_cons_succ] at hc00 hc01 hc02 hc03 hc04
    go_wp2_with fail
    refine (rnormal_any t true w4 hwf.out (by omega) HM).mono ?_
    rintro e w5 ⟨y, he, hym, hyt, hyb, hb5⟩; obtain ⟨ky, fy, oy, vy, Ay, cy, ys⟩ := y; change e = .returned (.agg #[.int .i64 ky, .int .i64 fy, .int .i64 oy, .int .i64 vy, .slice Ay ys.length cy]) at he; subst he
    replace HX := HX.ext hb5
    clear hc00 hc01 hc02 hc03 hc04
    have hres := Lib.hid (hyt.trans hx.out)
    have hc10 := HX.cell 1 0 rfl rfl
    have hc11 := HX.cell 1 1 rfl rfl
    have hc12 := HX.cell 1 2 rfl rfl
    have hc13 := HX.cell 1 3 rfl rfl
    have hc14 := HX.cell 1 4 rfl rfl
    try simp only [List.getElem_toArray, List.getElem_cons_zero, List.getElem_cons_succ] at hc10 hc11 hc12 hc13 hc14
    have hf10 := HX.free 1 0 rfl
    have hf11 := HX.free 1 1 rfl
    have hf12 := HX.free 1 2 rfl
    have hf13 := HX.free 1 3 rfl
    have hf14 := HX.free 1 4 rfl
    try simp only [] at hf10 hf11 hf12 hf13 hf14
    go_wp2
    clear hc10 hc11 hc12 hc13 hc14
    clear hf10 hf11 hf12 hf13 hf14
    have HG := grown_set5 w5 (w.heap.size + 1) (.int .i64 ky) (.int .i64 fy) (.int .i64 oy) (.int .i64 vy) (.slice Ay ys.length cy)
    replace HX := HX.put5 1 rfl (by omega) (by intro k q hk hne; match k, hk with | 0, hk => (simp at hk; subst hk; simp at hne ⊢; try omega) | 1, hk => (simp at hk; subst hk; simp at hne ⊢; try omega) | k + 2, hk => simp at hk) (.int .i64 ky) (.int .i64 fy) (.int .i64 oy) (.int .i64 vy) (.slice Ay ys.length cy)
    simp only [List.set_cons_zero, List.set_cons_succ] at HX
    have hy2 := hym.grown HG ((hyb (· < w.heap.size) htl).mono fun n hn => by show n ≠ w.heap.size + 1; omega)
    generalize ((((w5.setCell ⟨w.heap.size + 1, 0, none⟩ (.int .i64 ky)).setCell ⟨w.heap.size + 1, 1, none⟩ (.int .i64 fy)).setCell ⟨w.heap.size + 1, 2, none⟩ (.int .i64 oy)).setCell ⟨w.heap.size + 1, 3, none⟩ (.int .i64 vy)).setCell ⟨w.heap.size + 1, 4, none⟩ (.slice Ay ys.length cy) = Wz at *
    have hc10 := HX.cell 1 0 rfl rfl
    have hc11 := HX.cell 1 1 rfl rfl
    have hc12 := HX.cell 1 2 rfl rfl
    have hc13 := HX.cell 1 3 rfl rfl
    have hc14 := HX.cell 1 4 rfl rfl
    try simp only [List.getElem_toArray, List.getElem_cons_zero, List.getElem_cons_succ] at hc10 hc11 hc12 hc13 hc14
    exact bodyPost_ret (v := .tuple #[.agg #[.int .i64 ky, .int .i64 fy, .int .i64 oy, .int .i64 vy, .slice Ay ys.length cy], .int .i64 0]) (by simp [results, Tryz.results28, go_sem, hc10, hc11, hc12, hc13, hc14]) rfl (show RetTE _ _ _ _ _ from ⟨(TT.mk ky fy oy vy Ay cy ys), rfl, hy2, hres.out, HX.below⟩)
  · obtain ⟨rfl, rfl⟩ : X = .mk 0 0 0 0 [] ∧ E = 1 := by
      rcases hX.out with ⟨h, _⟩ | ⟨_, h⟩
      · exact absurd h hv
      · exact h
    have hb := no hv
    clear hv hX
    have hres := Lib.hid (show (TT.mk 0 0 0 0 none 0 []).tm = .mk 0 0 0 0 [] from rfl)
    go_wp2_with fail
    refine (rvalid50_any t V HM hb).mono ?_
    rintro e w4 ⟨rfl, hb4⟩
    replace HX := HX.ext hb4
    clear hb4 hb hc00 hc01 hc02 hc03 hc04
    have hc10 := HX.cell 1 0 rfl rfl
    have hc11 := HX.cell 1 1 rfl rfl
    have hc12 := HX.cell 1 2 rfl rfl
    have hc13 := HX.cell 1 3 rfl rfl
    have hc14 := HX.cell 1 4 rfl rfl
    try simp only [List.getElem_toArray, List.getElem_cons_zero, List.getElem_cons_succ] at hc10 hc11 hc12 hc13 hc14
    have hf10 := HX.free 1 0 rfl
    have hf11 := HX.free 1 1 rfl
    have hf12 := HX.free 1 2 rfl
    have hf13 := HX.free 1 3 rfl
    have hf14 := HX.free 1 4 rfl
    try simp only [] at hf10 hf11 hf12 hf13 hf14
    go_wp2
    clear hc10 hc11 hc12 hc13 hc14
    clear hf10 hf11 hf12 hf13 hf14
    have HG := grown_set5 w4 (w.heap.size + 1) (.int .i64 0) (.int .i64 0) (.int .i64 0) (.int .i64 0) (.slice none 0 0)
    replace HX := HX.put5 1 rfl (by omega) (by intro k q hk hne; match k, hk with | 0, hk => (simp at hk; subst hk; simp at hne ⊢; try omega) | 1, hk => (simp at hk; subst hk; simp at hne ⊢; try omega) | k + 2, hk => simp at hk) (.int .i64 0) (.int .i64 0) (.int .i64 0) (.int .i64 0) (.slice none 0 0)
    simp only [List.set_cons_zero, List.set_cons_succ] at HX
    generalize ((((w4.setCell ⟨w.heap.size + 1, 0, none⟩ (.int .i64 0)).setCell ⟨w.heap.size + 1, 1, none⟩ (.int .i64 0)).setCell ⟨w.heap.size + 1, 2, none⟩ (.int .i64 0)).setCell ⟨w.heap.size + 1, 3, none⟩ (.int .i64 0)).setCell ⟨w.heap.size + 1, 4, none⟩ (.slice none 0 0) = Wz at *
    have hc10 := HX.cell 1 0 rfl rfl
    have hc11 := HX.cell 1 1 rfl rfl
    have hc12 := HX.cell 1 2 rfl rfl
    have hc13 := HX.cell 1 3 rfl rfl
    have hc14 := HX.cell 1 4 rfl rfl
    try simp only [List.getElem_toArray, List.getElem_cons_zero, List.getElem_cons_succ] at hc10 hc11 hc12 hc13 hc14
    exact bodyPost_ret (v := .tuple #[.agg #[.int .i64 0, .int .i64 0, .int .i64 0, .int .i64 0, .slice none 0 0], .int .i64 1]) (by simp [results, Tryz.results28, go_sem, hc10, hc11, hc12, hc13, hc14]) rfl (show RetTE _ _ _ _ _ from ⟨TT.mk 0 0 0 0 none 0 [], rfl, TT.Mem.leaf, hres.out, HX.below⟩)
set_option maxHeartbeats 4000000 in
set_option maxRecDepth 100000 in
theorem rnorm_any {X : Tm} {E : Int} (t : TT) (w : World) (HM : t.Mem w) (hX : Hid ((t.tm.Ok ∧ t.tm.norm false = X ∧ E = 0) ∨ (¬ t.tm.Ok ∧ X = .mk 0 0 0 0 [] ∧ E = 1))) : Calls Tryz.prog 31 #[t.val] w (RetTE w X E) := by
  have HX := BL.two w #[.int .i64 t.k, .int .i64 t.f, .int .i64 t.o, .int .i64 t.v, .slice t.A t.ks.length t.c] #[.int .i64 0, .int .i64 0, .int .i64 0, .int .i64 0, .slice none 0 0] 24 24
  have htl := HM.bl
  replace HM := TT.Mem.ext HX.below HM
  obtain ⟨B, hB⟩ : ∃ B, Hid (((w.alloc (.cells #[.int .i64 t.k, .int .i64 t.f, .int .i64 t.o, .int .i64 t.v, .slice t.A t.ks.length t.c] 24)).alloc (.cells #[.int .i64 0, .int .i64 0, .int .i64 0, .int .i64 0, .slice none 0 0] 24)).heap.size = B) := ⟨_, Lib.hid rfl⟩
  have hB2 : B = w.heap.size + 2 := by rw [← hB.out]; simp
  show Calls _ _ #[.agg #[.int .i64 t.k, .int .i64 t.f, .int .i64 t.o, .int .i64 t.v, .slice t.A t.ks.length t.c]] w _
  go_enter Tryz.func31, Tryz.ntmps31
  go_upto_region 1 with fail
  generalize (w.alloc (.cells #[.int .i64 t.k, .int .i64 t.f, .int .i64 t.o, .int .i64 t.v, .slice t.A t.ks.length t.c] 24)).alloc (.cells #[.int .i64 0, .int .i64 0, .int .i64 0, .int .i64 0, .slice none 0 0] 24) = V at *
  have hc00 := HX.cell 0 0 rfl rfl
  have hc01 := HX.cell 0 1 rfl rfl
  have hc02 := HX.cell 0 2 rfl rfl
  have hc03 := HX.cell 0 3 rfl rfl
  have hc04 := HX.cell 0 4 rfl rfl
  try simp only [List.getElem_toArray, List.getElem_cons_zero, List.getElem_cons_succ] at hc00 hc01 hc02 hc03 hc04
  have hVs : V.heap.size = B := hB.out
  by_cases hv : t.tm.Ok
  · obtain ⟨hx, rfl⟩ : Hid (t.tm.norm false = X) ∧ E = 0 := by
      rcases hX.out with ⟨_, h, k⟩ | ⟨h, _⟩
      · exact ⟨Lib.hid h, k⟩
      · exact absurd hv h
    have hwf := Lib.hid hv.1
    have hsz := hv.2.1
    have hb := yes hv
    clear hv hX
    go_wp2_with fail
    refine (rvalid50_any t V HM hb).mono ?_
    rintro e w4 ⟨rfl, hb4⟩
    replace HX := HX.ext hb4
    replace HM := TT.Mem.ext hb4 HM
    have hBs := hb4.size
    clear hb4 hb hc00 hc01 hc02 hc03 hc04
    have hc00 := HX.cell 0 0 rfl rfl
    have hc01 := HX.cell 0 1 rfl rfl
    have hc02 := HX.cell 0 2 rfl rfl
    have hc03 := HX.cell 0 3 rfl rfl
    have hc04 := HX.cell 0 4 rfl rfl
    try simp only [List.getElem_toArray, List.getElem_cons_zero, List.getElem_cons_succ] at hc00 hc01 hc02 hc03 hc04
    go_wp2_with fail
    refine (rnormal_any t false w4 hwf.out (by omega) HM).mono ?_
    rintro e w5 ⟨y, he, hym, hyt, hyb, hb5⟩; obtain ⟨ky, fy, oy, vy, Ay, cy, ys⟩ := y; change e = .returned (.agg #[.int .i64 ky, .int .i64 fy, .int .i64 oy, .int .i64 vy, .slice Ay ys.length cy]) at he; subst he
    replace HX := HX.ext hb5
    clear hc00 hc01 hc02 hc03 hc04
    have hres := Lib.hid (hyt.trans hx.out)
    have hc10 := HX.cell 1 0 rfl rfl
    have hc11 := HX.cell 1 1 rfl rfl
    have hc12 := HX.cell 1 2 rfl rfl
    have hc13 := HX.cell 1 3 rfl rfl
    have hc14 := HX.cell 1 4 rfl rfl
    try simp only [List.getElem_toArray, List.getElem_cons_zero, List.getElem_cons_succ] at hc10 hc11 hc12 hc13 hc14
    have hf10 := HX.free 1 0 rfl
    have hf11 := HX.free 1 1 rfl
    have hf12 := HX.free 1 2 rfl
    have hf13 := HX.free 1 3 rfl
    have hf14 := HX.free 1 4 rfl
    try simp only [] at hf10 hf11 hf12 hf13 hf14
    go_wp2
    clear hc10 hc11 hc12 hc13 hc14
    clear hf10 hf11 hf12 hf13 hf14
    have HG := grown_set5 w5 (w.heap.size + 1) (.int .i64 ky) (.int .i64 fy) (.int .i64 oy) (.int .i64 vy) (.slice Ay ys.length cy)
    replace HX := HX.put5 1 rfl (by omega) (by intro k q hk hne; match k, hk with | 0, hk => (simp at hk; subst hk; simp at hne ⊢; try omega) | 1, hk => (simp at hk; subst hk; simp at hne ⊢; try omega) | k + 2, hk => simp at hk) (.int .i64 ky) (.int .i64 fy) (.int .i64 oy) (.int .i64 vy) (.slice Ay ys.length cy)
    simp only [List.set_cons_zero, List.set_cons_succ] at HX
    have hy2 := hym.grown HG ((hyb (· < w.heap.size) htl).mono fun n hn => by show n ≠ w.heap.size + 1; omega)
    generalize ((((w5.setCell ⟨w.heap.size + 1, 0, none⟩ (.int .i64 ky)).setCell ⟨w.heap.size + 1, 1, none⟩ (.int .i64 fy)).setCell ⟨w.heap.size + 1, 2, none⟩ (.int .i64 oy)).setCell ⟨w.heap.size + 1, 3, none⟩ (.int .i64 vy)).setCell ⟨w.heap.size + 1, 4, none⟩ (.slice Ay ys.length cy) = Wz at *
    have hc10 := HX.cell 1 0 rfl rfl
    have hc11 := HX.cell 1 1 rfl rfl
    have hc12 := HX.cell 1 2 rfl rfl
    have hc13 := HX.cell 1 3 rfl rfl
    have hc14 := HX.cell 1 4 rfl rfl
    try simp only [List.getElem_toArray, List.getElem_cons_zero, List.getElem_cons_succ] at hc10 hc11 hc12 hc13 hc14
    exact bodyPost_ret (v := .tuple #[.agg #[.int .i64 ky, .int .i64 fy, .int .i64 oy, .int .i64 vy, .slice Ay ys.length cy], .int .i64 0]) (by simp [results, Tryz.results31, go_sem, hc10, hc11, hc12, hc13, hc14]) rfl (show RetTE _ _ _ _ _ from ⟨(TT.mk ky fy oy vy Ay cy ys), rfl, hy2, hres.out, HX.below⟩)
  · obtain ⟨rfl, rfl⟩ : X = .mk 0 0 0 0 [] ∧ E = 1 := by
      rcases hX.out with ⟨h, _⟩ | ⟨_, h⟩
      · exact absurd h hv
      · exact h
    have hb := no hv
    clear hv hX
    have hres := Lib.hid (show (TT.mk 0 0 0 0 none 0 []).tm = .mk 0 0 0 0 [] from rfl)
    go_wp2_with fail
    refine (rvalid50_any t V HM hb).mono ?_
    rintro e w4 ⟨rfl, hb4⟩
    replace HX := HX.ext hb4
    clear hb4 hb hc00 hc01 hc02 hc03 hc04
    have hc10 := HX.cell 1 0 rfl rfl
    have hc11 := HX.cell 1 1 rfl rfl
    have hc12 := HX.cell 1 2 rfl rfl
    have hc13 := HX.cell 1 3 rfl rfl
    have hc14 := HX.cell 1 4 rfl rfl
    try simp only [List.getElem_toArray, List.getElem_cons_zero, List.getElem_cons_succ] at hc10 hc11 hc12 hc13 hc14
    have hf10 := HX.free 1 0 rfl
    have hf11 := HX.free 1 1 rfl
    have hf12 := HX.free 1 2 rfl
    have hf13 := HX.free 1 3 rfl
    have hf14 := HX.free 1 4 rfl
    try simp only [] at hf10 hf11 hf12 hf13 hf14
    go_wp2
    clear hc10 hc11 hc12 hc13 hc14
    clear hf10 hf11 hf12 hf13 hf14
    have HG := grown_set5 w4 (w.heap.size + 1) (.int .i64 0) (.int .i64 0) (.int .i64 0) (.int .i64 0) (.slice none 0 0)
    replace HX := HX.put5 1 rfl (by omega) (by intro k q hk hne; match k, hk with | 0, hk => (simp at hk; subst hk; simp at hne ⊢; try omega) | 1, hk => (simp at hk; subst hk; simp at hne ⊢; try omega) | k + 2, hk => simp at hk) (.int .i64 0) (.int .i64 0) (.int .i64 0) (.int .i64 0) (.slice none 0 0)
    simp only [List.set_cons_zero, List.set_cons_succ] at HX
    generalize ((((w4.setCell ⟨w.heap.size + 1, 0, none⟩ (.int .i64 0)).setCell ⟨w.heap.size + 1, 1, none⟩ (.int .i64 0)).setCell ⟨w.heap.size + 1, 2, none⟩ (.int .i64 0)).setCell ⟨w.heap.size + 1, 3, none⟩ (.int .i64 0)).setCell ⟨w.heap.size + 1, 4, none⟩ (.slice none 0 0) = Wz at *
    have hc10 := HX.cell 1 0 rfl rfl
    have hc11 := HX.cell 1 1 rfl rfl
    have hc12 := HX.cell 1 2 rfl rfl
    have hc13 := HX.cell 1 3 rfl rfl
    have hc14 := HX.cell 1 4 rfl rfl
    try simp only [List.getElem_toArray, List.getElem_cons_zero, List.getElem_cons_succ] at hc10 hc11 hc12 hc13 hc14
    exact bodyPost_ret (v := .tuple #[.agg #[.int .i64 0, .int .i64 0, .int .i64 0, .int .i64 0, .slice none 0 0], .int .i64 1]) (by simp [results, Tryz.results31, go_sem, hc10, hc11, hc12, hc13, hc14]) rfl (show RetTE _ _ _ _ _ from ⟨TT.mk 0 0 0 0 none 0 [], rfl, TT.Mem.leaf, hres.out, HX.below⟩)
end Go.Proofs.YtilojhhmichemaaGreatDoor

namespace Go.Proofs.YtilojhhmichemaaGreatDoor
open Go.RowKit Go.Proofs Go

set_option maxHeartbeats 16000000 in
set_option maxRecDepth 100000 in
theorem normals_any (t : TT) (s : Sp) (w : World) (hE : Env w) (hM : t.Mem w) : Calls Tryz.prog 7 #[t.val, s.val] w (RetB w true) := by
  have HX := BL.two w #[.int .i64 t.k, .int .i64 t.f, .int .i64 t.o, .int .i64 t.v, .slice t.A t.ks.length t.c] #[.int .i64 s.id, .int .i64 s.ob, .int .i64 s.rv, .int .i64 s.os, .int .i64 s.rs, .int .i64 s.ax, .int .i64 s.wt] 24 42
  replace hM := TT.Mem.ext HX.below hM
  replace hE := hE.ext HX.below
  show Calls _ _ #[.agg #[.int .i64 t.k, .int .i64 t.f, .int .i64 t.o, .int .i64 t.v, .slice t.A t.ks.length t.c], .agg #[.int .i64 s.id, .int .i64 s.ob, .int .i64 s.rv, .int .i64 s.os, .int .i64 s.rs, .int .i64 s.ax, .int .i64 s.wt]] w _
  go_enter Tryz.func7, Tryz.ntmps7
  go_upto_region 1 with fail
  generalize (w.alloc (.cells #[.int .i64 t.k, .int .i64 t.f, .int .i64 t.o, .int .i64 t.v, .slice t.A t.ks.length t.c] 24)).alloc (.cells #[.int .i64 s.id, .int .i64 s.ob, .int .i64 s.rv, .int .i64 s.os, .int .i64 s.rs, .int .i64 s.ax, .int .i64 s.wt] 42) = W0 at *
  go_wp2_with fail
  refine (qawake_any W0 hE).mono ?_
  rintro e w1 ⟨rfl, hb⟩
  replace HX := HX.ext hb
  replace hE := hE.ext hb
  replace hM := hM.ext hb
  clear hb
  by_cases hf : t.tm.size ≤ 60
  · have hc00 := HX.cell 0 0 rfl rfl
    have hc01 := HX.cell 0 1 rfl rfl
    have hc02 := HX.cell 0 2 rfl rfl
    have hc03 := HX.cell 0 3 rfl rfl
    have hc04 := HX.cell 0 4 rfl rfl
    try simp only [List.getElem_toArray, List.getElem_cons_zero, List.getElem_cons_succ] at hc00 hc01 hc02 hc03 hc04
    go_wp2_with fail
    refine (rfew_any (b := true) t w1 hM (yes hf)).mono ?_
    rintro e w2 ⟨rfl, hb⟩
    clear hc00 hc01 hc02 hc03 hc04
    replace HX := HX.ext hb
    replace hE := hE.ext hb
    replace hM := hM.ext hb
    clear hb
    clear hf
    by_cases ho : t.tm.Ok
    · have hok := Lib.hid ho
      clear ho
      have hc00 := HX.cell 0 0 rfl rfl
      have hc01 := HX.cell 0 1 rfl rfl
      have hc02 := HX.cell 0 2 rfl rfl
      have hc03 := HX.cell 0 3 rfl rfl
      have hc04 := HX.cell 0 4 rfl rfl
      try simp only [List.getElem_toArray, List.getElem_cons_zero, List.getElem_cons_succ] at hc00 hc01 hc02 hc03 hc04
      go_wp2_with fail
      refine (qnorm_any t w2 hM (Lib.hid (.inl ⟨hok.out, rfl, rfl⟩))).mono ?_
      rintro e w4 ⟨n, he, hnm, hnt, hb⟩
      obtain ⟨kn, fn, on, vn, An, cn, ns⟩ := n
      change e = .returned (.tuple #[.agg #[.int .i64 kn, .int .i64 fn, .int .i64 on, .int .i64 vn, .slice An ns.length cn], .int .i64 0]) at he
      subst he
      clear hc00 hc01 hc02 hc03 hc04
      replace HX := HX.ext hb
      replace hE := hE.ext hb
      replace hM := hM.ext hb
      clear hb
      go_upto_region 4 with fail
      have hb := below_alloc w4 (.cells #[.int .i64 kn, .int .i64 fn, .int .i64 on, .int .i64 vn, .slice An ns.length cn] 24)
      replace HX := HX.new #[.int .i64 kn, .int .i64 fn, .int .i64 on, .int .i64 vn, .slice An ns.length cn] 24
      simp only [List.nil_append, List.cons_append] at HX
      replace hE := hE.ext hb
      replace hM := hM.ext hb
      replace hnm := hnm.ext hb
      clear hb
      generalize w4.alloc (.cells #[.int .i64 kn, .int .i64 fn, .int .i64 on, .int .i64 vn, .slice An ns.length cn] 24) = W4 at *
      generalize w4.heap.size = g4 at *
      have hc00 := HX.cell 0 0 rfl rfl
      have hc01 := HX.cell 0 1 rfl rfl
      have hc02 := HX.cell 0 2 rfl rfl
      have hc03 := HX.cell 0 3 rfl rfl
      have hc04 := HX.cell 0 4 rfl rfl
      try simp only [List.getElem_toArray, List.getElem_cons_zero, List.getElem_cons_succ] at hc00 hc01 hc02 hc03 hc04
      go_wp2_with fail
      refine (rnorm_any t W4 hM (Lib.hid (.inl ⟨hok.out, rfl, rfl⟩))).mono ?_
      rintro e w5 ⟨u, he, hum, hut, hb⟩
      obtain ⟨ku, fu, ou, vu, Au, cu, us⟩ := u
      change e = .returned (.tuple #[.agg #[.int .i64 ku, .int .i64 fu, .int .i64 ou, .int .i64 vu, .slice Au us.length cu], .int .i64 0]) at he
      subst he
      clear hc00 hc01 hc02 hc03 hc04
      replace HX := HX.ext hb
      replace hE := hE.ext hb
      replace hM := hM.ext hb
      replace hnm := hnm.ext hb
      clear hb
      go_upto_region 5 with fail
      have hb := below_alloc w5 (.cells #[.int .i64 ku, .int .i64 fu, .int .i64 ou, .int .i64 vu, .slice Au us.length cu] 24)
      replace HX := HX.new #[.int .i64 ku, .int .i64 fu, .int .i64 ou, .int .i64 vu, .slice Au us.length cu] 24
      simp only [List.nil_append, List.cons_append] at HX
      replace hE := hE.ext hb
      replace hM := hM.ext hb
      replace hnm := hnm.ext hb
      replace hum := hum.ext hb
      clear hb
      generalize w5.alloc (.cells #[.int .i64 ku, .int .i64 fu, .int .i64 ou, .int .i64 vu, .slice Au us.length cu] 24) = W5 at *
      generalize w5.heap.size = g5 at *
      replace hnt := Lib.hid hnt
      replace hut := Lib.hid hut
      have hsm := Lib.hid (show (TT.mk kn fn on vn An cn ns).tm = (TT.mk ku fu ou vu Au cu us).tm by rw [hnt.out, hut.out])
      have hnk := Lib.hid (show (TT.mk kn fn on vn An cn ns).tm.Ok by rw [hnt.out]; exact hok.out.norm false)
      have huf : Tells true ((TT.mk kn fn on vn An cn ns).tm.size ≤ 60) := yes (by have h1 := hnk.out.2.1; omega)
      have hc20 := HX.cell 2 0 rfl rfl
      have hc21 := HX.cell 2 1 rfl rfl
      have hc22 := HX.cell 2 2 rfl rfl
      have hc23 := HX.cell 2 3 rfl rfl
      have hc24 := HX.cell 2 4 rfl rfl
      try simp only [List.getElem_toArray, List.getElem_cons_zero, List.getElem_cons_succ] at hc20 hc21 hc22 hc23 hc24
      go_wp2_with fail
      refine (rfew_any (b := true) (TT.mk kn fn on vn An cn ns) W5 hnm huf).mono ?_
      rintro e w6 ⟨rfl, hb⟩
      clear hc20 hc21 hc22 hc23 hc24
      replace HX := HX.ext hb
      replace hE := hE.ext hb
      replace hM := hM.ext hb
      replace hnm := hnm.ext hb
      replace hum := hum.ext hb
      clear hb
      have hc20 := HX.cell 2 0 rfl rfl
      have hc21 := HX.cell 2 1 rfl rfl
      have hc22 := HX.cell 2 2 rfl rfl
      have hc23 := HX.cell 2 3 rfl rfl
      have hc24 := HX.cell 2 4 rfl rfl
      try simp only [List.getElem_toArray, List.getElem_cons_zero, List.getElem_cons_succ] at hc20 hc21 hc22 hc23 hc24
      have hc30 := HX.cell 3 0 rfl rfl
      have hc31 := HX.cell 3 1 rfl rfl
      have hc32 := HX.cell 3 2 rfl rfl
      have hc33 := HX.cell 3 3 rfl rfl
      have hc34 := HX.cell 3 4 rfl rfl
      try simp only [List.getElem_toArray, List.getElem_cons_zero, List.getElem_cons_succ] at hc30 hc31 hc32 hc33 hc34
      go_wp2_with fail
      refine (rsame_any (TT.mk kn fn on vn An cn ns) (TT.mk ku fu ou vu Au cu us) true w6 hnm hum (yes hsm.out)).mono ?_
      rintro e w7 ⟨rfl, hb⟩
      clear hc20 hc21 hc22 hc23 hc24
      clear hc30 hc31 hc32 hc33 hc34
      replace HX := HX.ext hb
      replace hE := hE.ext hb
      replace hM := hM.ext hb
      replace hnm := hnm.ext hb
      replace hum := hum.ext hb
      clear hb
      have hc20 := HX.cell 2 0 rfl rfl
      have hc21 := HX.cell 2 1 rfl rfl
      have hc22 := HX.cell 2 2 rfl rfl
      have hc23 := HX.cell 2 3 rfl rfl
      have hc24 := HX.cell 2 4 rfl rfl
      try simp only [List.getElem_toArray, List.getElem_cons_zero, List.getElem_cons_succ] at hc20 hc21 hc22 hc23 hc24
      go_wp2_with fail
      refine (qnorm_any (TT.mk kn fn on vn An cn ns) w7 hnm (Lib.hid (.inl ⟨hnk.out, rfl, rfl⟩))).mono ?_
      rintro e w8 ⟨m, he, hmm, hmt, hb⟩
      obtain ⟨km, fm, om, vm, Am, cm, ms⟩ := m
      change e = .returned (.tuple #[.agg #[.int .i64 km, .int .i64 fm, .int .i64 om, .int .i64 vm, .slice Am ms.length cm], .int .i64 0]) at he
      subst he
      clear hc20 hc21 hc22 hc23 hc24
      replace HX := HX.ext hb
      replace hE := hE.ext hb
      replace hM := hM.ext hb
      replace hnm := hnm.ext hb
      replace hum := hum.ext hb
      clear hb
      go_upto_region 8 with fail
      have hb := below_alloc w8 (.cells #[.int .i64 km, .int .i64 fm, .int .i64 om, .int .i64 vm, .slice Am ms.length cm] 24)
      replace HX := HX.new #[.int .i64 km, .int .i64 fm, .int .i64 om, .int .i64 vm, .slice Am ms.length cm] 24
      simp only [List.nil_append, List.cons_append] at HX
      replace hE := hE.ext hb
      replace hM := hM.ext hb
      replace hnm := hnm.ext hb
      replace hum := hum.ext hb
      replace hmm := hmm.ext hb
      clear hb
      generalize w8.alloc (.cells #[.int .i64 km, .int .i64 fm, .int .i64 om, .int .i64 vm, .slice Am ms.length cm] 24) = W8 at *
      generalize w8.heap.size = g8 at *
      have hqn := Lib.hid (show Tm.holds s.fld (TT.mk kn fn on vn An cn ns).tm = (Tm.holds s.fld t.tm ^^ false) by rw [hnt.out]; exact Tm.norm_holds _ hok.out.1 false)
      replace hmt := Lib.hid hmt
      have hmn := Lib.hid (show (TT.mk km fm om vm Am cm ms).tm = (TT.mk kn fn on vn An cn ns).tm by rw [hmt.out, hnt.out, Tm.norm_norm _ hok.out.1]; rfl)
      have hmf : Tells true ((TT.mk km fm om vm Am cm ms).tm.size ≤ 60) := yes (by rw [hmn.out]; have h1 := hnk.out.2.1; omega)
      have hpl := Lib.hid (show (TT.mk kn fn on vn An cn ns).tm.plain by rw [hnt.out]; exact (Tm.norm_ok _ hok.out.1 false).2)
      obtain ⟨x, hx⟩ := bool_of (fun _ : Unit => s.V ∧ t.tm.Ok ∧ Tm.holds s.fld t.tm = true)
      replace hx := hx ()
      generalize x () = x at hx
      have hnx : Tells x (s.V ∧ (TT.mk kn fn on vn An cn ns).tm.Ok ∧ Tm.holds s.fld (TT.mk kn fn on vn An cn ns).tm = true) := ⟨fun h => ⟨(hx.1 h).1, hnk.out, by rw [hqn.out, (hx.1 h).2.2]; rfl⟩, fun h => hx.2 ⟨h.1, hok.out, by have h2 := h.2.2; rw [hqn.out] at h2; simpa using h2⟩⟩
      clear hqn
      refine wp_region_x (al := []) (late := [24]) (dst := fun i => 0) (zt := fun _ => (#[], 0)) (B := W8.heap.size) (n := 24) (r := 1) (by kernel_rfl) (by kernel_rfl) (by decide) ?_ (by kernel_rfl) (by kernel_rfl) (by intro _ _ _ d _ h; cases d <;> exact h) (sz := 25) (by rfl) (by rfl) (Nat.le_refl _) ?_
      · intro i hi; cases hi
      have hE : Ext W8 W8.drew := drew_ext W8
      replace HX := HX.ext hE
      replace hM := hM.ext hE
      replace hnm := hnm.ext hE
      replace hmm := hmm.ext hE
      clear hE
      refine wpX_take (i := 0) (v := ?_) (by simp only [List.getElem?_toArray, List.getElem?_cons_zero]; rfl) (by kernel_rfl) (by kernel_rfl) (by kernel_rfl) (by exact fun _ _ _ h => h) (Or.inl ⟨by rfl, fun W hW => ?_⟩) ?_
      rotate_left
      · go_simp <;> (try with_reducible rfl)
      try simp only [Act.put, List.setIfInBounds_toArray, List.set_cons_zero, List.set_cons_succ]
      refine wpX_take (i := 1) (v := ?_) (by simp only [List.getElem?_toArray, List.getElem?_cons_succ, List.getElem?_cons_zero]; rfl) (by kernel_rfl) (by kernel_rfl) (by kernel_rfl) (by exact fun _ _ _ h => h) (Or.inl ⟨by rfl, fun W hW => ?_⟩) ?_
      rotate_left
      · go_simp <;> (try with_reducible rfl)
      try simp only [Act.put, List.setIfInBounds_toArray, List.set_cons_zero, List.set_cons_succ]
      refine wpX_take (i := 2) (v := ?_) (by simp only [List.getElem?_toArray, List.getElem?_cons_succ, List.getElem?_cons_zero]; rfl) (by kernel_rfl) (by kernel_rfl) (by kernel_rfl) (by exact fun _ _ _ h => h) (Or.inl ⟨by rfl, fun W hW => ?_⟩) ?_
      rotate_left
      · go_simp <;> (try with_reducible rfl)
      try simp only [Act.put, List.setIfInBounds_toArray, List.set_cons_zero, List.set_cons_succ]
      refine wpX_take (i := 3) (v := ?_) (by simp only [List.getElem?_toArray, List.getElem?_cons_succ, List.getElem?_cons_zero]; rfl) (by kernel_rfl) (by kernel_rfl) (by kernel_rfl) (by exact fun _ _ _ h => h) (Or.inl ⟨by rfl, fun W hW => ?_⟩) ?_
      rotate_left
      · have h0 := (HX.ext hW).cell 4 0 rfl rfl
        have h1 := (HX.ext hW).cell 4 1 rfl rfl
        have h2 := (HX.ext hW).cell 4 2 rfl rfl
        have h3 := (HX.ext hW).cell 4 3 rfl rfl
        have h4 := (HX.ext hW).cell 4 4 rfl rfl
        simp only [List.getElem_toArray, List.getElem_cons_zero, List.getElem_cons_succ] at h0 h1 h2 h3 h4
        go_simp <;> (try with_reducible rfl)
      try simp only [Act.put, List.setIfInBounds_toArray, List.set_cons_zero, List.set_cons_succ]
      refine wpX_step (i := 4) (by kernel_rfl) (by simp only [List.getElem?_toArray, List.getElem?_cons_succ, List.getElem?_cons_zero]; rfl) (fun W1 K hE hK => ?_)
      replace HX := HX.ext hE
      replace hM := hM.ext hE
      replace hnm := hnm.ext hE
      replace hmm := hmm.ext hE
      clear hE
      go_simp
      refine (rfew_any (b := true) (TT.mk km fm om vm Am cm ms) _ hmm hmf).mono ?_
      rintro e W2 ⟨rfl, hb⟩
      go_wp2_with fail
      refine hK.out _ _ hb ?_
      clear hK K
      replace HX := HX.ext hb
      replace hM := hM.ext hb
      replace hnm := hnm.ext hb
      replace hmm := hmm.ext hb
      clear hb
      try simp only [Act.put, List.setIfInBounds_toArray, List.set_cons_zero, List.set_cons_succ]
      skip
      refine wpX_take (i := 5) (v := ?_) (by simp only [List.getElem?_toArray, List.getElem?_cons_succ, List.getElem?_cons_zero]; rfl) (by kernel_rfl) (by kernel_rfl) (by kernel_rfl) (by exact fun _ _ _ h => h) (Or.inl ⟨by rfl, fun W hW => ?_⟩) ?_
      rotate_left
      · go_simp <;> (try with_reducible rfl)
      try simp only [Act.put, List.setIfInBounds_toArray, List.set_cons_zero, List.set_cons_succ]
      refine wpX_take (i := 6) (v := ?_) (by simp only [List.getElem?_toArray, List.getElem?_cons_succ, List.getElem?_cons_zero]; rfl) (by kernel_rfl) (by kernel_rfl) (by kernel_rfl) (by exact fun _ _ _ h => h) (Or.inl ⟨by rfl, fun W hW => ?_⟩) ?_
      rotate_left
      · go_simp <;> (try with_reducible rfl)
      try simp only [Act.put, List.setIfInBounds_toArray, List.set_cons_zero, List.set_cons_succ]
      refine wpX_take (i := 7) (v := ?_) (by simp only [List.getElem?_toArray, List.getElem?_cons_succ, List.getElem?_cons_zero]; rfl) (by kernel_rfl) (by kernel_rfl) (by kernel_rfl) (by exact fun _ _ _ h => h) (Or.inl ⟨by rfl, fun W hW => ?_⟩) ?_
      rotate_left
      · have h0 := (HX.ext hW).cell 4 0 rfl rfl
        have h1 := (HX.ext hW).cell 4 1 rfl rfl
        have h2 := (HX.ext hW).cell 4 2 rfl rfl
        have h3 := (HX.ext hW).cell 4 3 rfl rfl
        have h4 := (HX.ext hW).cell 4 4 rfl rfl
        simp only [List.getElem_toArray, List.getElem_cons_zero, List.getElem_cons_succ] at h0 h1 h2 h3 h4
        go_simp <;> (try with_reducible rfl)
      try simp only [Act.put, List.setIfInBounds_toArray, List.set_cons_zero, List.set_cons_succ]
      refine wpX_take (i := 8) (v := ?_) (by simp only [List.getElem?_toArray, List.getElem?_cons_succ, List.getElem?_cons_zero]; rfl) (by kernel_rfl) (by kernel_rfl) (by kernel_rfl) (by exact fun _ _ _ h => h) (Or.inl ⟨by rfl, fun W hW => ?_⟩) ?_
      rotate_left
      · have h0 := (HX.ext hW).cell 2 0 rfl rfl
        have h1 := (HX.ext hW).cell 2 1 rfl rfl
        have h2 := (HX.ext hW).cell 2 2 rfl rfl
        have h3 := (HX.ext hW).cell 2 3 rfl rfl
        have h4 := (HX.ext hW).cell 2 4 rfl rfl
        simp only [List.getElem_toArray, List.getElem_cons_zero, List.getElem_cons_succ] at h0 h1 h2 h3 h4
        go_simp <;> (try with_reducible rfl)
      try simp only [Act.put, List.setIfInBounds_toArray, List.set_cons_zero, List.set_cons_succ]
      refine wpX_step (i := 9) (by kernel_rfl) (by simp only [List.getElem?_toArray, List.getElem?_cons_succ, List.getElem?_cons_zero]; rfl) (fun W1 K hE hK => ?_)
      replace HX := HX.ext hE
      replace hM := hM.ext hE
      replace hnm := hnm.ext hE
      replace hmm := hmm.ext hE
      clear hE
      go_simp
      refine (rsame_any (TT.mk km fm om vm Am cm ms) (TT.mk kn fn on vn An cn ns) true _ hmm hnm (yes hmn.out)).mono ?_
      rintro e W2 ⟨rfl, hb⟩
      go_wp2_with fail
      refine hK.out _ _ hb ?_
      clear hK K
      replace HX := HX.ext hb
      replace hM := hM.ext hb
      replace hnm := hnm.ext hb
      replace hmm := hmm.ext hb
      clear hb
      try simp only [Act.put, List.setIfInBounds_toArray, List.set_cons_zero, List.set_cons_succ]
      skip
      refine wpX_take (i := 10) (v := ?_) (by simp only [List.getElem?_toArray, List.getElem?_cons_succ, List.getElem?_cons_zero]; rfl) (by kernel_rfl) (by kernel_rfl) (by kernel_rfl) (by exact fun _ _ _ h => h) (Or.inl ⟨by rfl, fun W hW => ?_⟩) ?_
      rotate_left
      · go_simp <;> (try with_reducible rfl)
      try simp only [Act.put, List.setIfInBounds_toArray, List.set_cons_zero, List.set_cons_succ]
      refine wpX_take (i := 11) (v := ?_) (by simp only [List.getElem?_toArray, List.getElem?_cons_succ, List.getElem?_cons_zero]; rfl) (by kernel_rfl) (by kernel_rfl) (by kernel_rfl) (by exact fun _ _ _ h => h) (Or.inl ⟨by rfl, fun W hW => ?_⟩) ?_
      rotate_left
      · go_simp <;> (try with_reducible rfl)
      try simp only [Act.put, List.setIfInBounds_toArray, List.set_cons_zero, List.set_cons_succ]
      refine wpX_take (i := 12) (v := ?_) (by simp only [List.getElem?_toArray, List.getElem?_cons_succ, List.getElem?_cons_zero]; rfl) (by kernel_rfl) (by kernel_rfl) (by kernel_rfl) (by exact fun _ _ _ h => h) (Or.inl ⟨by rfl, fun W hW => ?_⟩) ?_
      rotate_left
      · have h0 := (HX.ext hW).cell 2 0 rfl rfl
        have h1 := (HX.ext hW).cell 2 1 rfl rfl
        have h2 := (HX.ext hW).cell 2 2 rfl rfl
        have h3 := (HX.ext hW).cell 2 3 rfl rfl
        have h4 := (HX.ext hW).cell 2 4 rfl rfl
        simp only [List.getElem_toArray, List.getElem_cons_zero, List.getElem_cons_succ] at h0 h1 h2 h3 h4
        go_simp <;> (try with_reducible rfl)
      try simp only [Act.put, List.setIfInBounds_toArray, List.set_cons_zero, List.set_cons_succ]
      refine wpX_step (i := 13) (by kernel_rfl) (by simp only [List.getElem?_toArray, List.getElem?_cons_succ, List.getElem?_cons_zero]; rfl) (fun W1 K hE hK => ?_)
      replace HX := HX.ext hE
      replace hM := hM.ext hE
      replace hnm := hnm.ext hE
      replace hmm := hmm.ext hE
      clear hE
      go_simp
      refine (rplain_any (TT.mk kn fn on vn An cn ns) true _ hnm (yes hpl.out)).mono ?_
      rintro e W2 ⟨rfl, hb⟩
      go_wp2_with fail
      refine hK.out _ _ hb ?_
      clear hK K
      replace HX := HX.ext hb
      replace hM := hM.ext hb
      replace hnm := hnm.ext hb
      replace hmm := hmm.ext hb
      clear hb
      try simp only [Act.put, List.setIfInBounds_toArray, List.set_cons_zero, List.set_cons_succ]
      skip
      refine wpX_take (i := 14) (v := ?_) (by simp only [List.getElem?_toArray, List.getElem?_cons_succ, List.getElem?_cons_zero]; rfl) (by kernel_rfl) (by kernel_rfl) (by kernel_rfl) (by exact fun _ _ _ h => h) (Or.inl ⟨by rfl, fun W hW => ?_⟩) ?_
      rotate_left
      · go_simp <;> (try with_reducible rfl)
      try simp only [Act.put, List.setIfInBounds_toArray, List.set_cons_zero, List.set_cons_succ]
      refine wpX_take (i := 15) (v := ?_) (by simp only [List.getElem?_toArray, List.getElem?_cons_succ, List.getElem?_cons_zero]; rfl) (by kernel_rfl) (by kernel_rfl) (by kernel_rfl) (by exact fun _ _ _ h => h) (Or.inl ⟨by rfl, fun W hW => ?_⟩) ?_
      rotate_left
      · go_simp <;> (try with_reducible rfl)
      try simp only [Act.put, List.setIfInBounds_toArray, List.set_cons_zero, List.set_cons_succ]
      refine wpX_take (i := 16) (v := ?_) (by simp only [List.getElem?_toArray, List.getElem?_cons_succ, List.getElem?_cons_zero]; rfl) (by kernel_rfl) (by kernel_rfl) (by kernel_rfl) (by exact fun _ _ _ h => h) (Or.inl ⟨by rfl, fun W hW => ?_⟩) ?_
      rotate_left
      · have h0 := (HX.ext hW).cell 1 0 rfl rfl
        have h1 := (HX.ext hW).cell 1 1 rfl rfl
        have h2 := (HX.ext hW).cell 1 2 rfl rfl
        have h3 := (HX.ext hW).cell 1 3 rfl rfl
        have h4 := (HX.ext hW).cell 1 4 rfl rfl
        have h5 := (HX.ext hW).cell 1 5 rfl rfl
        have h6 := (HX.ext hW).cell 1 6 rfl rfl
        simp only [List.getElem_toArray, List.getElem_cons_zero, List.getElem_cons_succ] at h0 h1 h2 h3 h4 h5 h6
        go_simp <;> (try with_reducible rfl)
      try simp only [Act.put, List.setIfInBounds_toArray, List.set_cons_zero, List.set_cons_succ]
      refine wpX_take (i := 17) (v := ?_) (by simp only [List.getElem?_toArray, List.getElem?_cons_succ, List.getElem?_cons_zero]; rfl) (by kernel_rfl) (by kernel_rfl) (by kernel_rfl) (by exact fun _ _ _ h => h) (Or.inl ⟨by rfl, fun W hW => ?_⟩) ?_
      rotate_left
      · have h0 := (HX.ext hW).cell 2 0 rfl rfl
        have h1 := (HX.ext hW).cell 2 1 rfl rfl
        have h2 := (HX.ext hW).cell 2 2 rfl rfl
        have h3 := (HX.ext hW).cell 2 3 rfl rfl
        have h4 := (HX.ext hW).cell 2 4 rfl rfl
        simp only [List.getElem_toArray, List.getElem_cons_zero, List.getElem_cons_succ] at h0 h1 h2 h3 h4
        go_simp <;> (try with_reducible rfl)
      try simp only [Act.put, List.setIfInBounds_toArray, List.set_cons_zero, List.set_cons_succ]
      refine wpX_take (i := 19) (v := ?_) (by simp only [List.getElem?_toArray, List.getElem?_cons_succ, List.getElem?_cons_zero]; rfl) (by kernel_rfl) (by kernel_rfl) (by kernel_rfl) (by exact fun _ _ _ h => h) (Or.inl ⟨by rfl, fun W hW => ?_⟩) ?_
      rotate_left
      · have h0 := (HX.ext hW).cell 1 0 rfl rfl
        have h1 := (HX.ext hW).cell 1 1 rfl rfl
        have h2 := (HX.ext hW).cell 1 2 rfl rfl
        have h3 := (HX.ext hW).cell 1 3 rfl rfl
        have h4 := (HX.ext hW).cell 1 4 rfl rfl
        have h5 := (HX.ext hW).cell 1 5 rfl rfl
        have h6 := (HX.ext hW).cell 1 6 rfl rfl
        simp only [List.getElem_toArray, List.getElem_cons_zero, List.getElem_cons_succ] at h0 h1 h2 h3 h4 h5 h6
        go_simp <;> (try with_reducible rfl)
      try simp only [Act.put, List.setIfInBounds_toArray, List.set_cons_zero, List.set_cons_succ]
      refine wpX_take (i := 20) (v := ?_) (by simp only [List.getElem?_toArray, List.getElem?_cons_succ, List.getElem?_cons_zero]; rfl) (by kernel_rfl) (by kernel_rfl) (by kernel_rfl) (by exact fun _ _ _ h => h) (Or.inl ⟨by rfl, fun W hW => ?_⟩) ?_
      rotate_left
      · have h0 := (HX.ext hW).cell 0 0 rfl rfl
        have h1 := (HX.ext hW).cell 0 1 rfl rfl
        have h2 := (HX.ext hW).cell 0 2 rfl rfl
        have h3 := (HX.ext hW).cell 0 3 rfl rfl
        have h4 := (HX.ext hW).cell 0 4 rfl rfl
        simp only [List.getElem_toArray, List.getElem_cons_zero, List.getElem_cons_succ] at h0 h1 h2 h3 h4
        go_simp <;> (try with_reducible rfl)
      try simp only [Act.put, List.setIfInBounds_toArray, List.set_cons_zero, List.set_cons_succ]
      refine wpX_step (i := 18) (by kernel_rfl) (by simp only [List.getElem?_toArray, List.getElem?_cons_succ, List.getElem?_cons_zero]; rfl) (fun W1 K hE hK => ?_)
      replace HX := HX.ext hE
      replace hM := hM.ext hE
      replace hnm := hnm.ext hE
      replace hmm := hmm.ext hE
      clear hE
      go_simp
      refine (qhas_any (b := x) s (TT.mk kn fn on vn An cn ns) _ hnm hnx).mono ?_
      rintro e W2 ⟨rfl, hb⟩
      go_wp2_with fail
      refine hK.out _ _ hb ?_
      clear hK K
      replace HX := HX.ext hb
      replace hM := hM.ext hb
      replace hnm := hnm.ext hb
      replace hmm := hmm.ext hb
      clear hb
      try simp only [Act.put, List.setIfInBounds_toArray, List.set_cons_zero, List.set_cons_succ]
      skip
      refine wpX_step (i := 21) (by kernel_rfl) (by simp only [List.getElem?_toArray, List.getElem?_cons_succ, List.getElem?_cons_zero]; rfl) (fun W1 K hE hK => ?_)
      replace HX := HX.ext hE
      replace hM := hM.ext hE
      replace hnm := hnm.ext hE
      replace hmm := hmm.ext hE
      clear hE
      go_simp
      refine (qhas_any (b := x) s t _ hM hx).mono ?_
      rintro e W2 ⟨rfl, hb⟩
      go_wp2_with fail
      refine hK.out _ _ hb ?_
      clear hK K
      replace HX := HX.ext hb
      replace hM := hM.ext hb
      replace hnm := hnm.ext hb
      replace hmm := hmm.ext hb
      clear hb
      try simp only [Act.put, List.setIfInBounds_toArray, List.set_cons_zero, List.set_cons_succ]
      skip
      refine wpX_take (i := 22) (v := ?_) (by simp only [List.getElem?_toArray, List.getElem?_cons_succ, List.getElem?_cons_zero]; rfl) (by kernel_rfl) (by kernel_rfl) (by kernel_rfl) (by exact fun _ _ _ h => h) (Or.inl ⟨by rfl, fun W hW => ?_⟩) ?_
      rotate_left
      · go_simp <;> (try with_reducible rfl)
      try simp only [Act.put, List.setIfInBounds_toArray, List.set_cons_zero, List.set_cons_succ]
      refine wpX_take (i := 23) (v := ?_) (by simp only [List.getElem?_toArray, List.getElem?_cons_succ, List.getElem?_cons_zero]; rfl) (by kernel_rfl) (by kernel_rfl) (by kernel_rfl) (by exact fun _ _ _ h => h) (Or.inl ⟨by rfl, fun W hW => ?_⟩) ?_
      rotate_left
      · go_simp <;> (try with_reducible rfl)
      try simp only [Act.put, List.setIfInBounds_toArray, List.set_cons_zero, List.set_cons_succ]
      refine wpX_end (by kernel_rfl) (fun W12 ga m hE hg hm => ?_)
      replace HX := HX.ext hE
      replace hM := hM.ext hE
      replace hnm := hnm.ext hE
      replace hmm := hmm.ext hE
      clear hE
      clear hg
      simp only [putAll, setAll]
      try clear ga
      refine wpAny_step (i := 24) (by kernel_rfl) (by simp only [List.getElem?_toArray, List.getElem?_cons_succ, List.getElem?_cons_zero]; rfl) (by omega) (fun K hK => ?_)
      go_simp
      refine hK.out _ _ ?_
      clear hK K
      refine wpAny_done (by kernel_rfl) ?_ _
      go_wp2
      go_ret
      exact ⟨by cases x <;> rfl, HX.below⟩
    · have yo := no ho
      have hno := Lib.hid ho
      clear ho
      have hc00 := HX.cell 0 0 rfl rfl
      have hc01 := HX.cell 0 1 rfl rfl
      have hc02 := HX.cell 0 2 rfl rfl
      have hc03 := HX.cell 0 3 rfl rfl
      have hc04 := HX.cell 0 4 rfl rfl
      try simp only [List.getElem_toArray, List.getElem_cons_zero, List.getElem_cons_succ] at hc00 hc01 hc02 hc03 hc04
      go_wp2_with fail
      refine (qnorm_any t w2 hM (Lib.hid (.inr ⟨hno.out, rfl, rfl⟩))).mono ?_
      rintro e w4 ⟨n, he, hnm, hnt, hb⟩
      obtain ⟨kn, fn, on, vn, An, cn, ns⟩ := n
      change e = .returned (.tuple #[.agg #[.int .i64 kn, .int .i64 fn, .int .i64 on, .int .i64 vn, .slice An ns.length cn], .int .i64 1]) at he
      subst he
      clear hc00 hc01 hc02 hc03 hc04
      replace HX := HX.ext hb
      replace hE := hE.ext hb
      replace hM := hM.ext hb
      clear hb
      go_upto_region 4 with fail
      have hb := below_alloc w4 (.cells #[.int .i64 kn, .int .i64 fn, .int .i64 on, .int .i64 vn, .slice An ns.length cn] 24)
      replace HX := HX.new #[.int .i64 kn, .int .i64 fn, .int .i64 on, .int .i64 vn, .slice An ns.length cn] 24
      simp only [List.nil_append, List.cons_append] at HX
      replace hE := hE.ext hb
      replace hM := hM.ext hb
      replace hnm := hnm.ext hb
      clear hb
      generalize w4.alloc (.cells #[.int .i64 kn, .int .i64 fn, .int .i64 on, .int .i64 vn, .slice An ns.length cn] 24) = W4 at *
      generalize w4.heap.size = g4 at *
      have hc00 := HX.cell 0 0 rfl rfl
      have hc01 := HX.cell 0 1 rfl rfl
      have hc02 := HX.cell 0 2 rfl rfl
      have hc03 := HX.cell 0 3 rfl rfl
      have hc04 := HX.cell 0 4 rfl rfl
      try simp only [List.getElem_toArray, List.getElem_cons_zero, List.getElem_cons_succ] at hc00 hc01 hc02 hc03 hc04
      go_wp2_with fail
      refine (rnorm_any t W4 hM (Lib.hid (.inr ⟨hno.out, rfl, rfl⟩))).mono ?_
      rintro e w5 ⟨u, he, hum, hut, hb⟩
      obtain ⟨ku, fu, ou, vu, Au, cu, us⟩ := u
      change e = .returned (.tuple #[.agg #[.int .i64 ku, .int .i64 fu, .int .i64 ou, .int .i64 vu, .slice Au us.length cu], .int .i64 1]) at he
      subst he
      clear hc00 hc01 hc02 hc03 hc04
      replace HX := HX.ext hb
      replace hE := hE.ext hb
      replace hM := hM.ext hb
      replace hnm := hnm.ext hb
      clear hb
      go_upto_region 5 with fail
      have hb := below_alloc w5 (.cells #[.int .i64 ku, .int .i64 fu, .int .i64 ou, .int .i64 vu, .slice Au us.length cu] 24)
      replace HX := HX.new #[.int .i64 ku, .int .i64 fu, .int .i64 ou, .int .i64 vu, .slice Au us.length cu] 24
      simp only [List.nil_append, List.cons_append] at HX
      replace hE := hE.ext hb
      replace hM := hM.ext hb
      replace hnm := hnm.ext hb
      replace hum := hum.ext hb
      clear hb
      generalize w5.alloc (.cells #[.int .i64 ku, .int .i64 fu, .int .i64 ou, .int .i64 vu, .slice Au us.length cu] 24) = W5 at *
      generalize w5.heap.size = g5 at *
      replace hnt := Lib.hid hnt
      replace hut := Lib.hid hut
      have hsm := Lib.hid (show (TT.mk kn fn on vn An cn ns).tm = (TT.mk ku fu ou vu Au cu us).tm by rw [hnt.out, hut.out])
      have huf : Tells true ((TT.mk kn fn on vn An cn ns).tm.size ≤ 60) := yes (by rw [hnt.out]; decide)
      have hc20 := HX.cell 2 0 rfl rfl
      have hc21 := HX.cell 2 1 rfl rfl
      have hc22 := HX.cell 2 2 rfl rfl
      have hc23 := HX.cell 2 3 rfl rfl
      have hc24 := HX.cell 2 4 rfl rfl
      try simp only [List.getElem_toArray, List.getElem_cons_zero, List.getElem_cons_succ] at hc20 hc21 hc22 hc23 hc24
      go_wp2_with fail
      refine (rfew_any (b := true) (TT.mk kn fn on vn An cn ns) W5 hnm huf).mono ?_
      rintro e w6 ⟨rfl, hb⟩
      clear hc20 hc21 hc22 hc23 hc24
      replace HX := HX.ext hb
      replace hE := hE.ext hb
      replace hM := hM.ext hb
      replace hnm := hnm.ext hb
      replace hum := hum.ext hb
      clear hb
      have hc20 := HX.cell 2 0 rfl rfl
      have hc21 := HX.cell 2 1 rfl rfl
      have hc22 := HX.cell 2 2 rfl rfl
      have hc23 := HX.cell 2 3 rfl rfl
      have hc24 := HX.cell 2 4 rfl rfl
      try simp only [List.getElem_toArray, List.getElem_cons_zero, List.getElem_cons_succ] at hc20 hc21 hc22 hc23 hc24
      have hc30 := HX.cell 3 0 rfl rfl
      have hc31 := HX.cell 3 1 rfl rfl
      have hc32 := HX.cell 3 2 rfl rfl
      have hc33 := HX.cell 3 3 rfl rfl
      have hc34 := HX.cell 3 4 rfl rfl
      try simp only [List.getElem_toArray, List.getElem_cons_zero, List.getElem_cons_succ] at hc30 hc31 hc32 hc33 hc34
      go_wp2_with fail
      refine (rsame_any (TT.mk kn fn on vn An cn ns) (TT.mk ku fu ou vu Au cu us) true w6 hnm hum (yes hsm.out)).mono ?_
      rintro e w7 ⟨rfl, hb⟩
      clear hc20 hc21 hc22 hc23 hc24
      clear hc30 hc31 hc32 hc33 hc34
      replace HX := HX.ext hb
      replace hE := hE.ext hb
      replace hM := hM.ext hb
      replace hnm := hnm.ext hb
      replace hum := hum.ext hb
      clear hb
      have hc20 := HX.cell 2 0 rfl rfl
      have hc21 := HX.cell 2 1 rfl rfl
      have hc22 := HX.cell 2 2 rfl rfl
      have hc23 := HX.cell 2 3 rfl rfl
      have hc24 := HX.cell 2 4 rfl rfl
      try simp only [List.getElem_toArray, List.getElem_cons_zero, List.getElem_cons_succ] at hc20 hc21 hc22 hc23 hc24
      go_wp2_with fail
      refine (rfew_any (b := true) (TT.mk kn fn on vn An cn ns) w7 hnm huf).mono ?_
      rintro e w8 ⟨rfl, hb⟩
      clear hc20 hc21 hc22 hc23 hc24
      replace HX := HX.ext hb
      replace hE := hE.ext hb
      replace hM := hM.ext hb
      replace hnm := hnm.ext hb
      replace hum := hum.ext hb
      clear hb
      have hc20 := HX.cell 2 0 rfl rfl
      have hc21 := HX.cell 2 1 rfl rfl
      have hc22 := HX.cell 2 2 rfl rfl
      have hc23 := HX.cell 2 3 rfl rfl
      have hc24 := HX.cell 2 4 rfl rfl
      try simp only [List.getElem_toArray, List.getElem_cons_zero, List.getElem_cons_succ] at hc20 hc21 hc22 hc23 hc24
      have hc30 := HX.cell 3 0 rfl rfl
      have hc31 := HX.cell 3 1 rfl rfl
      have hc32 := HX.cell 3 2 rfl rfl
      have hc33 := HX.cell 3 3 rfl rfl
      have hc34 := HX.cell 3 4 rfl rfl
      try simp only [List.getElem_toArray, List.getElem_cons_zero, List.getElem_cons_succ] at hc30 hc31 hc32 hc33 hc34
      go_wp2_with fail
      refine (rsame_any (TT.mk kn fn on vn An cn ns) (TT.mk ku fu ou vu Au cu us) true w8 hnm hum (yes hsm.out)).mono ?_
      rintro e w9 ⟨rfl, hb⟩
      clear hc20 hc21 hc22 hc23 hc24
      clear hc30 hc31 hc32 hc33 hc34
      replace HX := HX.ext hb
      replace hE := hE.ext hb
      replace hM := hM.ext hb
      replace hnm := hnm.ext hb
      replace hum := hum.ext hb
      clear hb
      go_wp2
      go_ret
      exact ⟨rfl, HX.below⟩
  · have hc00 := HX.cell 0 0 rfl rfl
    have hc01 := HX.cell 0 1 rfl rfl
    have hc02 := HX.cell 0 2 rfl rfl
    have hc03 := HX.cell 0 3 rfl rfl
    have hc04 := HX.cell 0 4 rfl rfl
    try simp only [List.getElem_toArray, List.getElem_cons_zero, List.getElem_cons_succ] at hc00 hc01 hc02 hc03 hc04
    go_wp2_with fail
    refine (rfew_any (b := false) t w1 hM (no hf)).mono ?_
    rintro e w2 ⟨rfl, hb⟩
    clear hc00 hc01 hc02 hc03 hc04
    replace HX := HX.ext hb
    replace hE := hE.ext hb
    replace hM := hM.ext hb
    clear hb
    clear hf
    go_wp2_with fail
    refine (qawake_any w2 hE).mono ?_
    rintro e w3 ⟨rfl, hb⟩
    replace HX := HX.ext hb
    replace hE := hE.ext hb
    replace hM := hM.ext hb
    clear hb
    go_wp2
    go_ret
    exact ⟨rfl, HX.below⟩
end Go.Proofs.YtilojhhmichemaaGreatDoor
