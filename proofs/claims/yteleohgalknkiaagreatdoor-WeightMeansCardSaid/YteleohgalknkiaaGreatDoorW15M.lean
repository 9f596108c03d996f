/- The statement WeightMeans. -/
import Derived.Test.YteleohgalknkiaaGreatDoorW11M
namespace Go.Proofs.YteleohgalknkiaaGreatDoor
open Go.RowKit Go.Proofs Go

theorem chkE_rev (l : List Int) : chkE l.reverse = chkE l := by
  have h : WV l.reverse ↔ WV l := ⟨fun h x hx => h x (List.mem_reverse.2 hx), WV.rev⟩
  unfold chkE
  rw [List.length_reverse]
  split
  · rfl
  · by_cases hw : WV l
    · rw [if_pos hw, if_pos (h.2 hw)]
    · rw [if_neg hw, if_neg fun k => hw (h.1 k)]
theorem someE_rev (l : List Int) : someE l.reverse = someE l := by unfold someE; rw [chkE_rev, List.length_reverse]
theorem drop_rev {l : List Int} {p : Nat} (h : p < l.length) : (l.drop p).reverse = (l.drop (p + 1)).reverse ++ [at0 l p] := by
  have h1 : l[p] = at0 l p := by have := at0_get h; rw [List.getElem?_eq_getElem h] at this; exact Option.some.inj this
  rw [List.drop_eq_getElem_cons h, List.reverse_cons, h1]
set_option maxHeartbeats 8000000 in
set_option maxRecDepth 100000 in
theorem weightMeans_any {A : Option Addr} {c : Nat} {l : List Int} (w : World) (HE : Env w) (H : IEs w A l) (hl : l.length ≤ 9223372036854775807) :
    Calls Tryz.prog 9 #[.slice A l.length c] w (RetB w true) := by
  by_cases h100 : 100 < l.length
  · go_enter Tryz.func9, Tryz.ntmps9
    go_wp2_with fail
    have HX := BL.nil w
    refine (wawake_any _ HE).mono ?_
    rintro e w1 ⟨rfl, hb⟩
    replace HX := HX.ext hb
    replace HE := HE.ext hb
    clear hb
    go_wp2_with fail
    refine (wawake_any _ HE).mono ?_
    rintro e w2 ⟨rfl, hb⟩
    replace HX := HX.ext hb
    replace HE := HE.ext hb
    clear hb
    go_wp2
    go_ret
    exact ⟨by first | rfl | simp, HX.below⟩
  · by_cases hE0 : someE l = 0
    · have hE := Lib.hid hE0
      have hEr := Lib.hid ((someE_rev l).trans hE0)
      clear hE0
      obtain ⟨u, hu⟩ : ∃ u, Hid (quo l.sum (l.length : Int) = u) := ⟨_, Lib.hid rfl⟩
      obtain ⟨v, hv⟩ : ∃ v, Hid (quo (sumM l (twi l)) (2 * (l.length : Int)) = v) := ⟨_, Lib.hid rfl⟩
      have hvr : Hid (quo (sumM l.reverse (twi l.reverse)) (2 * (l.reverse.length : Int)) = v) := Lib.hid (by rw [twi_rev, sumM_perm (List.reverse_perm l), List.length_reverse]; exact hv.out)
      go_enter Tryz.func9, Tryz.ntmps9
      go_wp2_with fail
      have HX := BL.nil w
      refine (wawake_any _ HE).mono ?_
      rintro e w1 ⟨rfl, hb⟩
      replace HX := HX.ext hb
      replace H := H.ext hb
      clear hb
      have HOWN := IOwn.nil w1 w1.heap.size
      go_wp2
      go_loopg [3, 4] l.length (fun g y i wr => ∃ (m : Nat) (A8 : Option Addr) (c8 : Nat) (L : List Int), m = g ∧ m ≤ l.length ∧ Hid ((l.drop m).reverse = L) ∧ y = .slice A8 L.length c8 ∧ i = .int .i64 ((m : Int) - 1) ∧ IOwn wr w1.heap.size A8 c8 L ∧ Below w1.heap.size w1 wr)
      case atStart => exact ⟨l.length, none, 0, [], rfl, Nat.le_refl _, Lib.hid (by simp), rfl, by go_num, HOWN, Below.refl _ _⟩
      case round =>
        clear HOWN
        obtain ⟨m, A8, c8, L, hm, hml, hL, rfl, rfl, HOWN, hbw⟩ := hrel
        replace hm := Lib.hid hm
        have hLl : L.length ≤ 100 := by rw [← hL.out, List.length_reverse, List.length_drop]; omega
        cases m with
        | succ p =>
          have hi : ((p + 1 : Nat) : Int) - 1 = (p : Int) := by omega
          rw [hi]
          obtain ⟨ad, rfl, hbk, c0⟩ := (H.ext hbw).at_ (at0_get (show p < l.length by omega))
          have hnx := Lib.hid (show (l.drop p).reverse = L ++ [at0 l p] by rw [drop_rev (by omega), hL.out])
          generalize at0 l p = x at *
          clear hL
          go_wp2_with (at_builtin; refine wp_push EI _ rfl _ _ rfl rfl rfl HOWN (by rfl) (by omega) (by omega) hbw.size ?_)
          intro A9 c9 w7 HOWN2 hgr7 hb7 hlt7
          have HO2 := IOwn.snoc HOWN2 rfl
          replace hbw := hbw.trans hb7
          go_wp2
          go_roundg p
          case measure => have := hm.out; omega
          case rel => exact ⟨p, A9, c9, L ++ [x], rfl, by omega, hnx, by simp, by go_num, HO2, hbw⟩
        | zero =>
          have hLr : l.reverse = L := by rw [← hL.out, List.drop_zero]
          rw [hLr] at hEr hvr
          have hEL := hEr; have hvL := hvr
          clear hLr hEr hvr
          have HB := HOWN.es
          replace HX := HX.ext hbw
          replace H := H.ext hbw
          clear hbw HOWN hL
          generalize wr = V1 at *
          go_wp2_with fail
          refine (wmean_go A c l _ H hE hu).mono ?_
          rintro e w2 ⟨A2, c2, B2, d2, rfl, F2, hb⟩
          replace HX := HX.ext hb
          replace H := H.ext hb
          replace HB := HB.ext hb
          clear hb
          go_upto_region 9 with fail
          have hb := below_alloc w2 (.cells #[.bool (sg u), .slice A2 (dig (nu u)).length c2, .slice B2 (dig u.den).length d2] 37)
          replace HX := HX.new #[.bool (sg u), .slice A2 (dig (nu u)).length c2, .slice B2 (dig u.den).length d2] 37
          simp only [List.nil_append] at HX
          replace H := H.ext hb
          replace HB := HB.ext hb
          replace F2 := F2.ext hb
          clear hb
          generalize w2.alloc (.cells #[.bool (sg u), .slice A2 (dig (nu u)).length c2, .slice B2 (dig u.den).length d2] 37) = V2 at *
          generalize w2.heap.size = g2 at *
          go_wp2_with fail
          refine (rmean_go A c l _ H hE hu).mono ?_
          rintro e w3 ⟨A3, c3, B3, d3, rfl, F3, hb⟩
          replace HX := HX.ext hb
          replace H := H.ext hb
          replace HB := HB.ext hb
          replace F2 := F2.ext hb
          clear hb
          go_upto_region 10 with fail
          have hlg30 := HX.lt 0 rfl
          simp only [] at hlg30
          have hb := below_alloc w3 (.cells #[.bool (sg u), .slice A3 (dig (nu u)).length c3, .slice B3 (dig u.den).length d3] 37)
          replace HX := HX.new #[.bool (sg u), .slice A3 (dig (nu u)).length c3, .slice B3 (dig u.den).length d3] 37
          simp only [List.cons_append, List.nil_append] at HX
          replace H := H.ext hb
          replace HB := HB.ext hb
          replace F2 := F2.ext hb
          replace F3 := F3.ext hb
          clear hb
          generalize w3.alloc (.cells #[.bool (sg u), .slice A3 (dig (nu u)).length c3, .slice B3 (dig u.den).length d3] 37) = V3 at *
          generalize w3.heap.size = g3 at *
          go_wp2_with fail
          refine (wdev_go A8 c8 L _ HB hEL hvL).mono ?_
          rintro e w4 ⟨A4, c4, B4, d4, rfl, F4, hb⟩
          replace HX := HX.ext hb
          replace H := H.ext hb
          replace HB := HB.ext hb
          replace F2 := F2.ext hb
          replace F3 := F3.ext hb
          clear hb
          go_upto_region 11 with fail
          have hlg40 := HX.lt 0 rfl
          simp only [] at hlg40
          have hlg41 := HX.lt 1 rfl
          simp only [] at hlg41
          have hb := below_alloc w4 (.cells #[.bool (sg v), .slice A4 (dig (nu v)).length c4, .slice B4 (dig v.den).length d4] 37)
          replace HX := HX.new #[.bool (sg v), .slice A4 (dig (nu v)).length c4, .slice B4 (dig v.den).length d4] 37
          simp only [List.cons_append, List.nil_append] at HX
          replace H := H.ext hb
          replace HB := HB.ext hb
          replace F2 := F2.ext hb
          replace F3 := F3.ext hb
          replace F4 := F4.ext hb
          clear hb
          generalize w4.alloc (.cells #[.bool (sg v), .slice A4 (dig (nu v)).length c4, .slice B4 (dig v.den).length d4] 37) = V4 at *
          generalize w4.heap.size = g4 at *
          go_wp2_with fail
          refine (rdev_go A c l _ H hE hv).mono ?_
          rintro e w5 ⟨A5, c5, B5, d5, rfl, F5, hb⟩
          replace HX := HX.ext hb
          replace H := H.ext hb
          replace HB := HB.ext hb
          replace F2 := F2.ext hb
          replace F3 := F3.ext hb
          replace F4 := F4.ext hb
          clear hb
          go_upto_region 12 with fail
          have hlg50 := HX.lt 0 rfl
          simp only [] at hlg50
          have hlg51 := HX.lt 1 rfl
          simp only [] at hlg51
          have hlg52 := HX.lt 2 rfl
          simp only [] at hlg52
          have hb := below_alloc w5 (.cells #[.bool (sg v), .slice A5 (dig (nu v)).length c5, .slice B5 (dig v.den).length d5] 37)
          replace HX := HX.new #[.bool (sg v), .slice A5 (dig (nu v)).length c5, .slice B5 (dig v.den).length d5] 37
          simp only [List.cons_append, List.nil_append] at HX
          replace H := H.ext hb
          replace HB := HB.ext hb
          replace F2 := F2.ext hb
          replace F3 := F3.ext hb
          replace F4 := F4.ext hb
          replace F5 := F5.ext hb
          clear hb
          generalize w5.alloc (.cells #[.bool (sg v), .slice A5 (dig (nu v)).length c5, .slice B5 (dig v.den).length d5] 37) = V5 at *
          generalize w5.heap.size = g5 at *
          have hc00 := HX.cell 0 0 rfl rfl
          have hc01 := HX.cell 0 1 rfl rfl
          have hc02 := HX.cell 0 2 rfl rfl
          try simp only [List.getElem_toArray, List.getElem_cons_zero, List.getElem_cons_succ] at hc00 hc01 hc02
          have hc10 := HX.cell 1 0 rfl rfl
          have hc11 := HX.cell 1 1 rfl rfl
          have hc12 := HX.cell 1 2 rfl rfl
          try simp only [List.getElem_toArray, List.getElem_cons_zero, List.getElem_cons_succ] at hc10 hc11 hc12
          go_wp2_with fail
          refine (bfrac_s F2 F3 (by omega) (by omega)).mono ?_
          rintro e w6 ⟨rfl, hb⟩
          clear hc00 hc01 hc02
          clear hc10 hc11 hc12
          replace HX := HX.ext hb
          replace H := H.ext hb
          replace HB := HB.ext hb
          replace F2 := F2.ext hb
          replace F3 := F3.ext hb
          replace F4 := F4.ext hb
          replace F5 := F5.ext hb
          clear hb
          have hc20 := HX.cell 2 0 rfl rfl
          have hc21 := HX.cell 2 1 rfl rfl
          have hc22 := HX.cell 2 2 rfl rfl
          try simp only [List.getElem_toArray, List.getElem_cons_zero, List.getElem_cons_succ] at hc20 hc21 hc22
          have hc30 := HX.cell 3 0 rfl rfl
          have hc31 := HX.cell 3 1 rfl rfl
          have hc32 := HX.cell 3 2 rfl rfl
          try simp only [List.getElem_toArray, List.getElem_cons_zero, List.getElem_cons_succ] at hc30 hc31 hc32
          go_wp2_with fail
          refine (bfrac_s F4 F5 (by omega) (by omega)).mono ?_
          rintro e w7 ⟨rfl, hb⟩
          clear hc20 hc21 hc22
          clear hc30 hc31 hc32
          replace HX := HX.ext hb
          replace H := H.ext hb
          replace HB := HB.ext hb
          replace F2 := F2.ext hb
          replace F3 := F3.ext hb
          replace F4 := F4.ext hb
          replace F5 := F5.ext hb
          clear hb
          go_wp2
          go_ret
          exact ⟨by first | rfl | simp, HX.below⟩
    · obtain ⟨E, hEE⟩ : ∃ E, someE l = E := ⟨_, rfl⟩
      have hE := Lib.hid hEE
      have hEr := Lib.hid ((someE_rev l).trans hEE)
      have hn : (E != 0) = true := bne_iff_ne.2 (hEE ▸ hE0)
      clear hE0 hEE
      go_enter Tryz.func9, Tryz.ntmps9
      go_wp2_with fail
      have HX := BL.nil w
      refine (wawake_any _ HE).mono ?_
      rintro e w1 ⟨rfl, hb⟩
      replace HX := HX.ext hb
      replace H := H.ext hb
      clear hb
      have HOWN := IOwn.nil w1 w1.heap.size
      go_wp2
      go_loopg [3, 4] l.length (fun g y i wr => ∃ (m : Nat) (A8 : Option Addr) (c8 : Nat) (L : List Int), m = g ∧ m ≤ l.length ∧ Hid ((l.drop m).reverse = L) ∧ y = .slice A8 L.length c8 ∧ i = .int .i64 ((m : Int) - 1) ∧ IOwn wr w1.heap.size A8 c8 L ∧ Below w1.heap.size w1 wr)
      case atStart => exact ⟨l.length, none, 0, [], rfl, Nat.le_refl _, Lib.hid (by simp), rfl, by go_num, HOWN, Below.refl _ _⟩
      case round =>
        clear HOWN
        obtain ⟨m, A8, c8, L, hm, hml, hL, rfl, rfl, HOWN, hbw⟩ := hrel
        replace hm := Lib.hid hm
        have hLl : L.length ≤ 100 := by rw [← hL.out, List.length_reverse, List.length_drop]; omega
        cases m with
        | succ p =>
          have hi : ((p + 1 : Nat) : Int) - 1 = (p : Int) := by omega
          rw [hi]
          obtain ⟨ad, rfl, hbk, c0⟩ := (H.ext hbw).at_ (at0_get (show p < l.length by omega))
          have hnx := Lib.hid (show (l.drop p).reverse = L ++ [at0 l p] by rw [drop_rev (by omega), hL.out])
          generalize at0 l p = x at *
          clear hL
          go_wp2_with (at_builtin; refine wp_push EI _ rfl _ _ rfl rfl rfl HOWN (by rfl) (by omega) (by omega) hbw.size ?_)
          intro A9 c9 w7 HOWN2 hgr7 hb7 hlt7
          have HO2 := IOwn.snoc HOWN2 rfl
          replace hbw := hbw.trans hb7
          go_wp2
          go_roundg p
          case measure => have := hm.out; omega
          case rel => exact ⟨p, A9, c9, L ++ [x], rfl, by omega, hnx, by simp, by go_num, HO2, hbw⟩
        | zero =>
          have hLr : l.reverse = L := by rw [← hL.out, List.drop_zero]
          rw [hLr] at hEr
          have hEL := hEr
          clear hLr hEr
          have HB := HOWN.es
          replace HX := HX.ext hbw
          replace H := H.ext hbw
          clear hbw HOWN hL
          generalize wr = V1 at *
          go_wp2_with fail
          refine (wmean_err A c l _ H (by omega) hE hn).mono ?_
          rintro e w2 ⟨rfl, hb⟩
          replace HX := HX.ext hb
          replace H := H.ext hb
          replace HB := HB.ext hb
          clear hb
          go_upto_region 9 with fail
          have hb := below_alloc w2 (.cells #[.bool false, .slice none 0 0, .slice none 0 0] 37)
          replace HX := HX.new #[.bool false, .slice none 0 0, .slice none 0 0] 37
          simp only [List.nil_append] at HX
          replace H := H.ext hb
          replace HB := HB.ext hb
          clear hb
          generalize w2.alloc (.cells #[.bool false, .slice none 0 0, .slice none 0 0] 37) = V2 at *
          generalize w2.heap.size = g2 at *
          go_wp2_with fail
          refine (rmean_err A c l _ H (by omega) hE hn).mono ?_
          rintro e w3 ⟨rfl, hb⟩
          replace HX := HX.ext hb
          replace H := H.ext hb
          replace HB := HB.ext hb
          clear hb
          go_upto_region 10 with fail
          have hlg30 := HX.lt 0 rfl
          simp only [] at hlg30
          have hb := below_alloc w3 (.cells #[.bool false, .slice none 0 0, .slice none 0 0] 37)
          replace HX := HX.new #[.bool false, .slice none 0 0, .slice none 0 0] 37
          simp only [List.cons_append, List.nil_append] at HX
          replace H := H.ext hb
          replace HB := HB.ext hb
          clear hb
          generalize w3.alloc (.cells #[.bool false, .slice none 0 0, .slice none 0 0] 37) = V3 at *
          generalize w3.heap.size = g3 at *
          go_wp2_with fail
          refine (wdev_err A8 c8 L _ HB (by omega) hEL hn).mono ?_
          rintro e w4 ⟨rfl, hb⟩
          replace HX := HX.ext hb
          replace H := H.ext hb
          replace HB := HB.ext hb
          clear hb
          go_upto_region 11 with fail
          have hlg40 := HX.lt 0 rfl
          simp only [] at hlg40
          have hlg41 := HX.lt 1 rfl
          simp only [] at hlg41
          have hb := below_alloc w4 (.cells #[.bool false, .slice none 0 0, .slice none 0 0] 37)
          replace HX := HX.new #[.bool false, .slice none 0 0, .slice none 0 0] 37
          simp only [List.cons_append, List.nil_append] at HX
          replace H := H.ext hb
          replace HB := HB.ext hb
          clear hb
          generalize w4.alloc (.cells #[.bool false, .slice none 0 0, .slice none 0 0] 37) = V4 at *
          generalize w4.heap.size = g4 at *
          go_wp2_with fail
          refine (rdev_err A c l _ H (by omega) hE hn).mono ?_
          rintro e w5 ⟨rfl, hb⟩
          replace HX := HX.ext hb
          replace H := H.ext hb
          replace HB := HB.ext hb
          clear hb
          go_upto_region 12 with fail
          have hlg50 := HX.lt 0 rfl
          simp only [] at hlg50
          have hlg51 := HX.lt 1 rfl
          simp only [] at hlg51
          have hlg52 := HX.lt 2 rfl
          simp only [] at hlg52
          have hb := below_alloc w5 (.cells #[.bool false, .slice none 0 0, .slice none 0 0] 37)
          replace HX := HX.new #[.bool false, .slice none 0 0, .slice none 0 0] 37
          simp only [List.cons_append, List.nil_append] at HX
          replace H := H.ext hb
          replace HB := HB.ext hb
          clear hb
          generalize w5.alloc (.cells #[.bool false, .slice none 0 0, .slice none 0 0] 37) = V5 at *
          generalize w5.heap.size = g5 at *
          have hc00 := HX.cell 0 0 rfl rfl
          have hc01 := HX.cell 0 1 rfl rfl
          have hc02 := HX.cell 0 2 rfl rfl
          try simp only [List.getElem_toArray, List.getElem_cons_zero, List.getElem_cons_succ] at hc00 hc01 hc02
          have hc10 := HX.cell 1 0 rfl rfl
          have hc11 := HX.cell 1 1 rfl rfl
          have hc12 := HX.cell 1 2 rfl rfl
          try simp only [List.getElem_toArray, List.getElem_cons_zero, List.getElem_cons_succ] at hc10 hc11 hc12
          go_wp2_with fail
          refine (bfrac_0).mono ?_
          rintro e w6 ⟨rfl, hb⟩
          clear hc00 hc01 hc02
          clear hc10 hc11 hc12
          replace HX := HX.ext hb
          replace H := H.ext hb
          replace HB := HB.ext hb
          clear hb
          have hc20 := HX.cell 2 0 rfl rfl
          have hc21 := HX.cell 2 1 rfl rfl
          have hc22 := HX.cell 2 2 rfl rfl
          try simp only [List.getElem_toArray, List.getElem_cons_zero, List.getElem_cons_succ] at hc20 hc21 hc22
          have hc30 := HX.cell 3 0 rfl rfl
          have hc31 := HX.cell 3 1 rfl rfl
          have hc32 := HX.cell 3 2 rfl rfl
          try simp only [List.getElem_toArray, List.getElem_cons_zero, List.getElem_cons_succ] at hc30 hc31 hc32
          go_wp2_with fail
          refine (bfrac_0).mono ?_
          rintro e w7 ⟨rfl, hb⟩
          clear hc20 hc21 hc22
          clear hc30 hc31 hc32
          replace HX := HX.ext hb
          replace H := H.ext hb
          replace HB := HB.ext hb
          clear hb
          go_wp2
          go_ret
          exact ⟨by first | rfl | simp, HX.below⟩
end Go.Proofs.YteleohgalknkiaaGreatDoor
