/- The package natural, seventh part: divide, the long way. -/
import Derived.Test.YtolkijelldlmeaaGreatDoorNat6
import Derived.Deep.DeepCutAuto
import Derived.Deep.CutBlock
namespace Go.Proofs.YtolkijelldlmeaaGreatDoor
open Go.RowKit Go.Proofs

set_option maxHeartbeats 1000000 in
set_option maxRecDepth 1000000 in
theorem divide_long (A B : Option Addr) (n m c d : Nat) (a b : Nat) (w : World) (HA : Lim w A c (dig a)) (HB : Lim w B d (dig b)) (hn : n = (dig a).length) (hm : m = (dig b).length) (hl : n ≤ 4294967296) (hge : b ≤ a) (h1 : 2 ≤ m) :
    Calls Tryz.prog 237 #[.slice A n c, .slice B m d] w (RetSS w (a / b) (a % b)) := by
  have hb0 : 0 < b := dig_len_pos.1 (by omega)
  have hmn : m ≤ n := by rw [hm, hn]; exact dig_mono hge
  obtain ⟨s, hs⟩ : ∃ s, s = 1000000000 / (at_ (dig b) (m - 1) + 1) := ⟨_, rfl⟩
  obtain ⟨hlv, hs0, hs1⟩ := len_scaled hm hb0 hs
  have hcn : decide (cmpI a b < 0) = false := by
    rcases Nat.lt_or_ge b a with h | h
    · rw [cmpI_gt h]; rfl
    · rw [cmpI_eq (by omega)]; rfl
  have hsI : (1000000000 : Int) / (((at_ (dig b) (m - 1) : Nat) : Int) + 1) = (s : Int) := by rw [hs, Int.natCast_ediv]; rfl
  have htop := dig_Dig b (m - 1)
  have hds : dig s = [s] := dig_one hs0 hs1
  have hlu : n ≤ (dig (a * s)).length := by rw [hn]; exact dig_mono (Nat.le_mul_of_pos_right a hs0)
  have hlu2 : (dig (a * s)).length ≤ n + 1 := by
    refine dig_len_le ?_
    rw [pw_succ, Nat.mul_comm]
    refine Nat.lt_of_lt_of_le (Nat.mul_lt_mul_of_pos_left (by rw [hn]; exact dig_lt a) hs0) (Nat.mul_le_mul_right _ (by omega))
  have HN := Lib.hid hn
  have HM := Lib.hid hm
  have HS := Lib.hid hs
  have HDS := Lib.hid hds
  have HLV := Lib.hid hlv
  clear hn hm hs hds hlv
  go_enter Tryz.func237, Tryz.ntmps237
  go_wp2_with fail
  refine (compare_any A B n m c d a b w HA HB HN.out HM.out (by omega) (by omega)).mono ?_
  rintro e w1 ⟨rfl, hw1⟩
  have hb1 := hw1.below w.heap.size
  obtain ⟨bd, rfl, _, hcell⟩ := (HB.ext hb1).cellAt (j := m - 1) (by have := HM.out; omega)
  go_wp2_with fail
  have hx1 := below_alloc w1 (.cells #[.int .u32 (s : Int)] 208)
  have HSC := Lim.lit1 w1 208 (x := s) (by omega)
  rw [← HDS.out] at HSC
  refine (times_any A _ n 1 c 1 a s _ ((HA.ext hb1).ext hx1) HSC HN.out (by rw [HDS.out]; rfl) (by omega) (by omega)).mono ?_
  rintro e w2 ⟨Au, cu, rfl, HU, hb2⟩
  go_wp2_with fail
  refine (times_any _ _ m 1 d 1 b s _ (((HB.ext hb1).ext hx1).ext hb2) (HSC.ext hb2) HM.out (by rw [HDS.out]; rfl) (by omega) (by omega)).mono ?_
  rintro e w3 ⟨Av, cv, rfl, HV, hb3⟩
  have HU := HU.ext hb3
  have HSC := (HSC.ext hb2).ext hb3
  have hbw : Below w.heap.size w w3 := (hb1.trans (hx1.mono hb1.size)).trans ((hb2.mono (Nat.le_trans hb1.size hx1.size)).trans (hb3.mono (Nat.le_trans hb1.size (Nat.le_trans hx1.size hb2.size))))
  have hvl : (dig (b * s)).length ≤ (dig (a * s)).length := by have := HLV.out; omega
  clear hb2 hb3 hx1
  go_wp2_with (at_make; refine wp_make EU _ rfl _ _ rfl _ _ ((dig (a * s)).length - (dig (b * s)).length + 1) rfl rfl (by omega) (by omega) (by omega) (by omega) ?_)
  intro w4 hown hb4 hlt4
  rw [ints_replicate] at hown
  go_wp2
  have hUpos : 0 < b * s := Nat.mul_pos hb0 hs0
  generalize hUe : a * s = U at *
  generalize hVe : b * s = V at *
  have HUE := Lib.hid hUe
  have HVE := Lib.hid hVe
  clear hUe hVe hcell
  obtain ⟨N, hNq⟩ : ∃ N, N = (dig U).length - (dig V).length + 1 := ⟨_, rfl⟩
  rw [← hNq] at hown
  rw [← hNq]
  have hNj : ((dig U).length : Int) - ((dig V).length : Int) = (N : Int) - 1 := by omega
  have hN1 : N + (dig V).length = (dig U).length + 1 := by omega
  have HN1 := Lib.hid hN1
  have hNle : N ≤ 4294967298 := by omega
  rw [hNj, show ((N : Int) - 1 + 1) = (N : Int) from by omega]
  clear hNj hN1 hNq hsI htop
  go_loopw [9, 12] (fun uv jv wr => ∃ (k : Nat) (ul qo : List Nat) (Au : Option Addr) (cu : Nat), k ≤ N ∧ DivAt U V N k ul qo ∧ jv = .int .i64 ((k : Int) - 1) ∧ uv = .slice Au ul.length cu ∧ Lim wr Au cu ul ∧ Avoid w3.heap.size Au ul.length ∧ Own wr w3.heap.size 208 (some ⟨w3.heap.size, 0, none⟩) N N (ints .u32 qo) ∧ Below w3.heap.size w3 wr)
    (fun _ j _ => (intOf j + 1).toNat)
  case atStart => exact ⟨N, dig U, _, Au, cu, Nat.le_refl _, DivAt.first hUpos HN1.out, rfl, rfl, HU.ext hb4, HU.avoid (Nat.le_refl _), hown, hb4⟩
  case round =>
    clear HU hown hb4 hlt4 w4
    obtain ⟨k, ul, qo, Au, cu, hk, hD, rfl, rfl, HU, hAU, hown, hb4⟩ := hrel
    have hul := hD.ulen
    by_cases hk0 : 0 < k
    · obtain ⟨j, rfl⟩ : ∃ j, k = j + 1 := ⟨k - 1, by omega⟩
      have hj : ((j + 1 : Nat) : Int) - 1 = j := by omega
      rw [hj]
      clear hj
      have hcap := HU.cap
      obtain ⟨P, hP⟩ : ∃ P, P = val ul / pw j := ⟨_, rfl⟩
      have HP := Lib.hid hP
      clear hP
      by_cases hju : j ≤ ul.length
      · have HVD := Lib.hid (val_drop_div hD.udg j)
        rw [← HP.out] at HVD
        go_wp2_with ((with_reducible refine wp_slice_low (o := ⟨some 75, _, _, _, _, _⟩) EU rfl _ rfl _ _ rfl (k := j) rfl rfl rfl HU rfl (by omega) ?_))
        intro Ad cd HDr
        go_wp2_with fail
        refine (clone_any Ad _ cd (ul.drop j) _ HDr (by rw [List.length_drop]) (by omega)).mono ?_
        rintro e w5 ⟨Ac, cc, rfl, HC, hb5, hav5⟩
        go_wp2_with fail
        refine (trim_val Ac _ cc P (ul.drop j) w5 HC (hD.udg.drop _) HVD.out (by rw [List.length_drop]) (by omega)).mono ?_
        rintro e w6 ⟨rfl, rfl⟩
        have HPL := HC.of_val (hD.udg.drop _) HVD.out
        have hAP : Avoid w3.heap.size Ac (dig P).length := (hav5 _ (World.ownsRow.lt hown _ rfl).2).mono (by
          have := dig_len_val (hD.udg.drop j)
          rw [HVD.out, List.length_drop] at this
          exact this)
        have hplen : (dig P).length ≤ ul.length := by
          have := dig_len_val (hD.udg.drop j)
          rw [HVD.out, List.length_drop] at this
          omega
        have hHV5 := (HV.ext hb4).ext hb5
        have hown5 := hown.ext hb5
        have hb45 := hb4.trans (hb5.mono hb4.size)
        have hHU5 := HU.ext hb5
        clear HC HDr hb5 hown hb4 HU
        go_wp2_with fail
        refine (compare_any Ac Av _ _ cc cv P V w5 HPL hHV5 rfl rfl (by omega) (by omega)).mono ?_
        rintro e w6 ⟨rfl, hw6⟩
        have hb6 := hw6.below w5.heap.size
        have HPL6 := HPL.ext hb6
        have HV6 := hHV5.ext hb6
        have hown6 := hown5.ext hb6
        have hb46 := hb45.trans (hb6.mono hb45.size)
        have HU6 := hHU5.ext hb6
        clear HPL hHV5 hown5 hb45 hHU5 hb6 hw6
        by_cases hPV : P < V
        · have hcmp : decide (cmpI P V < 0) = true := by rw [cmpI_lt hPV]; rfl
          go_wp2
          go_roundw
          case rel => exact ⟨j, ul, qo, Au, cu, by omega, hD.skip (by omega) (by rw [← HP.out]; exact hPV), rfl, rfl, HU6, hAU, hown6, hb46⟩
          case measure => simp [intOf]
        · have hcmp : decide (cmpI P V < 0) = false := by
            rcases Nat.lt_or_ge V P with h | h
            · rw [cmpI_gt h]; rfl
            · rw [cmpI_eq (by omega)]; rfl
          have hVP : V ≤ P := by omega
          have hj2 := hD.inside (by rw [← HP.out]; exact hVP)
          have hL1 : (dig V).length ≤ (dig P).length := dig_mono hVP
          have hL2 : (dig P).length ≤ (dig V).length + 1 := by
            refine dig_len_le ?_
            have h5 := hD.lt
            rw [div_pw_div, ← HP.out] at h5
            have h6 := dig_lt V
            rw [pw_succ]
            omega
          have hLv := HLV.out
          have hL3 : 2 ≤ (dig V).length := by omega
          have hL4 : (dig V).length ≤ 4294967296 := by omega
          obtain ⟨pd, rfl, _, hpc⟩ := HPL6.cell (by omega)
          obtain ⟨vd, rfl, _, hvc⟩ := HV6.cell (by omega)
          have hp1 := hpc ((dig P).length - 1) (by omega)
          have hp2 := hpc ((dig P).length - 2) (by omega)
          have hv1 := hvc ((dig V).length - 1) (by omega)
          have hd1 := dig_Dig P ((dig P).length - 1)
          have hd2 := dig_Dig P ((dig P).length - 2)
          have hd3 := dig_Dig V ((dig V).length - 1)
          have hd4 := dig_top hUpos
          obtain ⟨T, hT⟩ : ∃ T, T = P / pw ((dig V).length - 1) := ⟨_, rfl⟩
          have hTl : (dig V).length < (dig P).length → ((at_ (dig P) ((dig P).length - 1) : Nat) : Int) * 1000000000 + ((at_ (dig P) ((dig P).length - 2) : Nat) : Int) = (T : Int) := by
            intro hlt
            have := dig_last2 P (k := (dig V).length - 1) (by omega)
            rw [← hT, show (dig V).length - 1 + 1 = (dig P).length - 1 by omega, show (dig V).length - 1 = (dig P).length - 2 by omega] at this
            omega
          have hTe : ¬ (dig V).length < (dig P).length → ((at_ (dig P) ((dig P).length - 1) : Nat) : Int) = (T : Int) := by
            intro hlt
            have := dig_last P (k := (dig V).length - 1) (by omega)
            rw [← hT, show (dig V).length - 1 = (dig P).length - 1 by omega] at this
            omega
          have htd := top_digit (P := P) (V := V) rfl hUpos hVP
          rw [← hT] at htd
          generalize at_ (dig P) ((dig P).length - 1) = x at *
          generalize at_ (dig P) ((dig P).length - 2) = y at *
          generalize at_ (dig V) ((dig V).length - 1) = z at *
          have hTb : T < 1000000000000000000 := by
            by_cases hlt : (dig V).length < (dig P).length
            · have := hTl hlt; omega
            · have := hTe hlt; omega
          have HTL := Lib.hid hTl
          have HTE := Lib.hid hTe
          clear hTl hTe hpc hvc hT hLv
          go_upto_if 93 with fail
          go_cut [14] (fun t wx => t = .int .u64 (T : Int) ∧ wx = w6)
          case first =>
            by_cases hLl : (dig V).length < (dig P).length
            · have HT := HTL.out hLl
              go_wp2
              go_meet
              case rel => exact ⟨rfl, rfl⟩
            · have HT := HTE.out hLl
              go_wp2
              go_meet
              case rel => exact ⟨by rw [HT], rfl⟩
          case rest =>
            obtain ⟨rfl, rfl⟩ := hcut
            go_upto_region 17 with fail
            have hqe : (T : Int) / (z : Int) = ((T / z : Nat) : Int) := (Int.natCast_ediv T z).symm
            have hgz : P / V ≤ T / z := (Nat.le_div_iff_mul_le (by omega)).2 htd
            have hdg : P / V < 1000000000 := by rw [HP.out]; exact hD.digit
            have hpv0 : 0 < P / V := Nat.div_pos hVP hUpos
            have hg0 : T / z ≤ T := Nat.div_le_self _ _
            generalize T / z = g0 at *
            obtain ⟨g, hg, hg1, hg2⟩ : ∃ g, g = min g0 999999999 ∧ P / V ≤ g ∧ g < 1000000000 := ⟨_, rfl, Nat.le_min.2 ⟨hgz, Nat.le_of_lt_succ hdg⟩, Nat.lt_of_le_of_lt (Nat.min_le_right _ _) (by decide)⟩
            have hg3 : 0 < g := Nat.lt_of_lt_of_le hpv0 hg1
            have HG := Lib.hid hg
            clear hg
            go_cut [15] (fun t wx => t = .int .u64 (g : Int) ∧ wx = wc)
            case first =>
              by_cases hgl : g0 ≤ 999999999
              · go_wp2
                go_meet
                case rel => exact ⟨by rw [HG.out, Nat.min_eq_left hgl], rfl⟩
              · go_wp2
                go_meet
                case rel => exact ⟨by rw [HG.out, Nat.min_eq_right (by omega)]; rfl, rfl⟩
            case rest =>
              obtain ⟨rfl, rfl⟩ := hcut
              clear hqe hgz htd
              have hdg1 : dig g = [g] := dig_one hg3 hg2
              have HDG := Lib.hid hdg1
              clear hdg1
              go_wp2_with fail
              have hxa := below_alloc wc (.cells #[.int .u32 (g : Int)] 208)
              have HGL := Lim.lit1 wc 208 (x := g) (by omega)
              rw [← HDG.out] at HGL
              refine (times_new _ _ _ 1 _ 1 V g _ (HV6.ext hxa) HGL rfl (by rw [HDG.out]; rfl) (by omega) (by omega)).mono ?_
              rintro e w7 ⟨Ap, cp, rfl, HPR, hb7, hav7⟩
              have hxb := hxa.trans (hb7.mono hxa.size)
              have HV7 := HV6.ext hxb
              have HPL7 := HPL6.ext hxb
              have HU7 := HU6.ext hxb
              have hown7 := hown6.ext hxb
              have hb47 := hb46.trans (hxb.mono hb46.size)
              have hAPR := hav7 w3.heap.size (Nat.lt_of_lt_of_le (World.ownsRow.lt hown6 _ rfl).2 hxa.size)
              have hg7 := (World.ownsRow.lt hown7 _ rfl).2
              clear hxa hxb hb7 HGL HV6 HPL6 HU6 hown6 hb46
              go_upto_block 2 with fail
              go_cut [15, 16] (fun gv pv wx => ∃ Ap cp, gv = .int .u64 ((P / V : Nat) : Int) ∧ pv = .slice Ap (dig (V * (P / V))).length cp ∧ Lim wx Ap cp (dig (V * (P / V))) ∧ Avoid w3.heap.size Ap (dig (V * (P / V))).length ∧ Below w7.heap.size w7 wx)
              case first =>
                go_wp2_with fail
                go_loopw [15, 16] (fun gv pv wr => ∃ (h : Nat) (Ap : Option Addr) (cp : Nat), P / V ≤ h ∧ h ≤ g ∧ gv = .int .u64 (h : Int) ∧ pv = .slice Ap (dig (V * h)).length cp ∧ Lim wr Ap cp (dig (V * h)) ∧ Avoid w3.heap.size Ap (dig (V * h)).length ∧ Below w7.heap.size w7 wr) (fun gv _ _ => (intOf gv).toNat)
                case atStart => exact ⟨g, Ap, cp, hg1, Nat.le_refl _, rfl, rfl, HPR, hAPR, Below.refl _ _⟩
                case round =>
                  clear HPR hAPR
                  obtain ⟨h, Ap, cp, hh1, hh2, rfl, rfl, HPR, hAPR, hb8⟩ := hrel
                  have hsz : (dig (V * h)).length ≤ (dig V).length + 1 := by
                    refine dig_len_le ?_
                    rw [pw_succ, Nat.mul_comm 1000000000]
                    exact Nat.mul_lt_mul_of_lt_of_le (dig_lt V) (by omega) (by omega)
                  go_wp2_with fail
                  refine (compare_any _ _ _ _ cp cc (V * h) P _ HPR (HPL7.ext hb8) rfl rfl (by omega) (by omega)).mono ?_
                  rintro e w9 ⟨rfl, hw9⟩
                  have hb9 := hw9.below w7.heap.size
                  have hb9' := hw9.below wr.heap.size
                  by_cases hlt : P < V * h
                  · have hcmp2 : decide (0 < cmpI (V * h) P) = true := by rw [cmpI_gt hlt]; rfl
                    have hh3 : P / V < h := (Nat.div_lt_iff_lt_mul hUpos).2 (by rw [Nat.mul_comm]; exact hlt)
                    have hh0 : 0 < h := Nat.lt_of_le_of_lt (Nat.zero_le _) hh3
                    have hVh : V ≤ V * h := Nat.le_mul_of_pos_right V hh0
                    go_wp2_with fail
                    refine (minus_new _ _ _ _ cp cv (V * h) V _ (HPR.ext hb9') ((HV7.ext hb8).ext hb9') rfl rfl (by omega) hVh).mono ?_
                    rintro e w10 ⟨Ap2, cp2, rfl, HPR2, hb10, hav10⟩
                    have hAPR2 := hav10 w3.heap.size (Nat.lt_of_lt_of_le hg7 (Nat.le_trans hb8.size hb9'.size))
                    have hmul : V * h - V = V * (h - 1) := by rw [Nat.mul_sub_one]
                    rw [hmul] at HPR2 hAPR2
                    rw [hmul]
                    go_wp2
                    go_roundw
                    case rel => exact ⟨h - 1, Ap2, cp2, Nat.le_sub_one_of_lt hh3, by omega, by go_num, rfl, HPR2, hAPR2, (hb8.trans hb9).trans (hb10.mono (Nat.le_trans hb8.size hb9'.size))⟩
                    case measure => simp [intOf]; omega
                  · have hcmp2 : decide (0 < cmpI (V * h) P) = false := by
                      rcases Nat.lt_or_ge (V * h) P with h' | h'
                      · rw [cmpI_lt h']; rfl
                      · rw [cmpI_eq (by omega)]; rfl
                    have hh3 : h = P / V := Nat.le_antisymm ((Nat.le_div_iff_mul_le hUpos).2 (by rw [Nat.mul_comm]; omega)) hh1
                    have HH3 := Lib.hid hh3
                    clear hh3
                    go_wp2
                    go_meet
                    case rel => exact ⟨Ap, cp, by rw [HH3.out], by rw [HH3.out], by rw [← HH3.out]; exact HPR.ext hb9', by rw [← HH3.out]; exact hAPR, hb8.trans hb9⟩
              case rest =>
                clear HPR hAPR
                obtain ⟨Ap, cp, rfl, rfl, HPR, hAPR, hb8⟩ := hcut
                have hown8 := hown7.ext hb8
                have HPL8 := HPL7.ext hb8
                have HU8 := HU7.ext hb8
                have hb48 := hb47.trans (hb8.mono hb47.size)
                have hnx := hD.step (by omega) (by rw [← HP.out]; exact hVP)
                rw [← HP.out] at hnx
                have hmd : P - V * (P / V) = P % V := by have := Nat.div_add_mod P V; omega
                have hmd2 : V * (P / V) ≤ P := Nat.mul_div_le P V
                have hplen3 : (dig (P % V)).length ≤ (dig P).length := dig_mono (Nat.mod_le _ _)
                have hplen2 : (dig (V * (P / V))).length ≤ (dig P).length := dig_mono hmd2
                generalize V * (P / V) = VQ at *
                generalize P / V = q0 at *
                have HMD := Lib.hid hmd
                clear hmd
                have hc3 := hown8.cellAt (j := j) (by rw [hD.qlen]; omega)
                have hf3 := hown8.freeAt j
                go_upto_region 23 with fail
                have hown9 := Own.stored (j := j) (x := q0) hown8 rfl
                have HPL9 := HPL8.setCell (p := ⟨w3.heap.size, j, none⟩) hAP (.int .u32 (q0 : Int))
                have HPR9 := HPR.setCell (p := ⟨w3.heap.size, j, none⟩) hAPR (.int .u32 (q0 : Int))
                have HU9 := HU8.setCell (p := ⟨w3.heap.size, j, none⟩) hAU (.int .u32 (q0 : Int))
                have hb49 := hb48.setCell (p := ⟨w3.heap.size, j, none⟩) (Nat.le_refl _) (.int .u32 (q0 : Int))
                obtain ⟨W, hW⟩ : ∃ W, W = wc.setCell ⟨w3.heap.size, j, none⟩ (.int .u32 (q0 : Int)) := ⟨_, rfl⟩
                rw [← hW] at hown9 HPL9 HPR9 HU9 hb49
                rw [← hW]
                clear hW hown8 HPL8 HPR HU8 hb48 hc3 hf3 hb8 hb47 hown7 HPL7 HU7 HV7
                have hgW := (World.ownsRow.lt hown9 _ rfl).2
                have hjc : j ≤ cu := by omega
                have hlb : j + (dig (P % V)).length ≤ 34359738368 := by omega
                have hlt2 : j = (ul.take j).length := by rw [List.length_take]; omega
                have HLT2 := Lib.hid hlt2
                clear hlt2
                go_region_law (first
                  | ((with_reducible show (if Region.wanted (Oper.mk (some 140) _ _ _ _ _) _ = true then _ else _)); refine step_append_full EU _ rfl (.tmp 136) (.tmp 139) rfl rfl rfl ((HU9.ext (drew_ext W)).ext hb11 |>.take3 j) HM11 HLT2.out (by rw [HMD.out]) (by rw [HMD.out]; exact hlb) ?_; intro Au2 cu2 w12 HU12 hb12 hav12)
                  | (go_simp; go_at_call 158; refine (minus_new _ _ _ _ cc _ P VQ _ (HPL9.ext (drew_ext W)) (HPR9.ext (drew_ext W)) rfl rfl (by omega) hmd2).mono ?_; rintro e w11 ⟨Am, cm, rfl, HM11, hb11, hav11⟩; rw [HMD.out] at HM11))
                go_wp2
                go_roundw
                case rel =>
                  have hbx := ((drew_ext W).trans (hb11.mono (Nat.le_refl _))).trans (hb12.mono hb11.size)
                  refine ⟨j, ul.take j ++ dig (P % V), qo.set j q0, Au2, cu2, by omega, hnx, rfl, ?_, HU12, ?_, hown9.ext hbx, hb49.trans (hbx.mono hb49.size)⟩
                  · rw [HMD.out, List.length_append, ← HLT2.out]
                  · have := hav12 w3.heap.size (Nat.lt_of_lt_of_le hgW hb11.size) (hAU.mono (by omega))
                    rw [HMD.out] at this
                    rw [List.length_append, ← HLT2.out]
                    exact this
                case measure => simp [intOf]
      · have hP0 : val ul / pw j = 0 := Nat.div_eq_of_lt (Nat.lt_of_lt_of_le (val_lt hD.udg) (pw_le (by omega)))
        have HVD : Hid (val [] = P) := Lib.hid (by rw [HP.out, hP0]; rfl)
        have hPV : P < V := by rw [HP.out, hP0]; exact hUpos
        clear hP0
        have hcmp : decide (cmpI P V < 0) = true := by rw [cmpI_lt hPV]; rfl
        go_wp2_with ((with_reducible refine wp_slice_low (o := ⟨some 75, _, _, _, _, _⟩) EU rfl _ rfl _ _ rfl (k := ul.length) rfl rfl rfl HU rfl (Nat.le_refl _) ?_))
        intro Ad cd HDr
        go_wp2_with fail
        refine (clone_any Ad 0 cd [] _ HDr rfl (by omega)).mono ?_
        rintro e w5 ⟨Ac, cc, rfl, HC, hb5, hav5⟩
        go_wp2_with fail
        refine (trim_val Ac 0 cc P ([]) w5 HC Dig.nil HVD.out rfl (by omega)).mono ?_
        rintro e w6 ⟨rfl, rfl⟩
        have HPL := HC.of_val Dig.nil HVD.out
        have hplen : (dig P).length ≤ 0 := by
          have := dig_len_val Dig.nil
          rw [HVD.out] at this
          exact this
        have hHV5 := (HV.ext hb4).ext hb5
        have hown5 := hown.ext hb5
        have hb45 := hb4.trans (hb5.mono hb4.size)
        have hHU5 := HU.ext hb5
        clear HC HDr hb5 hown hb4 HU
        go_wp2_with fail
        refine (compare_any Ac Av _ _ cc cv P V w5 HPL hHV5 rfl rfl (by omega) (by omega)).mono ?_
        rintro e w6 ⟨rfl, hw6⟩
        have hb6 := hw6.below w5.heap.size
        have HPL6 := HPL.ext hb6
        have HV6 := hHV5.ext hb6
        have hown6 := hown5.ext hb6
        have hb46 := hb45.trans (hb6.mono hb45.size)
        have HU6 := hHU5.ext hb6
        clear HPL hHV5 hown5 hb45 hHU5 hb6 hw6
        go_wp2
        go_roundw
        case rel => exact ⟨j, ul, qo, Au, cu, by omega, hD.skip (by omega) (by rw [← HP.out]; exact hPV), rfl, rfl, HU6, hAU, hown6, hb46⟩
        case measure => simp [intOf]
    · obtain rfl : k = 0 := by omega
      have hlt0 := hD.lt
      have heq := hD.eq
      rw [pw_zero, Nat.div_one] at hlt0
      rw [pw_zero, Nat.one_mul, List.drop_zero] at heq
      have hql := hD.qlen
      have hown3 : Own wr w3.heap.size 208 (some ⟨w3.heap.size, 0, none⟩) qo.length N (ints .u32 qo) := by rw [hql]; exact hown
      have HQ := Own.lim hown3 (small_of_dig hD.qdg)
      have HQL := Lib.hid hql
      have hq : val qo = a / b := by
        rw [← Nat.mul_div_mul_right a b hs0, HUE.out, HVE.out, heq, Nat.add_mul_div_right _ _ hUpos, Nat.div_eq_of_lt hlt0, Nat.zero_add]
      have hr : val ul / s = a % b := by
        have : val ul = a % b * s := by
          rw [← Nat.mul_mod_mul_right, HUE.out, HVE.out, heq, Nat.add_mul_mod_self_right, Nat.mod_eq_of_lt hlt0]
        rw [this, Nat.mul_div_cancel _ hs0]
      have HQV := Lib.hid hq
      have HRV := Lib.hid hr
      have hsc := ((HSC.ext hb4).cell (by rw [HDS.out]; simp))
      obtain ⟨sd, hsd, _, hsc⟩ := hsc
      obtain rfl := Option.some.inj hsd
      have hs3 := hsc 0 (by rw [HDS.out]; simp)
      rw [HDS.out, at_zero, show (⟨w1.heap.size, 0, none⟩ : Addr).add 0 = ⟨w1.heap.size, 0, none⟩ from rfl] at hs3
      have hlq : N = qo.length := HQL.out.symm
      have HLQ := Lib.hid hlq
      have HTU := HU.of_val hD.udg rfl
      have htl : (dig (val ul)).length ≤ ul.length := dig_len_val hD.udg
      clear hq hr hsc hsd hlt0 heq hql hown3 hlq
      go_upto_region 24 with fail
      go_region_law (first
        | (go_simp; go_at_call 232; refine (trim_val _ _ cu (val ul) ul _ (HU.ext (drew_ext wr)) hD.udg rfl rfl (by omega)).mono ?_; rintro e w9 ⟨rfl, rfl⟩)
        | (go_simp; go_at_call 303; refine (short_any _ _ cu (val ul) s _ (HTU.ext (drew_ext wr)) rfl (by omega) hs0 hs1).mono ?_; rintro e w10 ⟨A2, c2, rfl, HR2, hb10⟩))
      all_goals
        go_wp2_with fail
        have hbx := (drew_ext wr).trans (hb10.mono (Nat.le_refl _))
        have HQ2 := HQ.ext hbx
        refine (trim_val _ N N (a / b) qo _ HQ2 hD.qdg HQV.out HLQ.out (by omega)).mono ?_
        rintro e w11 ⟨rfl, rfl⟩
        go_wp2
        go_ret2
        exact ⟨_, _, _, _, ret_slices rfl (by rw [HRV.out]), HQ2.of_val hD.qdg HQV.out, by rw [← HRV.out]; exact HR2, hbw.trans ((hb4.mono hbw.size).trans (hbx.mono (Nat.le_trans hbw.size hb4.size)))⟩

theorem divide_any (A B : Option Addr) (n m c d : Nat) (a b : Nat) (w : World) (HA : Lim w A c (dig a)) (HB : Lim w B d (dig b)) (hn : n = (dig a).length) (hm : m = (dig b).length) (hl : n ≤ 4294967296) (hl2 : m ≤ 4294967296) (hb0 : 0 < b) :
    Calls Tryz.prog 237 #[.slice A n c, .slice B m d] w (RetSS w (a / b) (a % b)) := by
  have h0 := dig_len_pos.2 hb0
  rcases Nat.lt_or_ge a b with h | h
  · exact divide_less A B n m c d a b w HA HB hn hm (by omega) (by omega) h
  · by_cases h1 : m = 1
    · exact divide_one A B n m c d a b w HA HB hn hm hl h h1
    · exact divide_long A B n m c d a b w HA HB hn hm hl h (by omega)
end Go.Proofs.YtolkijelldlmeaaGreatDoor
