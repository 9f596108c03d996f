/- The statements WeightModes, WeightTrims, WeightGrams. -/
import Derived.Test.YteleohgalknkiaaGreatDoorW11M
namespace Go.Proofs.YteleohgalknkiaaGreatDoor
open Go.RowKit Go.Proofs Go

set_option maxHeartbeats 2000000 in
set_option maxRecDepth 100000 in
theorem weightModes_any {step : Int} {A : Option Addr} {c : Nat} {l : List Int} (w : World) (HE : Env w) (H : IEs w A l) (hl : l.length ≤ 9223372036854775807) :
    Calls Tryz.prog 6 #[.slice A l.length c, .int .i64 step] w (RetB w true) := by
  by_cases h100 : 100 < l.length
  · go_enter Tryz.func6, Tryz.ntmps6
    go_wp2_with fail
    have HX := BL.nil w
    refine (wawake_any _ HE).mono ?_
    rintro e w1 ⟨rfl, hb⟩
    replace HX := HX.ext hb
    replace HE := HE.ext hb
    clear hb
    go_wp2_with fail
    refine (wawake_any _ HE).mono ?_
    rintro e w2 ⟨rfl, hb⟩
    replace HX := HX.ext hb
    replace HE := HE.ext hb
    clear hb
    go_wp2
    go_ret
    exact ⟨by first | rfl | simp, HX.below⟩
  · go_enter Tryz.func6, Tryz.ntmps6
    go_wp2_with fail
    have HX := BL.nil w
    refine (wawake_any _ HE).mono ?_
    rintro e w1 ⟨rfl, hb⟩
    replace HX := HX.ext hb
    replace H := H.ext hb
    clear hb
    go_wp2_with fail
    refine (wmode_any A c l _ H (by omega)).mono ?_
    rintro e w2 ⟨a, n, E, ⟨rfl, hb⟩, hM⟩
    replace HX := HX.ext hb
    replace H := H.ext hb
    clear hb
    replace hM := Lib.hid hM
    go_wp2_with fail
    refine (rmode_any A c l _ H (by omega) hM.out).mono ?_
    rintro e w3 ⟨rfl, hb⟩
    replace HX := HX.ext hb
    replace H := H.ext hb
    clear hb
    go_wp2
    go_ret
    exact ⟨by first | rfl | simp, HX.below⟩
set_option maxHeartbeats 2000000 in
set_option maxRecDepth 100000 in
theorem weightTrims_any {k : Int} {A : Option Addr} {c : Nat} {l : List Int} (w : World) (HE : Env w) (H : IEs w A l) (hl : l.length ≤ 9223372036854775807) (k1 : -9223372036854775808 ≤ k) (k2 : k ≤ 9223372036854775807) :
    Calls Tryz.prog 11 #[.slice A l.length c, .int .i64 k] w (RetB w true) := by
  by_cases h100 : 100 < l.length
  · go_enter Tryz.func11, Tryz.ntmps11
    go_wp2_with fail
    have HX := BL.nil w
    refine (wawake_any _ HE).mono ?_
    rintro e w1 ⟨rfl, hb⟩
    replace HX := HX.ext hb
    replace HE := HE.ext hb
    clear hb
    go_wp2_with fail
    refine (wawake_any _ HE).mono ?_
    rintro e w2 ⟨rfl, hb⟩
    replace HX := HX.ext hb
    replace HE := HE.ext hb
    clear hb
    go_wp2
    go_ret
    exact ⟨by first | rfl | simp, HX.below⟩
  · obtain ⟨L, E, hT⟩ : ∃ L E, trimR l k = (L, E) := ⟨_, _, rfl⟩
    replace hT := Lib.hid hT
    have hLl : L.length ≤ 9223372036854775807 := by
      have h := hT.out
      unfold trimR at h
      split at h
      · split at h
        · obtain ⟨rfl, _⟩ := Prod.mk.inj h; simp
        · obtain ⟨rfl, _⟩ := Prod.mk.inj h
          rw [List.length_take, List.length_drop, srt_len]; omega
      · obtain ⟨rfl, _⟩ := Prod.mk.inj h; simp
    go_enter Tryz.func11, Tryz.ntmps11
    go_wp2_with fail
    have HX := BL.nil w
    refine (wawake_any _ HE).mono ?_
    rintro e w1 ⟨rfl, hb⟩
    replace HX := HX.ext hb
    replace H := H.ext hb
    clear hb
    have hb1 := below_alloc w1 (.cells #[] 3)
    have HL := IOwn.lit w1 (B := w1.heap.size) (Nat.le_refl _) [] #[] rfl (by simp)
    have H1 := H.ext hb1
    go_wp2_with (at_builtin; refine wp_pushes EI _ rfl _ _ rfl rfl rfl HL H1 rfl (by omega) hb1.size ?_)
    intro A2 c2 w2 HO hb2
    replace HO : IOwn w2 w1.heap.size A2 c2 l := IOwn.all (l := l) HO (by omega)
    have hb := hb1.trans hb2
    clear hb1 HL H1 hb2
    replace HX := HX.ext hb
    replace H := H.ext hb
    clear hb
    have HO2 := HO.es
    have hn2 : ([] : List Int).length + l.length = l.length := by simp
    try rw [hn2]
    try rw [Nat.zero_add]
    go_wp2_with fail
    refine (wtrim_any A2 c2 l _ HO2 (by omega) (by omega) (by omega) hT).mono ?_
    rintro e w3 ⟨A3, c3, rfl, HI3, hb⟩
    replace HX := HX.ext hb
    replace H := H.ext hb
    replace HO2 := HO2.ext hb
    clear hb
    go_wp2_with fail
    refine (rtrim_any A c l _ H (by omega) (by omega) (by omega) hT).mono ?_
    rintro e w4 ⟨A4, c4, rfl, HI4, hb⟩
    replace HX := HX.ext hb
    replace H := H.ext hb
    replace HO2 := HO2.ext hb
    replace HI3 := HI3.ext hb
    clear hb
    go_wp2_with fail
    refine (bints_any (b := true) A3 A4 c3 c4 L L _ HI3 HI4 (by omega) (by omega) (yes rfl)).mono ?_
    rintro e w5 ⟨rfl, hb⟩
    replace HX := HX.ext hb
    replace H := H.ext hb
    replace HO2 := HO2.ext hb
    clear hb
    go_wp2_with fail
    refine (bints_any (b := true) A2 A c2 c l l _ HO2 H (by omega) (by omega) (yes rfl)).mono ?_
    rintro e w6 ⟨rfl, hb⟩
    replace HX := HX.ext hb
    clear hb
    go_wp2
    go_ret
    exact ⟨by first | rfl | simp, HX.below⟩
set_option maxHeartbeats 2000000 in
set_option maxRecDepth 100000 in
theorem weightGrams_any {n : Int} {L : List UInt8} (w : World) (HE : Env w) (hl : L.length ≤ 9223372036854775807) :
    Calls Tryz.prog 12 #[.int .i64 n, .string (str L)] w (RetB w true) := by
  have hsL : (str L).size = L.length := str_size L
  by_cases h100 : 100 < L.length
  · go_enter Tryz.func12, Tryz.ntmps12
    go_wp2_with fail
    have HX := BL.nil w
    refine (wawake_any _ HE).mono ?_
    rintro e w1 ⟨rfl, hb⟩
    replace HX := HX.ext hb
    replace HE := HE.ext hb
    clear hb
    go_wp2_with fail
    refine (wawake_any _ HE).mono ?_
    rintro e w2 ⟨rfl, hb⟩
    replace HX := HX.ext hb
    replace HE := HE.ext hb
    clear hb
    go_wp2
    go_ret
    exact ⟨by first | rfl | simp, HX.below⟩
  · obtain ⟨T, hT⟩ : ∃ T, gram n = T := ⟨_, rfl⟩
    have HT := Lib.hid hT
    have hTl : T.length ≤ 7 := hT ▸ gram_len n
    have hsb : ((str T).toList == (str T).toList) = true := beq_self_eq_true _
    obtain ⟨m, F, hP⟩ := PGm.ex L
    replace hP := Lib.hid hP
    by_cases hn : 1 ≤ n ∧ n ≤ 200000
    · have hne : ((str T).toList == []) = false := by rw [str_toList]; exact beq_eq_false_iff_ne.2 (hT ▸ gram_ne hn)
      have hK : Hid (PGm T n 0) := Lib.hid (.inl ⟨rfl, hn, hT⟩)
      clear hT
      go_enter Tryz.func12, Tryz.ntmps12
      go_wp2_with fail
      have HX := BL.nil w
      refine (wawake_any _ HE).mono ?_
      rintro e w1 ⟨rfl, hb⟩
      replace HX := HX.ext hb
      replace HE := HE.ext hb
      clear hb
      go_wp2_with fail
      refine (wgrams_any _ HT HE).mono ?_
      rintro e w2 ⟨rfl, hb⟩
      replace HX := HX.ext hb
      replace HE := HE.ext hb
      clear hb
      go_wp2_with fail
      refine (wparse_any _ HE (by omega) hP.out).mono ?_
      rintro e w3 ⟨rfl, hb⟩
      replace HX := HX.ext hb
      replace HE := HE.ext hb
      clear hb
      go_wp2_with fail
      refine (rparseg_any _ (by omega) hP.out).mono ?_
      rintro e w4 ⟨rfl, hb⟩
      replace HX := HX.ext hb
      replace HE := HE.ext hb
      clear hb
      go_wp2_with fail
      refine (wparse_any _ HE (by omega) hK.out).mono ?_
      rintro e w5 ⟨rfl, hb⟩
      replace HX := HX.ext hb
      replace HE := HE.ext hb
      clear hb
      go_wp2_with fail
      refine (rgrams_any _ HT).mono ?_
      rintro e w6 ⟨rfl, hb⟩
      replace HX := HX.ext hb
      clear hb
      go_wp2
      go_ret
      exact ⟨by first | rfl | simp, HX.below⟩
    · obtain rfl : T = [] := hT ▸ gram_no hn
      have hne : ((str []).toList == []) = true := by rw [str_toList]; rfl
      have hK : Hid (PGm [] 0 3) := Lib.hid (.inr ⟨rfl, rfl, fun m hm => gram_ne hm⟩)
      clear hT
      go_enter Tryz.func12, Tryz.ntmps12
      go_wp2_with fail
      have HX := BL.nil w
      refine (wawake_any _ HE).mono ?_
      rintro e w1 ⟨rfl, hb⟩
      replace HX := HX.ext hb
      replace HE := HE.ext hb
      clear hb
      go_wp2_with fail
      refine (wgrams_any _ HT HE).mono ?_
      rintro e w2 ⟨rfl, hb⟩
      replace HX := HX.ext hb
      replace HE := HE.ext hb
      clear hb
      go_wp2_with fail
      refine (wparse_any _ HE (by omega) hP.out).mono ?_
      rintro e w3 ⟨rfl, hb⟩
      replace HX := HX.ext hb
      replace HE := HE.ext hb
      clear hb
      go_wp2_with fail
      refine (rparseg_any _ (by omega) hP.out).mono ?_
      rintro e w4 ⟨rfl, hb⟩
      replace HX := HX.ext hb
      replace HE := HE.ext hb
      clear hb
      go_wp2_with fail
      refine (wparse_any _ HE (by omega) hK.out).mono ?_
      rintro e w5 ⟨rfl, hb⟩
      replace HX := HX.ext hb
      replace HE := HE.ext hb
      clear hb
      go_wp2_with fail
      refine (rgrams_any _ HT).mono ?_
      rintro e w6 ⟨rfl, hb⟩
      replace HX := HX.ext hb
      clear hb
      go_wp2
      go_ret
      exact ⟨by first | rfl | simp, HX.below⟩
end Go.Proofs.YteleohgalknkiaaGreatDoor
