/- What the statements on weights share: fractions held against numbers, a list's members, the fixed results. -/
import Derived.Test.YteleohgalknkiaaGreatDoorW6M
import Derived.Test.YteleohgalknkiaaGreatDoorRTextM
import Derived.Test.YteleohgalknkiaaGreatDoorW8M
namespace Go.Proofs.YteleohgalknkiaaGreatDoor
open Go.RowKit Go.Proofs Go

theorem replace_h {L R : List UInt8} (w : World) (h : Hid (Lib.replace L [46] [] 1 = R)) (hE : Env w) (hL : L.length ≤ 1000000000) :
    Calls Tryz.prog 110 #[.string (str L), .string ⟨#[46]⟩, .string ⟨#[]⟩, .int .i64 1] w fun e w' => e = .returned (.string (str R)) ∧ Below w.heap.size w w' := by
  obtain ⟨m, hm⟩ := hE.mx
  refine (Tryz.strings_Replace (str L) ⟨#[46]⟩ ⟨#[]⟩ 1 m w (by rw [str_size]; omega) hm (by decide) (by rw [str_size, show (⟨#[]⟩ : ByteArray).size = 0 from rfl, Nat.mul_zero]; omega)).mono ?_
  rintro e w' ⟨he, hb⟩
  refine ⟨?_, hb⟩
  rw [he, ← h.out]; rfl
theorem gramS_len {n : Int} {T : List UInt8} (h : gram n = T) : T.length ≤ 7 := h ▸ gram_len n
set_option maxHeartbeats 2000000 in
set_option maxRecDepth 100000 in
theorem wgrams_any {n : Int} {T : List UInt8} (w : World) (hT : Hid (gram n = T)) (hE : Env w) :
    Calls Tryz.prog 54 #[.int .i64 n] w fun e w' => e = .returned (.string (str T)) ∧ Below w.heap.size w w' := by
  by_cases h : Wt n
  · have HW := yes h
    obtain ⟨n1, n2⟩ := h
    obtain ⟨P, hP⟩ : ∃ P, Hid (dz (1000 + n % 1000) = P) := ⟨_, Lib.hid rfl⟩
    obtain ⟨Q, hQ⟩ : ∃ Q, Hid (dz (n / 1000) = Q) := ⟨_, Lib.hid rfl⟩
    obtain ⟨r, hr⟩ : ∃ r, n % 1000 = r := ⟨_, rfl⟩
    obtain ⟨d, hd⟩ : ∃ d, n / 1000 = d := ⟨_, rfl⟩
    have hPd := Lib.hid (hP.out.symm.trans (rest_eq (show 0 ≤ n by omega)))
    have hT2 := Lib.hid ((gram_ok ⟨n1, n2⟩).symm.trans hT.out)
    rw [hQ.out] at hT2
    have hr1 : 0 ≤ r := by omega
    have hr2 : r < 1000 := by omega
    have hd1 : 0 ≤ d := by omega
    have hd2 : d ≤ 200 := by omega
    have m1 : n.tmod 1000 = r := by rw [Int.tmod_eq_emod_of_nonneg (by omega)]; exact hr
    have m2 : n.tdiv 1000 = d := by rw [Int.tdiv_eq_ediv_of_nonneg (by omega)]; exact hd
    rw [hr] at hP hPd hT2
    rw [hd] at hQ
    have hsP : (str P).size = 4 := by rw [str_size, hPd.out, List.length_cons, pad_len]
    have hxP : (str P).extract 1 4 = str (pad 3 r.toNat) := by
      rw [hPd.out]
      have h1 := str_drop (49 :: pad 3 r.toNat) 1
      rw [List.length_cons, pad_len] at h1
      exact h1
    have hl3 : (pad 3 r.toNat).length = 3 := pad_len _ _
    have hQl : Q.length ≤ 3 := by rw [← hQ.out]; exact dz_len (k := 3) (by omega) (by omega) (by omega)
    generalize pad 3 r.toNat = R at *
    have hcat : Hid (str Q ++ (⟨#[46]⟩ : ByteArray) ++ str R = str T) := Lib.hid (by
      rw [← hT2.out, show (⟨#[46]⟩ : ByteArray) = str [46] from rfl, str_append, str_append]; simp)
    have hsQ : (str Q).size = Q.length := str_size Q
    have hsR : (str R).size = 3 := by rw [str_size]; exact hl3
    clear hPd hT2 hT
    go_enter Tryz.func54, Tryz.ntmps54
    go_wp2_with fail
    refine (wis_any w HW).mono ?_
    rintro e w2 ⟨rfl, rfl⟩
    go_wp2_with fail
    refine (itoa_h _ hP (by omega) (by omega) hE.tab).mono ?_
    rintro e w3 ⟨rfl, hb⟩
    have hE3 := hE.ext hb
    have v1 : IntKind.i64.wrap d = d := Go.IntWalk.i64_in _ (by omega)
    have hcc1 : ¬ 9223372036854775807 < Q.length + 1 := by omega
    have hcc2 : ¬ 9223372036854775807 < Q.length + 1 + 3 := by omega
    go_upto_region 4 with fail
    have hbd : Below w2.heap.size w2 w3.drew := drew_below hb 1
    have hE4 : Env w3.drew := hE3.ext (drew_below (Below.refl _ _) 1)
    clear hb hE3 hE
    go_region_held3 (fun _ => True)
      (exact trivial)
      (first
        | (go_at_call 89; refine (itoa_h _ hQ (by omega) (by omega) hE4.tab).mono ?_; rintro e w4 ⟨rfl, hb⟩; replace hbd := bel_trans hbd hb; clear hb))
    all_goals (
      go_wp2
      go_ret
      exact ⟨by first | rfl | (rw [hcat.out]; rfl) | rw [hcat.out], hbd⟩)
  · have HW := no h
    have ht : T = [] := by rw [← hT.out]; exact gram_no h
    subst ht
    clear h hT
    go_enter Tryz.func54, Tryz.ntmps54
    go_wp2_with fail
    refine (wis_any w HW).mono ?_
    rintro e w2 ⟨rfl, rfl⟩
    go_wp2
    go_ret
    exact ⟨by first | rfl | simp [str], Below.refl _ _⟩
set_option maxRecDepth 100000 in
theorem rdec9_any {m : Nat} {P : List UInt8} (w : World) (hP : Hid (Lib.decDigits m = P)) (h1 : m ≤ 1000000) :
    Calls Tryz.prog 163 #[.int .i64 (m : Int)] w fun e w' => e = .returned (.string (str P)) ∧ Below w.heap.size w w' := by
  have hm : m / 1000000000 / 1000000000 ≤ 18 := by omega
  go_enter Tryz.func163, Tryz.ntmps163
  go_wp2_with fail
  refine (rof_any m _ hm).mono ?_
  rintro e w1 ⟨A1, c1, rfl, F1, hb⟩
  have hl : (dig m).length ≤ 536870912 := Nat.le_trans (dig_len_le (k := 2) (by have h := pw_ten 2; rw [h]; omega)) (by omega)
  go_wp2_with fail
  refine (rtext_any A1 _ c1 (dig m) _ F1 rfl hl).mono ?_
  rintro e w2 ⟨rfl, hb2⟩
  go_wp2
  go_ret
  exact ⟨by rw [← hP.out, val_dig]; rfl, bel_trans hb hb2⟩
set_option maxHeartbeats 2000000 in
set_option maxRecDepth 100000 in
theorem rgrams9_any {m : Nat} {T : List UInt8} (w : World) (hm : 1 ≤ m ∧ m ≤ 200000) (hT : Hid (gram (m : Int) = T)) :
    Calls Tryz.prog 111 #[.int .i64 (m : Int)] w fun e w' => e = .returned (.string (str T)) ∧ Below w.heap.size w w' := by
  obtain ⟨P, hP⟩ : ∃ P, Hid (Lib.decDigits m = P) := ⟨_, Lib.hid rfl⟩
  have hsd := Lib.hid (sd_eq (m := m))
  have htk := Lib.hid (sd_take m)
  have hdr := Lib.hid (sd_drop m)
  have hT2 := Lib.hid ((gram_nat hm).symm.trans hT.out)
  have hPl : P.length ≤ 6 := by rw [← hP.out, Lib.decDigits_length]; exact nDigits_le (k := 6) (by omega) (by omega)
  rw [hP.out] at hsd
  rw [← hsd.out] at htk hdr
  obtain ⟨D, hD⟩ : ∃ D, Lib.decDigits (m / 1000) = D := ⟨_, rfl⟩
  obtain ⟨R, hR⟩ : ∃ R, pad 3 (m % 1000) = R := ⟨_, rfl⟩
  have hRl : R.length = 3 := by rw [← hR]; exact pad_len _ _
  rw [hD] at htk hT2 hsd
  rw [hR] at hdr hT2 hsd
  have hDl : D.length ≤ 3 := by rw [← hD, Lib.decDigits_length]; exact nDigits_le (k := 3) (by omega) (by omega)
  clear hD hR hT
  go_enter Tryz.func111, Tryz.ntmps111
  go_wp2_with fail
  refine (rdec9_any w hP (by omega)).mono ?_
  rintro e w2 ⟨rfl, hb⟩
  go_wp2
  go_loopg [3] 4 (fun g u wr => ∃ j : Nat, j + g = 4 ∧ j ≤ 4 - P.length ∧ u = .string (str (zeros j ++ P)) ∧ wr = w2)
  case atStart => exact ⟨0, by omega, by omega, by rw [show zeros 0 ++ P = P from rfl], rfl⟩
  case round =>
    obtain ⟨j, hj, hj2, rfl, rfl⟩ := hrel
    have hsz : (str (zeros j ++ P)).size = j + P.length := by rw [str_size, List.length_append, zeros_len]
    by_cases h4 : j + P.length < 4
    · have hd4 : decide (j + P.length < 4) = true := decide_eq_true h4
      have hcat : (⟨#[48]⟩ : ByteArray) ++ str (zeros j ++ P) = str (zeros (j + 1) ++ P) := by
        rw [show (⟨#[48]⟩ : ByteArray) = str [48] from rfl, str_append, ← zeros_cons]; rfl
      have hcc : ¬ 9223372036854775807 < 1 + (j + P.length) := by omega
      generalize str (zeros j ++ P) = S at *
      go_wp2
      go_roundg (4 - (j + 1))
      case measure => omega
      case rel => exact ⟨j + 1, by omega, by omega, by first | rfl | rw [hcat], rfl⟩
    · have hjj : j = 4 - P.length := by omega
      have hd4 : decide (j + P.length < 4) = false := decide_eq_false h4
      obtain ⟨S, hS⟩ : ∃ S, zeros j ++ P = S := ⟨_, rfl⟩
      have hSl : S.length = j + P.length := by rw [← hS, List.length_append, zeros_len]
      rw [hjj] at hS
      rw [hS] at htk hdr hsd
      rw [hjj, hS] at hsz ⊢
      rw [hjj] at hSl
      have hSn : S.length = D.length + 3 := by rw [hsd.out, List.length_append, hRl]
      have hsz2 : (str S).size = S.length := str_size S
      obtain ⟨k, hk⟩ : ∃ k, S.length - 3 = k := ⟨_, rfl⟩
      rw [hk] at htk hdr
      have x1 : (str S).extract 0 k = str D := by rw [str_take, htk.out]
      have x2 : (str S).extract k S.length = str R := by rw [str_drop, hdr.out]
      have hkk : (S.length : Int) - 3 = (k : Int) := by omega
      have w1 : IntKind.i64.wrap ((S.length : Int) - 3) = (k : Int) := by rw [hkk]; exact Go.IntWalk.i64_in _ (by omega)
      have w1b : IntKind.i64.wrap (k : Int) = (k : Int) := Go.IntWalk.i64_in _ (by omega)
      have k1 : (0 : Int) ≤ (k : Int) := by omega
      have k2 : (k : Int) ≤ (S.length : Int) := by omega
      have k3 : k ≤ S.length := by omega
      have sD : (str D).size = D.length := str_size D
      have sR : (str R).size = 3 := by rw [str_size]; exact hRl
      have hcc1 : ¬ 9223372036854775807 < D.length + 1 := by omega
      have hcc2 : ¬ 9223372036854775807 < D.length + 1 + 3 := by omega
      have hcat : Hid (str D ++ (⟨#[46]⟩ : ByteArray) ++ str R = str T) := Lib.hid (by
        rw [← hT2.out, show (⟨#[46]⟩ : ByteArray) = str [46] from rfl, str_append, str_append]; simp)
      rw [hsz2] at hsz
      have h4n : ¬ S.length < 4 := by omega
      have hd4n : decide (S.length < 4) = false := decide_eq_false h4n
      clear hsz hS hd4 h4 hjj hj hj2 hT2 htk hdr hsd hSl hSn hk
      go_upto_region 4 with fail
      go_quiet (fail)
      go_wp2
      go_ret
      exact ⟨by first | rfl | (rw [hcat.out]; rfl) | rw [hcat.out], drew_below hb nq⟩
theorem rgrams_any {n : Int} {T : List UInt8} (w : World) (hT : Hid (gram n = T)) :
    Calls Tryz.prog 57 #[.int .i64 n] w fun e w' => e = .returned (.string (str T)) ∧ Below w.heap.size w w' := by
  by_cases h1 : n < 1
  · have d1 : decide (n < 1) = true := decide_eq_true h1
    have ht : T = [] := by rw [← hT.out]; exact gram_no (by omega)
    subst ht
    clear hT
    go_enter Tryz.func57, Tryz.ntmps57
    go_wp2
    go_ret
    exact ⟨by first | rfl | simp [str], Below.refl _ _⟩
  · have d1 : decide (n < 1) = false := decide_eq_false h1
    by_cases h2 : 200000 < n
    · have d2 : decide (200000 < n) = true := decide_eq_true h2
      have ht : T = [] := by rw [← hT.out]; exact gram_no (by omega)
      subst ht
      clear hT
      go_enter Tryz.func57, Tryz.ntmps57
      go_wp2
      go_ret
      exact ⟨by first | rfl | simp [str], Below.refl _ _⟩
    · have d2 : decide (200000 < n) = false := decide_eq_false h2
      obtain ⟨m, rfl⟩ : ∃ m : Nat, n = (m : Int) := ⟨n.toNat, by omega⟩
      have hm : 1 ≤ m ∧ m ≤ 200000 := by omega
      have d1b : ¬ m < 1 := by omega
      have d2b : ¬ 200000 < m := by omega
      have d1c : decide (m < 1) = false := decide_eq_false d1b
      have d2c : decide (200000 < m) = false := decide_eq_false d2b
      have HM := Lib.hid hm
      clear h1 h2 hm
      go_enter Tryz.func57, Tryz.ntmps57
      go_wp2_with fail
      refine (rgrams9_any w HM.out hT).mono ?_
      rintro e w2 ⟨rfl, hb⟩
      go_wp2
      go_ret
      exact ⟨rfl, hb⟩
end Go.Proofs.YteleohgalknkiaaGreatDoor

namespace Go.Proofs.YteleohgalknkiaaGreatDoor
open Go.RowKit Go.Proofs Go

theorem replace_len (L : List UInt8) (R : List UInt8) (h : Lib.replace L [46] [] 1 = R) : R.length ≤ L.length := by
  subst h
  have key : ∀ (k : Nat) (s : List UInt8), (Lib.replaceK [46] [] k s).length ≤ s.length := by
    intro k
    induction k with
    | zero => intro s; exact Nat.le_refl _
    | succ k ih =>
      intro s
      rw [Lib.replaceK]
      split
      · exact Nat.le_refl _
      · have h1 := ih (s.drop ((Lib.index s [46]).toNat + [(46 : UInt8)].length))
        rw [List.length_drop] at h1
        simp only [List.append_nil, List.length_append, List.length_take, List.length_cons, List.length_nil] at h1 ⊢
        omega
  rw [Lib.replace, if_neg (by decide)]
  exact key _ _
set_option maxHeartbeats 2000000 in
set_option maxRecDepth 100000 in
theorem wpg_bad {L : List UInt8} {n E : Int} (w : World) (hE : Env w) (hl : L.length ≤ 1000000) (hP : PGm L n E) {R : List UInt8} (HR : Hid (Lib.replace L [46] [] 1 = R)) (hbad : Hid (∀ n, Lib.atoiAll R ≠ .ok n)) :
    Calls Tryz.prog 55 #[.string (str L)] w (Ret2 w n E) := by
  have hRl := replace_len L R HR.out
  obtain ⟨rfl, rfl⟩ : n = 0 ∧ E = 3 := by
    rcases hP with ⟨_, h2, h3⟩ | ⟨h1, h2, _⟩
    · have h4 := HR.out
      rw [← h3, gram_replace h2] at h4
      exact absurd (gram_atoi h2) (by rw [h4]; exact hbad.out _)
    · exact ⟨h2, h1⟩
  clear hP
  go_enter Tryz.func55, Tryz.ntmps55
  go_wp2_with fail
  refine (replace_h w HR hE (by omega)).mono ?_
  rintro e w2 ⟨rfl, hb⟩
  have hE2 := hE.ext hb
  go_wp2_with fail
  refine (atoi_bad w2 hbad hE2 (by omega)).mono ?_
  rintro e w3 ⟨v, N, rfl, hb3⟩
  go_wp2
  go_ret2
  exact ⟨rfl, bel_trans hb hb3⟩
set_option maxHeartbeats 2000000 in
set_option maxRecDepth 100000 in
theorem wpg_ok {L : List UInt8} {n E : Int} (w : World) (hE : Env w) (hl : L.length ≤ 1000000) (hP : PGm L n E) {R : List UInt8} {v : Int} (HR : Hid (Lib.replace L [46] [] 1 = R)) (hok : Hid (Lib.atoiAll R = .ok v)) :
    Calls Tryz.prog 55 #[.string (str L)] w (Ret2 w n E) := by
  have hRl := replace_len L R HR.out
  obtain ⟨T, hT⟩ : ∃ T, Hid (gram v = T) := ⟨_, Lib.hid rfl⟩
  by_cases hv : Wt v
  · have HW := yes hv
    by_cases hg : T = L
    · subst hg
      obtain ⟨rfl, rfl⟩ : n = v ∧ E = 0 := by rw [← hT.out] at hP; exact hP.of hv
      have hs : ((str T).toList == (str T).toList) = true := beq_self_eq_true _
      clear hP hv
      go_enter Tryz.func55, Tryz.ntmps55
      go_wp2_with fail
      refine (replace_h w HR hE (by omega)).mono ?_
      rintro e w2 ⟨rfl, hb⟩
      have hE2 := hE.ext hb
      go_wp2_with fail
      refine (atoi_ok w2 hok (by omega)).mono ?_
      rintro e w3 ⟨rfl, hb3⟩
      have hE3 := hE2.ext hb3
      go_wp2_with fail
      refine (wis_any w3 HW).mono ?_
      rintro e w4 ⟨rfl, rfl⟩
      go_wp2_with fail
      refine (wgrams_any w4 hT hE3).mono ?_
      rintro e w5 ⟨rfl, hb5⟩
      go_wp2
      go_ret2
      exact ⟨rfl, bel_trans (bel_trans hb hb3) hb5⟩
    · obtain ⟨rfl, rfl⟩ : n = 0 ∧ E = 3 := by
        rcases hP with ⟨_, h2, h3⟩ | ⟨h1, h2, _⟩
        · have h4 := HR.out
          have h5 := gram_atoi h2
          rw [← h3, gram_replace h2] at h4
          rw [h4, hok.out] at h5
          injection h5 with h5
          subst h5
          exact absurd (hT.out.symm.trans h3) hg
        · exact ⟨h2, h1⟩
      have hs : ((str T).toList == (str L).toList) = false := by rw [str_toList, str_toList]; exact beq_eq_false_iff_ne.2 hg
      clear hP hv hg
      go_enter Tryz.func55, Tryz.ntmps55
      go_wp2_with fail
      refine (replace_h w HR hE (by omega)).mono ?_
      rintro e w2 ⟨rfl, hb⟩
      have hE2 := hE.ext hb
      go_wp2_with fail
      refine (atoi_ok w2 hok (by omega)).mono ?_
      rintro e w3 ⟨rfl, hb3⟩
      have hE3 := hE2.ext hb3
      go_wp2_with fail
      refine (wis_any w3 HW).mono ?_
      rintro e w4 ⟨rfl, rfl⟩
      go_wp2_with fail
      refine (wgrams_any w4 hT hE3).mono ?_
      rintro e w5 ⟨rfl, hb5⟩
      go_wp2
      go_ret2
      exact ⟨rfl, bel_trans (bel_trans hb hb3) hb5⟩
  · have HW := no hv
    obtain ⟨rfl, rfl⟩ : n = 0 ∧ E = 3 := by
      rcases hP with ⟨_, h2, h3⟩ | ⟨h1, h2, _⟩
      · have h4 := HR.out
        have h5 := gram_atoi h2
        rw [← h3, gram_replace h2] at h4
        rw [h4, hok.out] at h5
        injection h5 with h5
        subst h5
        exact absurd h2 hv
      · exact ⟨h2, h1⟩
    clear hP hv
    go_enter Tryz.func55, Tryz.ntmps55
    go_wp2_with fail
    refine (replace_h w HR hE (by omega)).mono ?_
    rintro e w2 ⟨rfl, hb⟩
    have hE2 := hE.ext hb
    go_wp2_with fail
    refine (atoi_ok w2 hok (by omega)).mono ?_
    rintro e w3 ⟨rfl, hb3⟩
    go_wp2_with fail
    refine (wis_any w3 HW).mono ?_
    rintro e w4 ⟨rfl, rfl⟩
    go_wp2
    go_ret2
    exact ⟨rfl, bel_trans hb hb3⟩
theorem wparse_any {L : List UInt8} {n E : Int} (w : World) (hE : Env w) (hl : L.length ≤ 1000000) (hP : PGm L n E) :
    Calls Tryz.prog 55 #[.string (str L)] w (Ret2 w n E) := by
  by_cases h : ∃ v, Lib.atoiAll (Lib.replace L [46] [] 1) = .ok v
  · obtain ⟨v, hv⟩ := h
    exact wpg_ok w hE hl hP (Lib.hid rfl) (Lib.hid hv)
  · exact wpg_bad w hE hl hP (Lib.hid rfl) (Lib.hid (fun n hn => h ⟨n, hn⟩))
set_option maxHeartbeats 4000000 in
set_option maxRecDepth 100000 in
theorem rparseg_any {L : List UInt8} {n E : Int} (w : World) (hl : L.length ≤ 1000000) (hP : PGm L n E) :
    Calls Tryz.prog 56 #[.string (str L)] w (Ret2 w n E) := by
  have hsL : (str L).size = L.length := str_size L
  have HP := Lib.hid hP
  clear hP
  go_enter Tryz.func56, Tryz.ntmps56
  go_wp2
  go_loopg [4, 5] 10 (fun g X Y wr => ∃ j q : Nat, j + g = 10 ∧ j ≤ L.length ∧ X = .int .i64 (q : Int) ∧ Y = .int .i64 (j : Int) ∧ q < 10 ^ j ∧ Hid (accD 0 (L.take j) = q) ∧ Below w.heap.size w wr)
  case atStart => exact ⟨0, 0, by omega, by omega, rfl, rfl, by omega, Lib.hid rfl, Below.refl _ _⟩
  case round =>
    obtain ⟨j, q, hj, hjl, rfl, rfl, hq, hn, hbw⟩ := hrel
    have hq10 : q < 10000000000 := Nat.lt_of_lt_of_le hq (Nat.le_trans (Nat.pow_le_pow_right (by omega) (show j ≤ 10 by omega)) (by decide))
    by_cases hgo : j < L.length ∧ j < 10
    · obtain ⟨h0, h10⟩ := hgo
      have hq9 : q < 1000000000 := Nat.lt_of_lt_of_le hq (Nat.le_trans (Nat.pow_le_pow_right (by omega) (show j ≤ 9 by omega)) (by decide))
      have hix : ∀ h, (str L)[j]'h = L[j]'h0 := fun _ => rfl
      have hac := Lib.hid (show accD 0 (L.take (j + 1)) = if isDig (L[j]'h0) then 10 * q + ((L[j]'h0).toNat - 48) else q by
        rw [List.take_succ_eq_append_getElem h0, accD_snoc, hn.out])
      have j1 : (0 : Int) ≤ (j : Int) := by omega
      have j2 : (j : Int) < (L.length : Int) := by omega
      generalize L[j] = x at *
      have hpw : q < 10 ^ (j + 1) := by rw [Nat.pow_succ]; omega
      by_cases hd : isDig x = true
      · have hac2 := Lib.hid (hac.out.trans (if_pos hd))
        rw [isDig_iff] at hd
        obtain ⟨h48, h57⟩ := hd
        have hp : 10 * q + (x.toNat - 48) < 10 ^ (j + 1) := by rw [Nat.pow_succ]; omega
        have z48 : (48 : Int) ≤ (x.toNat : Int) := by omega
        have z57 : (x.toNat : Int) ≤ 57 := by omega
        clear hac hn hq hpw
        go_wp2_with fail
        go_roundg (10 - (j + 1))
        case measure => omega
        case rel => exact ⟨j + 1, 10 * q + (x.toNat - 48), by omega, by omega, by go_num, by go_num, hp, hac2, hbw⟩
      · have hac2 := Lib.hid (hac.out.trans (if_neg hd))
        rw [isDig_iff] at hd
        clear hac hn hq
        by_cases h48 : 48 ≤ x.toNat
        · have h57 : ¬ x.toNat ≤ 57 := fun h => hd ⟨h48, h⟩
          clear hd
          go_wp2_with fail
          go_roundg (10 - (j + 1))
          case measure => omega
          case rel => exact ⟨j + 1, q, by omega, by omega, by go_num, by go_num, hpw, hac2, hbw⟩
        · clear hd
          go_wp2_with fail
          go_roundg (10 - (j + 1))
          case measure => omega
          case rel => exact ⟨j + 1, q, by omega, by omega, by go_num, by go_num, hpw, hac2, hbw⟩
    · have hend : ¬ (j < L.length) ∨ ¬ (j < 10) := by omega
      have htk : Hid (∀ m, 1 ≤ m ∧ m ≤ 200000 → gram m = L → (q : Int) = m) := Lib.hid (fun m hm e => by
        have h7 := gram_len m
        rw [e] at h7
        have h1 := hn.out
        rw [List.take_of_length_le (by omega), ← e, gram_acc hm] at h1
        omega)
      obtain ⟨T, hT⟩ : ∃ T, Hid (gram (q : Int) = T) := ⟨_, Lib.hid rfl⟩
      clear hn hq hgo
      by_cases hg : T = L ∧ Wt (q : Int)
      · obtain ⟨hg, hw⟩ := hg
        subst hg
        obtain ⟨rfl, rfl⟩ : n = (q : Int) ∧ E = 0 := by have := HP.out; rw [← hT.out] at this; exact this.of hw
        have hs : ((str T).toList == (str T).toList) = true := beq_self_eq_true _
        have hne : ((str T).toList == []) = false := by rw [str_toList, ← hT.out]; exact beq_eq_false_iff_ne.2 (gram_ne hw)
        clear hw htk
        rcases hend with he | he
        · have hd1 : decide (j < T.length) = false := decide_eq_false he
          go_wp2_with fail
          refine (rgrams_any _ hT).mono ?_
          rintro e w5 ⟨rfl, hb5⟩
          go_wp2
          go_ret2
          exact ⟨rfl, bel_trans hbw hb5⟩
        · have hd1 : decide (j < 10) = false := decide_eq_false he
          by_cases he2 : j < T.length
          · have hd2 : decide (j < T.length) = true := decide_eq_true he2
            go_wp2_with fail
            refine (rgrams_any _ hT).mono ?_
            rintro e w5 ⟨rfl, hb5⟩
            go_wp2
            go_ret2
            exact ⟨rfl, bel_trans hbw hb5⟩
          · have hd2 : decide (j < T.length) = false := decide_eq_false he2
            go_wp2_with fail
            refine (rgrams_any _ hT).mono ?_
            rintro e w5 ⟨rfl, hb5⟩
            go_wp2
            go_ret2
            exact ⟨rfl, bel_trans hbw hb5⟩
      · obtain ⟨rfl, rfl⟩ : n = 0 ∧ E = 3 := by
          rcases HP.out with ⟨_, h2, h3⟩ | ⟨h1, h2, _⟩
          · have h4 := htk.out n h2 h3
            subst h4
            exact absurd ⟨hT.out.symm.trans h3, h2⟩ hg
          · exact ⟨h2, h1⟩
        clear htk
        by_cases hL0 : L = []
        · have hne : ((str L).toList == []) = true := by rw [str_toList, hL0]; rfl
          clear hg hL0
          rcases hend with he | he
          · have hd1 : decide (j < L.length) = false := decide_eq_false he
            go_wp2
            go_ret2
            exact ⟨rfl, hbw⟩
          · have hd1 : decide (j < 10) = false := decide_eq_false he
            by_cases he2 : j < L.length
            · have hd2 : decide (j < L.length) = true := decide_eq_true he2
              go_wp2
              go_ret2
              exact ⟨rfl, hbw⟩
            · have hd2 : decide (j < L.length) = false := decide_eq_false he2
              go_wp2
              go_ret2
              exact ⟨rfl, hbw⟩
        · have hne : ((str L).toList == []) = false := by rw [str_toList]; exact beq_eq_false_iff_ne.2 hL0
          have hs : ((str T).toList == (str L).toList) = false := by
            rw [str_toList, str_toList]
            refine beq_eq_false_iff_ne.2 fun e => hg ⟨e, ?_⟩
            rcases Classical.em (Wt (q : Int)) with h | h
            · exact h
            · exact absurd (e.symm.trans (hT.out.symm.trans (gram_no h))) hL0
          clear hg hL0
          rcases hend with he | he
          · have hd1 : decide (j < L.length) = false := decide_eq_false he
            go_wp2_with fail
            refine (rgrams_any _ hT).mono ?_
            rintro e w5 ⟨rfl, hb5⟩
            go_wp2
            go_ret2
            exact ⟨rfl, bel_trans hbw hb5⟩
          · have hd1 : decide (j < 10) = false := decide_eq_false he
            by_cases he2 : j < L.length
            · have hd2 : decide (j < L.length) = true := decide_eq_true he2
              go_wp2_with fail
              refine (rgrams_any _ hT).mono ?_
              rintro e w5 ⟨rfl, hb5⟩
              go_wp2
              go_ret2
              exact ⟨rfl, bel_trans hbw hb5⟩
            · have hd2 : decide (j < L.length) = false := decide_eq_false he2
              go_wp2_with fail
              refine (rgrams_any _ hT).mono ?_
              rintro e w5 ⟨rfl, hb5⟩
              go_wp2
              go_ret2
              exact ⟨rfl, bel_trans hbw hb5⟩
end Go.Proofs.YteleohgalknkiaaGreatDoor

namespace Go.Proofs.YteleohgalknkiaaGreatDoor
open Go.RowKit Go.Proofs Go

set_option maxHeartbeats 1000000 in
set_option maxRecDepth 100000 in
theorem bhas_any {b : Bool} {x : Int} (A : Option Addr) (c : Nat) (l : List Int) (w : World) (H : IEs w A l) (hl : l.length ≤ 9223372036854775807) (hb : Tells b (x ∈ l)) :
    Calls Tryz.prog 45 #[.slice A l.length c, .int .i64 x] w (RetB w b) := by
  have HB := Lib.hid hb
  clear hb
  go_enter Tryz.func45, Tryz.ntmps45
  go_wp2
  go_loopg [5] l.length (fun k i wr => ∃ j : Nat, j + k = l.length ∧ i = .int .i64 (j : Int) ∧ Hid (∀ i y, i < j → l[i]? = some y → y ≠ x) ∧ Below w.heap.size w wr)
  case atStart => exact ⟨0, by omega, rfl, Lib.hid (fun i x h => absurd h (by omega)), Below.refl _ _⟩
  case round =>
    obtain ⟨j, hj, rfl, hok, hbw⟩ := hrel
    by_cases hj0 : j < l.length
    · have hx := Lib.hid (List.getElem?_eq_getElem hj0)
      obtain ⟨ad, rfl, hbk, c0⟩ := (H.ext hbw).at_ hx.out
      generalize l[j] = y at *
      by_cases hk : y = x
      · obtain rfl : b = true := HB.out.t (hk ▸ List.mem_of_getElem? hx.out)
        have hd : (y == x) = true := beq_iff_eq.2 hk
        clear hk
        go_wp2
        go_ret
        exact ⟨by first | rfl | simp, hbw⟩
      · have hd : (y == x) = false := beq_eq_false_iff_ne.2 hk
        have hnx := Lib.hid (show ∀ i z, i < j + 1 → l[i]? = some z → z ≠ x from fun i z hi hz => by
          by_cases hij : i < j
          · exact hok.out i z hij hz
          · obtain rfl : i = j := by omega
            rw [hx.out] at hz
            obtain rfl := Option.some.inj hz
            exact hk)
        clear hk
        go_wp2
        go_roundg (l.length - (j + 1))
        case measure => omega
        case rel => exact ⟨j + 1, by omega, by go_num, hnx, hbw⟩
    · obtain rfl : b = false := HB.out.f (fun hx => by
        obtain ⟨i, hi, e⟩ := List.mem_iff_getElem.1 hx
        exact hok.out i x (by omega) (by rw [List.getElem?_eq_getElem hi, e]) rfl)
      go_wp2
      go_ret
      exact ⟨by first | rfl | simp, hbw⟩
set_option maxHeartbeats 1000000 in
set_option maxRecDepth 100000 in
theorem wsame_any {u : Rat} {k : Nat} {x y : Int} (A B : Option Addr) (c d : Nat) (w : World) (P : Fc w A c B d u k) (hk : k ≤ 1000) (hy : 0 < y) (hu : Hid (quo x y = u)) (hx1 : -1000000000 < x) (hx2 : x < 1000000000) (hy2 : y < 1000000000) :
    Calls Tryz.prog 92 #[.agg #[.bool (sg u), .slice A (dig (nu u)).length c, .slice B (dig u.den).length d], .int .i64 x, .int .i64 y] w (RetB w true) := by
  go_enter Tryz.func92, Tryz.ntmps92
  have HX := BL.one w #[.bool (sg u), .slice A (dig (nu u)).length c, .slice B (dig u.den).length d] 37
  replace P := P.ext HX.below
  go_upto_region 1 with fail
  have held : ∀ {W' : World}, BL w W' [(w.heap.size, #[.bool (sg u), .slice A (dig (nu u)).length c, .slice B (dig u.den).length d], 37)] → W'.cell? ⟨w.heap.size, 0, none⟩ = some (.bool (sg u)) ∧ W'.cell? ⟨w.heap.size, 1, none⟩ = some (.slice A (dig (nu u)).length c) ∧ W'.cell? ⟨w.heap.size, 2, none⟩ = some (.slice B (dig u.den).length d) := fun h => ⟨h.cell 0 0 rfl rfl, h.cell 0 1 rfl rfl, h.cell 0 2 rfl rfl⟩
  replace HX := HX.ext (drew_ext _)
  replace P := P.ext (drew_ext _)
  go_region_held3 (fun W' => W'.cell? ⟨w.heap.size, 0, none⟩ = some (.bool (sg u)) ∧ W'.cell? ⟨w.heap.size, 1, none⟩ = some (.slice A (dig (nu u)).length c) ∧ W'.cell? ⟨w.heap.size, 2, none⟩ = some (.slice B (dig u.den).length d))
    (exact held HX)
    (first
      | (go_at_call 41; refine (qof_q hy hu hx1 hx2 hy2 (by with_reducible rfl)).mono ?_; rintro e w7 ⟨A7, c7, B7, d7, rfl, F7, hb⟩; replace HX := HX.ext hb; replace P := P.ext hb; clear hb)
      | (go_at_call 39; refine (bfrac_s P F7 (by omega) (by omega)).mono ?_; rintro e w8 ⟨rfl, hb⟩; replace HX := HX.ext hb; clear hb))
  all_goals (
    go_wp2
    go_ret
    exact ⟨by first | rfl | simp, HX.below⟩)
/-- the list of the fixed results -/
def L0 : List Int := [4, 9, 2, 4]
theorem L0_srt : srt L0 = [2, 4, 4, 9] := (srt_unique (r := [2, 4, 4, 9]) (l := L0) (by decide) (by decide)).symm
theorem L0_some : someE L0 = 0 := by decide
theorem L0_tab : tabR L0 2 3 2 = ([0, 3, 0, 1], 0) := by decide
theorem L0_mode : ModeR L0 3 2 3 0 := .inr (.inr ⟨by decide, by decide, ⟨by decide, fun x hx => by
  simp [L0] at hx
  rcases hx with rfl | rfl | rfl | rfl <;> decide⟩, by decide, rfl⟩)
theorem L0_twi : twi L0 = 8 := by rw [twi, L0_srt]; decide
theorem L0_med : quo (twi L0) 2 = quo 4 1 := by rw [L0_twi]; exact quo_eq (by decide) (by decide) (by decide)
theorem L0_quan : QuanR L0 (quo 1 4) 2 0 := .inr (.inr ⟨L0_some, ⟨by
    have h := (quo_lt_iff (x := 0) (y := 1) (d := 1) (e := 4) (by decide) (by decide)).2 (by decide)
    rwa [show quo 0 1 = 0 by rw [quo, Rat.div_def, Rat.intCast_zero, Rat.zero_mul]] at h, quo_le (by decide) (by decide) (by decide)⟩, ⟨0, ⟨by decide, decide_eq_false fun h => by
    rw [quo_mul _ _ (by decide) (by decide), quo_lt_iff (by decide) (by decide)] at h
    exact absurd h (by decide), fun j hj => by omega⟩, by rw [L0_srt]; rfl⟩, rfl⟩)
theorem L0_mean : quo L0.sum (L0.length : Int) = quo 19 4 := rfl
theorem L0_dev : quo (sumM L0 (twi L0)) (2 * (L0.length : Int)) = quo 7 4 := by
  rw [L0_twi, show sumM L0 8 = 14 by decide]
  exact quo_eq (by decide) (by decide) (by decide)
theorem L0_trim : trimR L0 1 = ([4, 4], 0) := by
  rw [trimR, L0_srt]; decide
theorem g5 : PGm [48, 46, 48, 48, 53] 5 0 := .inl ⟨rfl, by decide, by decide +kernel⟩
theorem g16820 : gram 16820 = [49, 54, 46, 56, 50, 48] := by decide +kernel
set_option maxHeartbeats 8000000 in
set_option maxRecDepth 100000 in
theorem wawake_any (w : World) (HE : Env w) :
    Calls Tryz.prog 31 #[] w (RetB w true) := by
  go_enter Tryz.func31, Tryz.ntmps31
  have HX := BL.nil w
  have HL := IEs.lit w 3 L0 #[.int .i64 4, .int .i64 9, .int .i64 2, .int .i64 4] rfl
  have hb := below_alloc w (.cells #[.int .i64 4, .int .i64 9, .int .i64 2, .int .i64 4] 3)
  replace HX := HX.ext hb
  replace HE := HE.ext hb
  clear hb
  go_upto_region 2 with fail
  generalize w.alloc (.cells #[.int .i64 4, .int .i64 9, .int .i64 2, .int .i64 4] 3) = w1 at *
  generalize w.heap.size = g1 at *
  have HL4 : L0.length = 4 := rfl
  go_wp2_with fail
  refine (wtable_any (some ⟨g1, 0, none⟩) 4 L0 _ HL (by decide) (Lib.hid L0_tab)).mono ?_
  rintro e w2 ⟨A2, c2, rfl, HT, hb⟩
  replace HX := HX.ext hb
  replace HE := HE.ext hb
  replace HL := HL.ext hb
  clear hb
  go_wp2_with fail
  refine (wmode_any (some ⟨g1, 0, none⟩) 4 L0 _ HL (by decide)).mono ?_
  rintro e w3 ⟨a, n, E, ⟨rfl, hb⟩, hM⟩
  obtain ⟨rfl, rfl, rfl⟩ := hM.unique L0_mode
  clear hM
  replace HX := HX.ext hb
  replace HE := HE.ext hb
  replace HL := HL.ext hb
  replace HT := HT.ext hb
  clear hb
  go_wp2_with fail
  refine (wmedian_go (some ⟨g1, 0, none⟩) 4 L0 _ HL (Lib.hid L0_some) (Lib.hid L0_med)).mono ?_
  rintro e w4 ⟨A4, c4, B4, d4, rfl, F4, hb⟩
  replace HX := HX.ext hb
  replace HE := HE.ext hb
  replace HL := HL.ext hb
  replace HT := HT.ext hb
  clear hb
  obtain ⟨m4, hm4⟩ : ∃ q, quo 4 1 = q := ⟨_, rfl⟩
  have HM4 := Lib.hid hm4
  rw [hm4] at F4
  rw [hm4]
  clear hm4
  go_upto_region 5 with fail
  have hb := below_alloc w4 (.cells #[.bool (sg m4), .slice A4 (dig (nu m4)).length c4, .slice B4 (dig m4.den).length d4] 37)
  replace HX := HX.new #[.bool (sg m4), .slice A4 (dig (nu m4)).length c4, .slice B4 (dig m4.den).length d4] 37
  simp only [List.nil_append] at HX
  replace HE := HE.ext hb
  replace HL := HL.ext hb
  replace HT := HT.ext hb
  replace F4 := F4.ext hb
  clear hb
  generalize w4.alloc (.cells #[.bool (sg m4), .slice A4 (dig (nu m4)).length c4, .slice B4 (dig m4.den).length d4] 37) = W4 at *
  generalize w4.heap.size = g4 at *
  obtain ⟨q5, hq5⟩ : ∃ q, quo 1 4 = q := ⟨_, rfl⟩
  have HQ5 := Lib.hid hq5
  have HQR : Hid (QuanR L0 q5 2 0) := Lib.hid (hq5 ▸ L0_quan)
  clear hq5
  go_wp2_with fail
  refine (qof_q (x := 1) (y := 4) (by decide) HQ5 (by decide) (by decide) (by decide) rfl).mono ?_
  rintro e w5 ⟨A5, c5, B5, d5, rfl, F5, hb⟩
  replace HX := HX.ext hb
  replace HE := HE.ext hb
  replace HL := HL.ext hb
  replace HT := HT.ext hb
  replace F4 := F4.ext hb
  clear hb
  go_wp2_with fail
  refine (wquant_any (some ⟨g1, 0, none⟩) 4 L0 _ HL (by decide) F5.fr (by omega) HQR.out).mono ?_
  rintro e w6 ⟨rfl, hb⟩
  replace HX := HX.ext hb
  replace HE := HE.ext hb
  replace HL := HL.ext hb
  replace HT := HT.ext hb
  replace F4 := F4.ext hb
  replace F5 := F5.ext hb
  clear hb
  clear F5
  go_wp2_with fail
  refine (wmean_go (some ⟨g1, 0, none⟩) 4 L0 _ HL (Lib.hid L0_some) (Lib.hid L0_mean)).mono ?_
  rintro e w7 ⟨A7, c7, B7, d7, rfl, F7, hb⟩
  replace HX := HX.ext hb
  replace HE := HE.ext hb
  replace HL := HL.ext hb
  replace HT := HT.ext hb
  replace F4 := F4.ext hb
  clear hb
  obtain ⟨m7, hm7⟩ : ∃ q, quo 19 4 = q := ⟨_, rfl⟩
  have HM7 := Lib.hid hm7
  rw [hm7] at F7
  rw [hm7]
  clear hm7
  go_upto_region 7 with fail
  have hlg70 := HX.lt 0 rfl
  simp only [] at hlg70
  have hb := below_alloc w7 (.cells #[.bool (sg m7), .slice A7 (dig (nu m7)).length c7, .slice B7 (dig m7.den).length d7] 37)
  replace HX := HX.new #[.bool (sg m7), .slice A7 (dig (nu m7)).length c7, .slice B7 (dig m7.den).length d7] 37
  simp only [List.cons_append, List.nil_append] at HX
  replace HE := HE.ext hb
  replace HL := HL.ext hb
  replace HT := HT.ext hb
  replace F4 := F4.ext hb
  replace F7 := F7.ext hb
  clear hb
  generalize w7.alloc (.cells #[.bool (sg m7), .slice A7 (dig (nu m7)).length c7, .slice B7 (dig m7.den).length d7] 37) = W7 at *
  generalize w7.heap.size = g7 at *
  go_wp2_with fail
  refine (wdev_go (some ⟨g1, 0, none⟩) 4 L0 _ HL (Lib.hid L0_some) (Lib.hid L0_dev)).mono ?_
  rintro e w8 ⟨A8, c8, B8, d8, rfl, F8, hb⟩
  replace HX := HX.ext hb
  replace HE := HE.ext hb
  replace HL := HL.ext hb
  replace HT := HT.ext hb
  replace F4 := F4.ext hb
  replace F7 := F7.ext hb
  clear hb
  obtain ⟨m8, hm8⟩ : ∃ q, quo 7 4 = q := ⟨_, rfl⟩
  have HM8 := Lib.hid hm8
  rw [hm8] at F8
  rw [hm8]
  clear hm8
  go_upto_region 8 with fail
  have hlg80 := HX.lt 0 rfl
  simp only [] at hlg80
  have hlg81 := HX.lt 1 rfl
  simp only [] at hlg81
  have hb := below_alloc w8 (.cells #[.bool (sg m8), .slice A8 (dig (nu m8)).length c8, .slice B8 (dig m8.den).length d8] 37)
  replace HX := HX.new #[.bool (sg m8), .slice A8 (dig (nu m8)).length c8, .slice B8 (dig m8.den).length d8] 37
  simp only [List.cons_append, List.nil_append] at HX
  replace HE := HE.ext hb
  replace HL := HL.ext hb
  replace HT := HT.ext hb
  replace F4 := F4.ext hb
  replace F7 := F7.ext hb
  replace F8 := F8.ext hb
  clear hb
  generalize w8.alloc (.cells #[.bool (sg m8), .slice A8 (dig (nu m8)).length c8, .slice B8 (dig m8.den).length d8] 37) = W8 at *
  generalize w8.heap.size = g8 at *
  go_wp2_with fail
  refine (wtrim_any (some ⟨g1, 0, none⟩) 4 L0 _ HL (by decide) (by decide) (by decide) (Lib.hid L0_trim)).mono ?_
  rintro e w9 ⟨A9, c9, rfl, HS, hb⟩
  replace HX := HX.ext hb
  replace HE := HE.ext hb
  replace HL := HL.ext hb
  replace HT := HT.ext hb
  replace F4 := F4.ext hb
  replace F7 := F7.ext hb
  replace F8 := F8.ext hb
  clear hb
  go_wp2_with fail
  refine (wparse_any (L := [48, 46, 48, 48, 53]) _ HE (by decide) g5).mono ?_
  rintro e w10 ⟨rfl, hb⟩
  replace HX := HX.ext hb
  replace HE := HE.ext hb
  replace HL := HL.ext hb
  replace HT := HT.ext hb
  replace F4 := F4.ext hb
  replace F7 := F7.ext hb
  replace F8 := F8.ext hb
  replace HS := HS.ext hb
  clear hb
  have hb := below_alloc w10 (.cells #[.int .i64 0, .int .i64 3, .int .i64 0, .int .i64 1] 3)
  have HI := IEs.lit w10 3 [0, 3, 0, 1] #[.int .i64 0, .int .i64 3, .int .i64 0, .int .i64 1] rfl
  go_wp2_with fail
  replace HT := HT.ext hb
  refine (bints_any (b := true) A2 (some ⟨w10.heap.size, 0, none⟩) c2 4 [0, 3, 0, 1] [0, 3, 0, 1] _ HT HI (by decide) (by decide) (yes rfl)).mono ?_
  rintro e w11 ⟨rfl, hb2⟩
  replace hb := bel_trans hb hb2
  clear hb2 HT HI
  replace HX := HX.ext hb
  replace HE := HE.ext hb
  replace HL := HL.ext hb
  replace F4 := F4.ext hb
  replace F7 := F7.ext hb
  replace F8 := F8.ext hb
  replace HS := HS.ext hb
  clear hb
  have hc00 := HX.cell 0 0 rfl rfl
  have hc01 := HX.cell 0 1 rfl rfl
  have hc02 := HX.cell 0 2 rfl rfl
  try simp only [List.getElem_toArray, List.getElem_cons_zero, List.getElem_cons_succ] at hc00 hc01 hc02
  go_wp2_with fail
  refine (wsame_any A4 B4 c4 d4 _ F4 (by omega) (by decide) HM4 (by decide) (by decide) (by decide)).mono ?_
  rintro e w12 ⟨rfl, hb⟩
  clear hc00 hc01 hc02
  replace HX := HX.ext hb
  replace HE := HE.ext hb
  replace HL := HL.ext hb
  replace F4 := F4.ext hb
  replace F7 := F7.ext hb
  replace F8 := F8.ext hb
  replace HS := HS.ext hb
  clear hb
  have hc10 := HX.cell 1 0 rfl rfl
  have hc11 := HX.cell 1 1 rfl rfl
  have hc12 := HX.cell 1 2 rfl rfl
  try simp only [List.getElem_toArray, List.getElem_cons_zero, List.getElem_cons_succ] at hc10 hc11 hc12
  go_wp2_with fail
  refine (wsame_any A7 B7 c7 d7 _ F7 (by omega) (by decide) HM7 (by decide) (by decide) (by decide)).mono ?_
  rintro e w13 ⟨rfl, hb⟩
  clear hc10 hc11 hc12
  replace HX := HX.ext hb
  replace HE := HE.ext hb
  replace HL := HL.ext hb
  replace F4 := F4.ext hb
  replace F7 := F7.ext hb
  replace F8 := F8.ext hb
  replace HS := HS.ext hb
  clear hb
  have hc20 := HX.cell 2 0 rfl rfl
  have hc21 := HX.cell 2 1 rfl rfl
  have hc22 := HX.cell 2 2 rfl rfl
  try simp only [List.getElem_toArray, List.getElem_cons_zero, List.getElem_cons_succ] at hc20 hc21 hc22
  go_wp2_with fail
  refine (wsame_any A8 B8 c8 d8 _ F8 (by omega) (by decide) HM8 (by decide) (by decide) (by decide)).mono ?_
  rintro e w14 ⟨rfl, hb⟩
  clear hc20 hc21 hc22
  replace HX := HX.ext hb
  replace HE := HE.ext hb
  replace HL := HL.ext hb
  replace F4 := F4.ext hb
  replace F7 := F7.ext hb
  replace F8 := F8.ext hb
  replace HS := HS.ext hb
  clear hb
  have hb := below_alloc w14 (.cells #[.int .i64 4, .int .i64 4] 3)
  have HI := IEs.lit w14 3 [4, 4] #[.int .i64 4, .int .i64 4] rfl
  go_wp2_with fail
  replace HS := HS.ext hb
  refine (bints_any (b := true) A9 (some ⟨w14.heap.size, 0, none⟩) c9 2 [4, 4] [4, 4] _ HS HI (by decide) (by decide) (yes rfl)).mono ?_
  rintro e w15 ⟨rfl, hb2⟩
  replace hb := bel_trans hb hb2
  clear hb2 HS HI
  replace HX := HX.ext hb
  replace HE := HE.ext hb
  replace HL := HL.ext hb
  replace F4 := F4.ext hb
  replace F7 := F7.ext hb
  replace F8 := F8.ext hb
  clear hb
  go_wp2_with fail
  refine (wgrams_any (n := 16820) _ (Lib.hid g16820) HE).mono ?_
  rintro e w16 ⟨rfl, hb⟩
  replace HX := HX.ext hb
  replace HE := HE.ext hb
  replace HL := HL.ext hb
  replace F4 := F4.ext hb
  replace F7 := F7.ext hb
  replace F8 := F8.ext hb
  clear hb
  go_wp2
  go_ret
  exact ⟨by first | rfl | simp [str], HX.below⟩
end Go.Proofs.YteleohgalknkiaaGreatDoor
