/- The statement SimilarityBest: its walk. -/
import Derived.Test.YthempimelfmipaaGreatDoorSxdM
namespace Go.Proofs.YthempimelfmipaaGreatDoor
open Go.RowKit Go.Proofs Go

theorem EvIs.rev {rs : List RR} {l : List Int} {n E : Int} (h : EvIs rs l n E) : EvIs rs l.reverse n E := by
  rcases h with ⟨h1, h2, h3⟩ | ⟨h1, h2, h3, h4⟩ | ⟨h1, h2, h3, h4⟩
  · exact .inl ⟨h1, h2, h3⟩
  · exact .inr (.inl ⟨h1, fun h => h2 (IsOrd.rev_iff.1 h), h3, h4⟩)
  · refine .inr (.inr ⟨h1, h2.rev, ?_, h4⟩)
    rw [evs_rev _ _ fun a ha b hb => ?_]
    · exact h3
    · obtain ⟨i, rfl⟩ := Int.eq_ofNat_of_zero_le (h2.bd ha).1
      obtain ⟨j, rfl⟩ := Int.eq_ofNat_of_zero_le (h2.bd hb).1
      have h5 := (h2.bd ha).2
      have h6 := (h2.bd hb).2
      rcases Nat.lt_trichotomy i j with h | h | h
      · exact (h1.2.2 j i h (by omega)).symm
      · rw [h]
      · exact h1.2.2 i j h (by omega)
theorem BestIs.bad {hs : List HR} {o : List Int} {k E : Int} (h : BestIs hs o k E) (hE : E ≠ 0) : o = [] ∧ k = 0 := by
  obtain ⟨e, _, h⟩ := h
  rcases h with ⟨_, h1, h2, _⟩ | ⟨_, _, h1, h2, _⟩ | ⟨_, _, _, h1⟩
  · exact ⟨h1, h2⟩
  · exact ⟨h1, h2⟩
  · exact absurd h1 hE
theorem BestIs.ok {hs : List HR} {o : List Int} {k : Int} (h : BestIs hs o k 0) : ChkIs hs 0 ∧ hs.length ≤ 6 ∧ ∃ lo : Nat, bestO (mq (matQ hs)) hs.length = (o, lo) ∧ k = (lo : Int) := by
  obtain ⟨e, he, h⟩ := h
  rcases h with ⟨h0, _, _, h1⟩ | ⟨_, _, _, _, h1⟩ | ⟨rfl, h6, hb, _⟩
  · exact absurd h1.symm h0
  · cases h1
  · exact ⟨he, h6, hb⟩
set_option maxHeartbeats 2000000 in
set_option maxRecDepth 100000 in
theorem bs_few {A Ao : Option Addr} {c co : Nat} {hs : List HR} {l : List Int} (w : World) (hT : Tab w) (H : HL w A hs) (hl : hs.length ≤ 9223372036854775807) (Ho : IEs w Ao l) (_hlo : l.length ≤ 9223372036854775807) (hfew : fewS hs = false) :
    Calls Tryz.prog 6 #[.slice A hs.length c, .slice Ao l.length co] w (RetB w true) := by
  go_enter Tryz.func6, Tryz.ntmps6
  go_wp2_with fail
  refine (awake_any _ hT).mono ?_
  rintro e w1 ⟨rfl, hbx⟩
  replace hT := hT.ext hbx
  replace H := H.ext hbx
  replace Ho := Ho.ext hbx
  have cF : Calls Tryz.prog 12 #[.slice A hs.length c] w1 (RetB w1 false) := by
    have h := few_any A c hs w1 H hl
    rw [hfew] at h
    exact h
  clear hfew
  go_wp2_with fail
  refine cF.mono ?_
  rintro e w2 ⟨rfl, hb⟩
  clear cF
  replace hT := hT.ext hb
  replace H := H.ext hb
  replace Ho := Ho.ext hb
  replace hbx := bel_trans hbx hb
  clear hb
  go_wp2_with fail
  refine (awake_any _ hT).mono ?_
  rintro e wz ⟨rfl, hb⟩
  go_wp2
  go_ret
  exact ⟨rfl, bel_trans hbx hb⟩
set_option maxHeartbeats 2000000 in
set_option maxRecDepth 100000 in
theorem bs_long {A Ao : Option Addr} {c co : Nat} {hs : List HR} {l : List Int} (w : World) (hT : Tab w) (H : HL w A hs) (hl : hs.length ≤ 9223372036854775807) (Ho : IEs w Ao l) (hlo : l.length ≤ 9223372036854775807) (hfew : fewS hs = true) (h10 : 10 < l.length) :
    Calls Tryz.prog 6 #[.slice A hs.length c, .slice Ao l.length co] w (RetB w true) := by
  have h10b : decide ((10 : Int) < (l.length : Int)) = true := decide_eq_true (by omega)
  go_enter Tryz.func6, Tryz.ntmps6
  go_wp2_with fail
  refine (awake_any _ hT).mono ?_
  rintro e w1 ⟨rfl, hbx⟩
  replace hT := hT.ext hbx
  replace H := H.ext hbx
  replace Ho := Ho.ext hbx
  have cF : Calls Tryz.prog 12 #[.slice A hs.length c] w1 (RetB w1 true) := by
    have h := few_any A c hs w1 H hl
    rw [hfew] at h
    exact h
  clear hfew
  go_wp2_with fail
  refine cF.mono ?_
  rintro e w2 ⟨rfl, hb⟩
  clear cF
  replace hT := hT.ext hb
  replace H := H.ext hb
  replace Ho := Ho.ext hb
  replace hbx := bel_trans hbx hb
  clear hb
  go_wp2_with fail
  refine (awake_any _ hT).mono ?_
  rintro e wz ⟨rfl, hb⟩
  go_wp2
  go_ret
  exact ⟨rfl, bel_trans hbx hb⟩
set_option maxHeartbeats 2000000 in
set_option maxRecDepth 100000 in
theorem bs_err {A Ao : Option Addr} {c co : Nat} {hs : List HR} {l : List Int} (w : World) (hT : Tab w) (H : HL w A hs) (hl : hs.length ≤ 9223372036854775807) (Ho : IEs w Ao l) (hlo : l.length ≤ 9223372036854775807) (hfew : fewS hs = true) (h10 : l.length ≤ 10) {o : List Int} {k E : Int} (hB : Hid (BestIs hs o k E)) (hE : E ≠ 0) :
    Calls Tryz.prog 6 #[.slice A hs.length c, .slice Ao l.length co] w (RetB w true) := by
  have h10b : decide ((10 : Int) < (l.length : Int)) = false := decide_eq_false (by omega)
  obtain ⟨rfl, rfl⟩ := hB.out.bad hE
  have hEb : (E != 0) = true := bne_iff_ne.2 hE
  clear hE
  go_enter Tryz.func6, Tryz.ntmps6
  go_wp2_with fail
  refine (awake_any _ hT).mono ?_
  rintro e w1 ⟨rfl, hbx⟩
  replace hT := hT.ext hbx
  replace H := H.ext hbx
  replace Ho := Ho.ext hbx
  have cF : Calls Tryz.prog 12 #[.slice A hs.length c] w1 (RetB w1 true) := by
    have h := few_any A c hs w1 H hl
    rw [hfew] at h
    exact h
  clear hfew
  go_wp2_with fail
  refine cF.mono ?_
  rintro e w2 ⟨rfl, hb⟩
  clear cF
  replace hT := hT.ext hb
  replace H := H.ext hb
  replace Ho := Ho.ext hb
  replace hbx := bel_trans hbx hb
  clear hb
  go_wp2_with fail
  refine (best_any A c hs _ H hl hB).mono ?_
  rintro e w3 ⟨A3, c3, rfl, _, hb⟩
  go_wp2
  go_ret
  exact ⟨by first | rfl | simp, bel_trans hbx hb⟩
set_option maxHeartbeats 8000000 in
set_option maxRecDepth 100000 in
theorem bs_ok {A Ao : Option Addr} {c co : Nat} {hs : List HR} {l : List Int} (w : World) (hT : Tab w) (H : HL w A hs) (hl : hs.length ≤ 9223372036854775807) (Ho : IEs w Ao l) (hlo : l.length ≤ 9223372036854775807) (hfew : fewS hs = true) (h10 : l.length ≤ 10) {o : List Int} {k : Int} (hB : Hid (BestIs hs o k 0)) :
    Calls Tryz.prog 6 #[.slice A hs.length c, .slice Ao l.length co] w (RetB w true) := by
  have h10b : decide ((10 : Int) < (l.length : Int)) = false := decide_eq_false (by omega)
  obtain ⟨hC, h6, lo, hbo, rfl⟩ := hB.out.ok
  have HC := Lib.hid hC
  have ho6 := Lib.hid (show IsOrd o hs.length by have := bestO_ord (mq (matQ hs)) h6; rw [hbo] at this; exact this)
  have hown := Lib.hid (show lo = evs (mq (matQ hs)) o by have := bestO_own (mq (matQ hs)) hs.length; rw [hbo] at this; exact this)
  have hleast := Lib.hid (show ∀ x, IsOrd x hs.length → lo ≤ evs (mq (matQ hs)) x from fun x hx => by have := bestO_least (mq (matQ hs)) h6 hx; rw [hbo] at this; exact this)
  clear hC hbo
  go_enter Tryz.func6, Tryz.ntmps6
  go_wp2_with fail
  refine (awake_any _ hT).mono ?_
  rintro e w1 ⟨rfl, hbx⟩
  replace hT := hT.ext hbx
  replace H := H.ext hbx
  replace Ho := Ho.ext hbx
  have cF : Calls Tryz.prog 12 #[.slice A hs.length c] w1 (RetB w1 true) := by
    have h := few_any A c hs w1 H hl
    rw [hfew] at h
    exact h
  clear hfew
  go_wp2_with fail
  refine cF.mono ?_
  rintro e w2 ⟨rfl, hb⟩
  clear cF
  replace hT := hT.ext hb
  replace H := H.ext hb
  replace Ho := Ho.ext hb
  replace hbx := bel_trans hbx hb
  clear hb
  go_wp2_with fail
  refine (best_any A c hs _ H hl hB).mono ?_
  rintro e w3 ⟨A3, c3, rfl, HO, hb⟩
  replace hT := hT.ext hb
  replace H := H.ext hb
  replace Ho := Ho.ext hb
  replace hbx := bel_trans hbx hb
  clear hb
  go_wp2_with fail
  refine (matrix_ok A c hs _ H HC (Lib.hid rfl)).mono ?_
  rintro e w4 ⟨A4, c4, rs, rfl, hs1, hq, HM, hb⟩
  have HS := Lib.hid hs1
  have HX := Lib.hid (mxv_of h6 hs1 hq)
  have hq2 := Lib.hid hq
  clear hs1 hq
  replace hT := hT.ext hb
  replace Ho := Ho.ext hb
  replace HO := HO.ext hb
  replace hbx := bel_trans hbx hb
  clear hb
  clear H
  obtain ⟨n2, E2, hev2⟩ := EvIs.ex rs l
  have HE2 := Lib.hid hev2
  have HE3 := Lib.hid hev2.rev
  have HE1 : Hid (EvIs rs o lo 0) := Lib.hid (.inr (.inr ⟨HX.out, by rw [HS.out.1]; exact ho6.out, by rw [hq2.out, hown.out], rfl⟩))
  have hge := Lib.hid (show E2 = 0 → (lo : Int) ≤ n2 from fun h => by
    rcases hev2 with ⟨_, _, h3⟩ | ⟨_, _, _, h4⟩ | ⟨_, h2, h3, _⟩
    · omega
    · omega
    · rw [h3, hq2.out]
      have := hleast.out l (by rw [← HS.out.1]; exact h2)
      omega)
  have hE22 := Lib.hid (show E2 ≠ 0 → E2 = 2 from fun h => by
    rcases hev2 with ⟨h2, _, _⟩ | ⟨_, _, _, h4⟩ | ⟨_, _, _, h4⟩
    · exact absurd HX.out h2
    · exact h4
    · exact absurd h4 h)
  clear hev2
  have hol := Lib.hid ho6.out.len
  have cE : Calls Tryz.prog 22 #[.slice A4 hs.length c4, .slice A3 o.length c3] w4 (RetII w4 lo 0) := by
    have h := Events_any A4 A3 c4 c3 rs o w4 HM (by rw [HS.out.1]; omega) HO (by have := hol.out; omega) HE1
    rw [HS.out.1] at h
    exact h
  go_wp2_with fail
  refine cE.mono ?_
  rintro e w5 ⟨rfl, hb⟩
  clear cE
  replace hT := hT.ext hb
  replace Ho := Ho.ext hb
  replace HM := HM.ext hb
  replace hbx := bel_trans hbx hb
  clear hb
  clear HO
  have cE : Calls Tryz.prog 22 #[.slice A4 hs.length c4, .slice Ao l.length co] w5 (RetII w5 n2 E2) := by
    have h := Events_any A4 Ao c4 co rs l w5 HM (by rw [HS.out.1]; omega) Ho (by omega) HE2
    rw [HS.out.1] at h
    exact h
  go_wp2_with fail
  refine cE.mono ?_
  rintro e w6 ⟨rfl, hb⟩
  clear cE
  replace hT := hT.ext hb
  replace Ho := Ho.ext hb
  replace HM := HM.ext hb
  replace hbx := bel_trans hbx hb
  clear hb
  have HOWN := IOwn.nil w6 w6.heap.size
  go_wp2
  go_loopg [14, 15] l.length (fun g y i wr => ∃ (m : Nat) (A8 : Option Addr) (c8 : Nat) (L : List Int), Hid (m = g) ∧ m ≤ l.length ∧ Hid ((l.drop m).reverse = L) ∧ y = .slice A8 L.length c8 ∧ i = .int .i64 ((m : Int) - 1) ∧ Own wr w6.heap.size 3 A8 L.length c8 (icells L) ∧ Below w6.heap.size w6 wr)
  case atStart => exact ⟨l.length, none, 0, [], Lib.hid rfl, Nat.le_refl _, Lib.hid (by simp), rfl, by go_num, HOWN, Below.refl _ _⟩
  case round =>
    clear HOWN
    obtain ⟨m, A8, c8, L, hm, hml, hL, rfl, rfl, HOWN, hbw⟩ := hrel
    have hLl := Lib.hid (show L.length = l.length - m by rw [← hL.out, List.length_reverse, List.length_drop])
    cases m with
    | zero =>
      have hLr := Lib.hid (show l.reverse = L by rw [← hL.out, List.drop_zero])
      rw [hLr.out] at HE3
      replace hT := hT.ext hbw
      replace HM := HM.ext hbw
      replace hbx := bel_trans hbx hbw
      have HI := (show IOwn wr w6.heap.size A8 c8 L from HOWN).es
      have hLl2 : L.length ≤ 1000000 := by have := hLl.out; omega
      clear HOWN
      have cE : Calls Tryz.prog 22 #[.slice A4 hs.length c4, .slice A8 L.length c8] wr (RetII wr n2 E2) := by
        have h := Events_any A4 A8 c4 c8 rs L wr HM (by rw [HS.out.1]; omega) HI hLl2 HE3
        rw [HS.out.1] at h
        exact h
      go_wp2_with fail
      refine cE.mono ?_
      rintro e w8 ⟨rfl, hb⟩
      clear cE HI
      replace HM := HM.ext hb
      replace Ho := Ho.ext (bel_trans hbw hb)
      replace hbx := bel_trans hbx hb
      clear hb hbw hm
      have cR : Calls Tryz.prog 24 #[.slice A4 hs.length c4, .slice Ao l.length co] w8 (RetB w8 (E2 == 0 && n2 == 0)) := by
        have h := robinson_any A4 Ao c4 co rs l w8 HM (by rw [HS.out.1]; omega) Ho (by omega) HE2
        rw [HS.out.1] at h
        exact h
      by_cases hE0 : E2 = 0
      · subst hE0
        have hg := hge.out rfl
        have hgb : decide ((lo : Int) ≤ n2) = true := decide_eq_true hg
        rw [show ((0 : Int) == 0 && n2 == 0) = (n2 == 0) from rfl] at cR
        clear hge hE22
        go_wp2_with fail
        refine cR.mono ?_
        rintro e w9 ⟨rfl, hb⟩
        go_wp2
        go_ret
        exact ⟨by first | rfl | simp, bel_trans hbx hb⟩
      · obtain rfl : E2 = 2 := hE22.out hE0
        rw [show ((2 : Int) == 0 && n2 == 0) = false from rfl] at cR
        clear hge hE22 hE0
        go_wp2_with fail
        refine cR.mono ?_
        rintro e w9 ⟨rfl, hb⟩
        go_wp2
        go_ret
        exact ⟨by first | rfl | simp, bel_trans hbx hb⟩
    | succ p =>
      obtain ⟨ad, rfl, hbk, c0⟩ := (Ho.ext hbw).at_ (el_get (show p < l.length by omega))
      have hnx := Lib.hid (show (l.drop p).reverse = L ++ [el l p] by
        rw [List.drop_eq_getElem_cons (show p < l.length by omega), List.reverse_cons, hL.out, el, List.getElem?_eq_getElem (show p < l.length by omega)]; rfl)
      generalize el l p = x at *
      have hp0 : (0 : Int) ≤ (p : Int) := by omega
      have hi : ((p + 1 : Nat) : Int) - 1 = (p : Int) := by omega
      rw [hi]
      clear hi
      go_wp2_with (at_builtin; refine wp_push EI _ rfl _ _ rfl rfl rfl HOWN rfl (by have := hLl.out; omega) (by have := hLl.out; omega) hbw.size ?_)
      intro A9 c9 w9 HO2 _ hb9 _
      have hbn := hbw.trans hb9
      have HO3 := HO2
      rw [show icells L ++ [Value.int .i64 x] = icells (L ++ [x]) by simp [icells]] at HO3
      clear HOWN HO2 hb9
      go_wp2
      go_roundg p
      case measure => have := hm.out; omega
      case rel => exact ⟨p, A9, c9, L ++ [x], Lib.hid rfl, by omega, hnx, by simp, by go_num, by rw [List.length_append]; exact HO3, hbn⟩
set_option maxHeartbeats 1000000 in
set_option maxRecDepth 100000 in
theorem bestS_any {A Ao : Option Addr} {c co : Nat} {hs : List HR} {l : List Int} (w : World) (hT : Tab w) (H : HL w A hs) (hl : hs.length ≤ 9223372036854775807) (Ho : IEs w Ao l) (hlo : l.length ≤ 9223372036854775807) :
    Calls Tryz.prog 6 #[.slice A hs.length c, .slice Ao l.length co] w (RetB w true) := by
  cases hfew : fewS hs with
  | false => exact bs_few w hT H hl Ho hlo hfew
  | true =>
    by_cases h10 : l.length ≤ 10
    · obtain ⟨o, k, E, hB⟩ := BestIs.ex hs
      by_cases hE : E = 0
      · subst hE
        exact bs_ok w hT H hl Ho hlo hfew h10 (Lib.hid hB)
      · exact bs_err w hT H hl Ho hlo hfew h10 (Lib.hid hB) hE
    · exact bs_long w hT H hl Ho hlo hfew (by omega)
end Go.Proofs.YthempimelfmipaaGreatDoor
