/- label.Runs: the text of a list of numbers, or the error. -/
import Derived.Test.YtlnajhochpbgpaaDoorLb5
namespace Go.Proofs.YtlnajhochpbgpaaDoor
open Go.RowKit Go.Proofs Go

set_option maxHeartbeats 1000000 in
set_option maxRecDepth 100000 in
theorem lruns_bad (A : Option Addr) (c : Nat) (l : List Int) (w : World) (H : IEs w A l) (hl : l.length ≤ 9223372036854775807) (hA : ¬ Asc l) :
    Calls Tryd.prog 20 #[.slice A l.length c] w (RetR w [] 1) := by
  replace hA := Lib.hid hA
  go_enter Tryd.func20, Tryd.ntmps20
  go_wp2
  go_loopg [12] l.length (fun k i wr => ∃ j : Nat, j + k = l.length ∧ i = .int .i64 (j : Int) ∧ Hid (∀ i, i < j → AscAt l i) ∧ wr = w)
  case atStart => exact ⟨0, by omega, rfl, Lib.hid (fun i h => absurd h (by omega)), rfl⟩
  case round =>
    obtain ⟨j, hj, rfl, hok, rfl⟩ := hrel
    by_cases hj0 : j < l.length
    · have hx := Lib.hid (List.getElem?_eq_getElem hj0)
      obtain ⟨ad, rfl, hbk, c0⟩ := H.at_ hx.out
      generalize l[j] = x at *
      by_cases hn : 1 ≤ x ∧ x ≤ 999
      · have HN : Tells true (Rng x 1 999) := yes hn
        by_cases h0 : j = 0
        · subst h0
          have c0z : wr.cell? ad = some (.int .i64 x) := by simpa [Addr.add] using c0
          have hnx := Lib.hid (show ∀ i, i < 0 + 1 → AscAt l i from fun i hi y hy => by
            obtain rfl : i = 0 := by omega
            rw [hx.out] at hy
            obtain rfl := Option.some.inj hy
            exact ⟨hn, fun j y h => absurd h (by omega)⟩)
          clear hn
          go_wp2_with fail
          refine (lnum_any _ HN).mono ?_
          rintro e w1 ⟨rfl, rfl⟩
          go_wp2
          go_roundg (l.length - (0 + 1))
          case measure => omega
          case rel => exact ⟨0 + 1, by omega, by go_num, hnx, by first | rfl | trivial⟩
        · obtain ⟨k, hjk⟩ : ∃ k, j = k + 1 := ⟨j - 1, by omega⟩
          have hk0 : k < l.length := by omega
          have hk1 : (0 : Int) < (j : Int) := by omega
          have hk2 : 0 < j := by omega
          have qk : IntKind.i64.wrap ((j : Int) - 1) = (k : Int) := by rw [show (j : Int) - 1 = (k : Int) by omega]; exact Go.IntWalk.i64_in _ (by omega)
          have qk2 : (j : Int) - 1 = (k : Int) := by omega
          have hy := Lib.hid (List.getElem?_eq_getElem hk0)
          obtain ⟨ad2, he2, _, p0⟩ := H.at_ hy.out
          obtain rfl := Option.some.inj he2
          generalize l[k] = y at *
          have HJK := Lib.hid hjk
          have QK := Lib.hid qk
          have QK2 := Lib.hid qk2
          clear h0 hjk qk qk2
          by_cases hlt : y < x
          · have hltb : decide (x ≤ y) = false := decide_eq_false (by omega)
            have hnx := Lib.hid (show ∀ i, i < j + 1 → AscAt l i from fun i hi => by
              by_cases hik : i < j
              · exact hok.out i hik
              · obtain rfl : i = j := by omega
                intro z hz
                rw [hx.out] at hz
                obtain rfl := Option.some.inj hz
                refine ⟨hn, fun j' z hj hz => ?_⟩
                obtain rfl : j' = k := by have := HJK.out; omega
                rw [hy.out] at hz
                obtain rfl := Option.some.inj hz
                exact hlt)
            clear hn
            go_wp2_with fail
            refine (lnum_any _ HN).mono ?_
            rintro e w1 ⟨rfl, rfl⟩
            have qk := QK.out
            have qk2 := QK2.out
            go_wp2
            clear qk qk2
            go_roundg (l.length - (j + 1))
            case measure => omega
            case rel => exact ⟨j + 1, by omega, by go_num, hnx, by first | rfl | trivial⟩
          · have hltb : decide (x ≤ y) = true := decide_eq_true (by omega)
            clear hn
            go_wp2_with fail
            refine (lnum_any _ HN).mono ?_
            rintro e w1 ⟨rfl, rfl⟩
            have qk := QK.out
            have qk2 := QK2.out
            go_wp2
            go_ret2
            exact ⟨by first | rfl | simp [str], Below.refl _ _⟩
      · have HN : Tells false (Rng x 1 999) := no hn
        clear hn
        go_wp2_with fail
        refine (lnum_any _ HN).mono ?_
        rintro e w1 ⟨rfl, rfl⟩
        go_wp2
        go_ret2
        exact ⟨by first | rfl | simp [str], Below.refl _ _⟩
    · exact absurd (fun i => by
        by_cases hi : i < l.length
        · exact hok.out i (by omega)
        · intro x hx; rw [List.getElem?_eq_none (by omega)] at hx; cases hx) hA.out
theorem grp_lt {l : List Int} (h : Asc l) {j m : Nat} {x y : Int} (hx : l[j]? = some x) (hy : l[m]? = some y) (hjm : j < m) : x < y := by
  induction m generalizing y with
  | zero => omega
  | succ m ih =>
    have hm : m < l.length := by have := (List.getElem?_eq_some_iff.1 hy).1; omega
    have h1 := (h (m + 1) y hy).2 m _ rfl (List.getElem?_eq_getElem hm)
    by_cases hj : j < m
    · have := ih (List.getElem?_eq_getElem hm) hj; omega
    · obtain rfl : j = m := by omega
      rw [List.getElem?_eq_getElem hm] at hx
      obtain rfl := Option.some.inj hx
      exact h1
theorem drop_at {l : List Int} {j : Nat} {x : Int} (h : l[j]? = some x) : l.drop j = x :: l.drop (j + 1) := by
  obtain ⟨hj, rfl⟩ := List.getElem?_eq_some_iff.1 h
  exact List.drop_eq_getElem_cons hj
set_option maxHeartbeats 8000000 in
set_option maxRecDepth 100000 in
theorem lruns_ok {T : List UInt8} (A : Option Addr) (c : Nat) (l : List Int) (w : World) (hT0 : Tab w) (H : IEs w A l) (hA : Asc l) (hT : Hid (runsT l = T)) :
    Calls Tryd.prog 20 #[.slice A l.length c] w (RetR w T 0) := by
  have hlen := hA.len
  have hTl : T.length ≤ 9000 := by have := runsT_len hA; rw [hT.out] at this; omega
  have HA := Lib.hid hA
  clear hA
  go_enter Tryd.func20, Tryd.ntmps20
  go_wp2
  go_loopg [12] l.length (fun k i wr => ∃ j : Nat, j + k = l.length ∧ i = .int .i64 (j : Int) ∧ wr = w)
  case atStart => exact ⟨0, by omega, rfl, rfl⟩
  case round =>
    obtain ⟨j, hj, rfl, rfl⟩ := hrel
    by_cases hj0 : j < l.length
    · have hx := Lib.hid (List.getElem?_eq_getElem hj0)
      obtain ⟨ad, rfl, hbk, c0⟩ := H.at_ hx.out
      have hn := HA.out j _ hx.out
      generalize l[j] = x at *
      have HN : Tells true (Rng x 1 999) := yes hn.1
      by_cases h0 : j = 0
      · subst h0
        have c0z : wr.cell? ad = some (.int .i64 x) := by simpa [Addr.add] using c0
        clear hn
        go_wp2_with fail
        refine (lnum_any _ HN).mono ?_
        rintro e w1 ⟨rfl, rfl⟩
        go_wp2
        go_roundg (l.length - (0 + 1))
        case measure => omega
        case rel => exact ⟨0 + 1, by omega, by go_num, by first | rfl | trivial⟩
      · obtain ⟨k, hjk⟩ : ∃ k, j = k + 1 := ⟨j - 1, by omega⟩
        have hk0 : k < l.length := by omega
        have hk1 : (0 : Int) < (j : Int) := by omega
        have hk2 : 0 < j := by omega
        have qk : IntKind.i64.wrap ((j : Int) - 1) = (k : Int) := by rw [show (j : Int) - 1 = (k : Int) by omega]; exact Go.IntWalk.i64_in _ (by omega)
        have qk2 : (j : Int) - 1 = (k : Int) := by omega
        have hy := Lib.hid (List.getElem?_eq_getElem hk0)
        obtain ⟨ad2, he2, _, p0⟩ := H.at_ hy.out
        obtain rfl := Option.some.inj he2
        have hlt := hn.2 k _ hjk hy.out
        generalize l[k] = y at *
        have hltb : decide (x ≤ y) = false := decide_eq_false (by omega)
        have QK := Lib.hid qk
        have QK2 := Lib.hid qk2
        clear h0 hjk qk qk2 hn
        go_wp2_with fail
        refine (lnum_any _ HN).mono ?_
        rintro e w1 ⟨rfl, rfl⟩
        have qk := QK.out
        have qk2 := QK2.out
        go_wp2
        clear qk qk2
        go_roundg (l.length - (j + 1))
        case measure => omega
        case rel => exact ⟨j + 1, by omega, by go_num, by first | rfl | trivial⟩
    · have hge : l.length ≤ j := by omega
      have hge2 : decide (j < l.length) = false := decide_eq_false (by omega)
      clear hj hj0
      obtain ⟨w0, rfl⟩ : ∃ w0 : World, w0 = wr := ⟨_, rfl⟩
      have HOWN := SOwn.nil w0 w0.heap.size
      go_wp2
      go_loopg [6, 7] l.length (fun k p i wo => ∃ (j : Nat) (A8 : Option Addr) (c8 : Nat) (ps : List (List UInt8)), j + k = l.length ∧ i = .int .i64 (j : Int) ∧ p = .slice A8 ps.length c8 ∧ SOwn wo w0.heap.size A8 c8 ps ∧ Hid (ps ++ (runsOf (l.drop j)).map runT = (runsOf l).map runT) ∧ ps.length ≤ j ∧ Hid (ps = [] → A8 = none ∧ c8 = 0) ∧ Below w0.heap.size w0 wo)
      case atStart => exact ⟨0, none, 0, [], by omega, rfl, rfl, HOWN, Lib.hid (by simp), by simp, Lib.hid (fun _ => ⟨rfl, rfl⟩), Below.refl _ _⟩
      case round =>
        clear HOWN
        obtain ⟨j, A8, c8, ps, hj, rfl, rfl, HOWN, hps, hpl, hnil, hbo⟩ := hrel
        obtain ⟨wo, rfl⟩ : ∃ wo : World, wo = wr := ⟨_, rfl⟩
        by_cases hj0 : j < l.length
        · have hx := Lib.hid (List.getElem?_eq_getElem hj0)
          have hxr := (HA.out j _ hx.out).1
          generalize l[j] = x at *
          have HG : Hid (runsOf (l.drop j) = grp x x (l.drop (j + 1))) := Lib.hid (by rw [drop_at hx.out]; rfl)
          have hwr : IntKind.i64.wrap ((j : Int)) = (j : Int) := Go.IntWalk.i64_in _ (by omega)
          clear hwr
          go_wp2
          go_loopg [8] (l.length - j) (fun k i wi => ∃ (m : Nat) (y : Int), m + k = l.length ∧ j ≤ m ∧ m < l.length ∧ i = .int .i64 (m : Int) ∧ Hid (l[m]? = some y) ∧ Hid (runsOf (l.drop j) = grp x y (l.drop (m + 1))) ∧ SOwn wi w0.heap.size A8 c8 ps ∧ Below w0.heap.size w0 wi)
          case atStart => exact ⟨j, x, by omega, Nat.le_refl _, hj0, rfl, hx, HG, HOWN, hbo⟩
          case round =>
            clear HOWN hbo HG
            obtain ⟨m, y, hm, hjm, hml, rfl, hy, HG, HOWN, hbo⟩ := hrel
            have HI := H.ext hbo
            obtain ⟨ad, rfl, _, c0⟩ := HI.at_ hx.out
            obtain ⟨ad2, he2, _, p0⟩ := HI.at_ hy.out
            obtain rfl := Option.some.inj he2
            have hyr := (HA.out m _ hy.out).1
            have w1 : IntKind.i64.wrap ((m : Int) + 1) = (m : Int) + 1 := Go.IntWalk.i64_in _ (by omega)
            have W1 := Lib.hid w1
            have wx : IntKind.i64.wrap (y + 1) = y + 1 := Go.IntWalk.i64_in _ (by omega)
            have WX := Lib.hid wx
            clear w1 wx
            by_cases hz0 : m + 1 < l.length
            · have hz := Lib.hid (List.getElem?_eq_getElem hz0)
              obtain ⟨ad3, he3, _, z0⟩ := HI.at_ hz.out
              obtain rfl := Option.some.inj he3
              have hzr := (HA.out (m + 1) _ hz.out).1
              generalize l[m + 1] = z at *
              have z0s : wr.cell? ⟨ad.block, ad.off + (m + 1), none⟩ = some (.int .i64 z) := by simpa [Addr.add] using z0
              have wz : (m : Int) + 1 < (l.length : Int) := by omega
              have wy : (0 : Int) ≤ (m : Int) + 1 := by omega
              have wn : ((m : Int) + 1).toNat = m + 1 := by omega
              have wm : (m : Int) < (l.length : Int) := by omega
              have wm0 : (0 : Int) ≤ (m : Int) := by omega
              by_cases hzy : z = y + 1
              · have dz1 : (z == y + 1) = true := beq_iff_eq.2 hzy
                have hz2 : Hid (l[m + 1]? = some z) := hz
                have HG2 : Hid (runsOf (l.drop j) = grp x z (l.drop (m + 1 + 1))) := Lib.hid (by rw [HG.out, drop_at hz.out, grp, if_pos hzy])
                clear hzy
                have w1 := W1.out
                have wx := WX.out
                go_upto_region 11 with fail
                go_quiet (fail)
                clear w1 wx wn
                go_wp2
                go_roundg (l.length - (m + 1))
                case measure => omega
                case rel => exact ⟨m + 1, z, by omega, by omega, by omega, by go_num, hz2, HG2, HOWN.ext (drew_below (Below.refl _ _) nq), drew_below hbo _⟩
              · have dz1 : (z == y + 1) = false := beq_eq_false_iff_ne.2 hzy
                have HD : Hid (runsOf (l.drop j) = (x, y) :: runsOf (l.drop (m + 1))) := Lib.hid (by rw [HG.out, drop_at hz.out, grp, if_neg hzy]; rfl)
                clear hzy
                have w1 := W1.out
                have wx := WX.out
                go_upto_region 11 with fail
                go_quiet (fail)
                clear w1 wx wn wz wy wm wm0 z0s z0 dz1 HG
                replace HOWN := HOWN.ext (drew_below (Below.refl _ _) nq)
                replace hbo := drew_below hbo nq
                generalize wr.drewN nq = wi at *
                obtain ⟨P, hP⟩ : ∃ P, dz x = P := ⟨_, rfl⟩
                have hPl : P.length ≤ 3 := hP ▸ dz_len (by omega) (by omega) (by omega)
                have hsP : (str P).size = P.length := str_size P
                have HP := Lib.hid hP
                clear hP p0 c0
                have HI := H.ext hbo
                obtain ⟨ad2, he2, _, c0⟩ := HI.at_ hx.out
                obtain rfl := Option.some.inj he2
                go_wp2_with fail
                refine (itoa_h _ HP (by omega) (by omega) (hT0.ext hbo)).mono ?_
                rintro e w5 ⟨rfl, hb⟩
                clear c0
                replace HOWN := HOWN.ext hb
                replace hbo := bel_trans hbo hb
                clear hb HI
                by_cases hjm2 : j = m
                · subst hjm2
                  obtain rfl : x = y := Option.some.inj (hx.out.symm.trans hy.out)
                  have HT9 : Hid (Value.string (str P) = Value.string (str (runT (x, x)))) := Lib.hid (by rw [runT, if_pos rfl, HP.out])
                  have hps3 : Hid ((ps ++ [runT (x, x)]) ++ (runsOf (l.drop (j + 1))).map runT = (runsOf l).map runT) := Lib.hid (by rw [← hps.out, HD.out, List.map_cons, List.append_assoc]; rfl)
                  go_wp2_with (at_builtin; refine wp_push ES _ rfl _ _ rfl rfl rfl HOWN (by rfl) (by omega) (by omega) hbo.size ?_)
                  intro A9 c9 w9 hown9 hgr hbl hlt
                  rw [HT9.out] at hown9
                  replace hown9 := SOwn.snoc hown9 rfl
                  have hbo9 := hbo.trans hbl
                  clear HOWN hgr hbl hlt HT9
                  go_wp2
                  go_roundg (l.length - (j + 1))
                  case measure => omega
                  case rel => exact ⟨j + 1, A9, c9, ps ++ [runT (x, x)], by omega, by go_num, by rw [List.length_append]; rfl, hown9, hps3, by rw [List.length_append]; simp; omega, Lib.hid (by simp), hbo9⟩
                · have hlt2 : j < m := by omega
                  have hxy := grp_lt HA.out hx.out hy.out hlt2
                  obtain ⟨Q, hQ⟩ : ∃ Q, dz y = Q := ⟨_, rfl⟩
                  have hQl : Q.length ≤ 3 := hQ ▸ dz_len (by omega) (by omega) (by omega)
                  have hsQ : (str Q).size = Q.length := str_size Q
                  have hT9 : Value.string (str P ++ ((⟨#[45]⟩ : ByteArray) ++ str Q)) = Value.string (str (runT (x, y))) := by
                    rw [runT, if_neg (by omega), HP.out, hQ, show (⟨#[45]⟩ : ByteArray) = str [45] from rfl, str_append, str_append]; rfl
                  have HQ := Lib.hid hQ
                  have HT9 := Lib.hid hT9
                  clear hQ hT9 hjm2
                  have HI := H.ext hbo
                  obtain ⟨ad2, he2, _, c0⟩ := HI.at_ hy.out
                  obtain rfl := Option.some.inj he2
                  go_wp2_with fail
                  refine (itoa_h _ HQ (by omega) (by omega) (hT0.ext hbo)).mono ?_
                  rintro e w6 ⟨rfl, hb⟩
                  clear c0
                  replace HOWN := HOWN.ext hb
                  replace hbo := bel_trans hbo hb
                  clear hb HI
                  have hps3 : Hid ((ps ++ [runT (x, y)]) ++ (runsOf (l.drop (m + 1))).map runT = (runsOf l).map runT) := Lib.hid (by rw [← hps.out, HD.out, List.map_cons, List.append_assoc]; rfl)
                  go_wp2_with (at_builtin; refine wp_push ES _ rfl _ _ rfl rfl rfl HOWN (by rfl) (by omega) (by omega) hbo.size ?_)
                  intro A9 c9 w9 hown9 hgr hbl hlt
                  rw [HT9.out] at hown9
                  replace hown9 := SOwn.snoc hown9 rfl
                  have hbo9 := hbo.trans hbl
                  clear HOWN hgr hbl hlt HT9
                  go_wp2
                  go_roundg (l.length - (m + 1))
                  case measure => omega
                  case rel => exact ⟨m + 1, A9, c9, ps ++ [runT (x, y)], by omega, by go_num, by rw [List.length_append]; rfl, hown9, hps3, by rw [List.length_append]; simp; omega, Lib.hid (by simp), hbo9⟩
            · have wz : decide ((m : Int) + 1 < (l.length : Int)) = false := decide_eq_false (by omega)
              have HD : Hid (runsOf (l.drop j) = (x, y) :: runsOf (l.drop (m + 1))) := Lib.hid (by rw [HG.out, List.drop_eq_nil_of_le (show l.length ≤ m + 1 by omega)]; rfl)
              have w1 := W1.out
              go_upto_region 11 with fail
              go_quiet (fail)
              clear w1 wz HG
              replace HOWN := HOWN.ext (drew_below (Below.refl _ _) nq)
              replace hbo := drew_below hbo nq
              generalize wr.drewN nq = wi at *
              obtain ⟨P, hP⟩ : ∃ P, dz x = P := ⟨_, rfl⟩
              have hPl : P.length ≤ 3 := hP ▸ dz_len (by omega) (by omega) (by omega)
              have hsP : (str P).size = P.length := str_size P
              have HP := Lib.hid hP
              clear hP p0 c0
              have HI := H.ext hbo
              obtain ⟨ad2, he2, _, c0⟩ := HI.at_ hx.out
              obtain rfl := Option.some.inj he2
              go_wp2_with fail
              refine (itoa_h _ HP (by omega) (by omega) (hT0.ext hbo)).mono ?_
              rintro e w5 ⟨rfl, hb⟩
              clear c0
              replace HOWN := HOWN.ext hb
              replace hbo := bel_trans hbo hb
              clear hb HI
              by_cases hjm2 : j = m
              · subst hjm2
                obtain rfl : x = y := Option.some.inj (hx.out.symm.trans hy.out)
                have HT9 : Hid (Value.string (str P) = Value.string (str (runT (x, x)))) := Lib.hid (by rw [runT, if_pos rfl, HP.out])
                have hps3 : Hid ((ps ++ [runT (x, x)]) ++ (runsOf (l.drop (j + 1))).map runT = (runsOf l).map runT) := Lib.hid (by rw [← hps.out, HD.out, List.map_cons, List.append_assoc]; rfl)
                go_wp2_with (at_builtin; refine wp_push ES _ rfl _ _ rfl rfl rfl HOWN (by rfl) (by omega) (by omega) hbo.size ?_)
                intro A9 c9 w9 hown9 hgr hbl hlt
                rw [HT9.out] at hown9
                replace hown9 := SOwn.snoc hown9 rfl
                have hbo9 := hbo.trans hbl
                clear HOWN hgr hbl hlt HT9
                go_wp2
                go_roundg (l.length - (j + 1))
                case measure => omega
                case rel => exact ⟨j + 1, A9, c9, ps ++ [runT (x, x)], by omega, by go_num, by rw [List.length_append]; rfl, hown9, hps3, by rw [List.length_append]; simp; omega, Lib.hid (by simp), hbo9⟩
              · have hlt2 : j < m := by omega
                have hxy := grp_lt HA.out hx.out hy.out hlt2
                obtain ⟨Q, hQ⟩ : ∃ Q, dz y = Q := ⟨_, rfl⟩
                have hQl : Q.length ≤ 3 := hQ ▸ dz_len (by omega) (by omega) (by omega)
                have hsQ : (str Q).size = Q.length := str_size Q
                have hT9 : Value.string (str P ++ ((⟨#[45]⟩ : ByteArray) ++ str Q)) = Value.string (str (runT (x, y))) := by
                  rw [runT, if_neg (by omega), HP.out, hQ, show (⟨#[45]⟩ : ByteArray) = str [45] from rfl, str_append, str_append]; rfl
                have HQ := Lib.hid hQ
                have HT9 := Lib.hid hT9
                clear hQ hT9 hjm2
                have HI := H.ext hbo
                obtain ⟨ad2, he2, _, c0⟩ := HI.at_ hy.out
                obtain rfl := Option.some.inj he2
                go_wp2_with fail
                refine (itoa_h _ HQ (by omega) (by omega) (hT0.ext hbo)).mono ?_
                rintro e w6 ⟨rfl, hb⟩
                clear c0
                replace HOWN := HOWN.ext hb
                replace hbo := bel_trans hbo hb
                clear hb HI
                have hps3 : Hid ((ps ++ [runT (x, y)]) ++ (runsOf (l.drop (m + 1))).map runT = (runsOf l).map runT) := Lib.hid (by rw [← hps.out, HD.out, List.map_cons, List.append_assoc]; rfl)
                go_wp2_with (at_builtin; refine wp_push ES _ rfl _ _ rfl rfl rfl HOWN (by rfl) (by omega) (by omega) hbo.size ?_)
                intro A9 c9 w9 hown9 hgr hbl hlt
                rw [HT9.out] at hown9
                replace hown9 := SOwn.snoc hown9 rfl
                have hbo9 := hbo.trans hbl
                clear HOWN hgr hbl hlt HT9
                go_wp2
                go_roundg (l.length - (m + 1))
                case measure => omega
                case rel => exact ⟨m + 1, A9, c9, ps ++ [runT (x, y)], by omega, by go_num, by rw [List.length_append]; rfl, hown9, hps3, by rw [List.length_append]; simp; omega, Lib.hid (by simp), hbo9⟩
        · have hps2 := hps.out
          rw [List.drop_eq_nil_of_le (show l.length ≤ j by omega), runsOf, List.map_nil, List.append_nil] at hps2
          have HJ : Hid (joinT ps = T) := Lib.hid (by rw [hps2, ← hT.out]; rfl)
          clear hps2
          go_wp2_with fail
          refine (join_h HOWN HJ hnil.out (by omega) (by omega)).mono ?_
          rintro e w9 ⟨rfl, hb⟩
          go_wp2
          go_ret2
          exact ⟨by first | rfl | simp [str], bel_trans hbo hb⟩
theorem lruns_any {T : List UInt8} {E : Int} (A : Option Addr) (c : Nat) (l : List Int) (w : World) (hT0 : Tab w) (H : IEs w A l) (hl : l.length ≤ 9223372036854775807) (hP : PR l T E) :
    Calls Tryd.prog 20 #[.slice A l.length c] w (RetR w T E) := by
  rcases hP with ⟨rfl, h1, h2⟩ | ⟨rfl, rfl, h1⟩
  · exact lruns_ok A c l w hT0 H h1 (Lib.hid h2)
  · exact lruns_bad A c l w H hl h1
end Go.Proofs.YtlnajhochpbgpaaDoor
