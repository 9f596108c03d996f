/- The reference's reader of lists: the numbers of a text, and what it makes of them. -/
import Derived.Test.YtlnajhochpbgpaaDoorLb7
import Derived.Deep.DeepCutAuto
import Derived.Deep.CutBlock
namespace Go.Proofs.YtlnajhochpbgpaaDoor
open Go.RowKit Go.Proofs Go

def prevD (L : List UInt8) (j : Nat) : Bool := if j = 0 then false else (match L[j - 1]? with | some b => isDig b | none => false)
theorem prevD_succ {L : List UInt8} {j : Nat} {x : UInt8} (h : L[j]? = some x) : prevD L (j + 1) = isDig x := by rw [prevD, if_neg (by omega), Nat.add_sub_cancel, h]
theorem bdrop {L : List UInt8} {j : Nat} {x : UInt8} (h : L[j]? = some x) : L.drop j = x :: L.drop (j + 1) := by
  obtain ⟨hj, rfl⟩ := List.getElem?_eq_some_iff.1 h
  exact List.drop_eq_getElem_cons hj
set_option maxHeartbeats 4000000 in
set_option maxRecDepth 100000 in
theorem rnums_any {L : List UInt8} {N : List Int} (w : World) (hN : Hid (numsOf false L = N)) (hL : L.length ≤ 20000) :
    Calls Tryd.prog 44 #[.string (str L)] w fun e w' => ∃ A c, e = .returned (.slice A N.length c) ∧ IEs w' A N ∧ Below w.heap.size w w' := by
  have hsz : (str L).size = L.length := str_size L
  have hNl : N.length ≤ L.length := by rw [← hN.out]; exact numsOf_len L false
  have HOWN := IOwn.nil w w.heap.size
  go_enter Tryd.func44, Tryd.ntmps44
  go_wp2
  go_loopg [3, 4] L.length (fun k u i wr => ∃ (j : Nat) (A8 : Option Addr) (c8 : Nat) (out : List Int), j + k = L.length ∧ i = .int .i64 (j : Int) ∧ u = .slice A8 out.length c8 ∧ IOwn wr w.heap.size A8 c8 out ∧ Hid (out ++ numsOf (prevD L j) (L.drop j) = N) ∧ Below w.heap.size w wr)
  case atStart => exact ⟨0, none, 0, [], by omega, rfl, rfl, HOWN, hN, Below.refl _ _⟩
  case round =>
    clear HOWN
    obtain ⟨j, A8, c8, out, hj, rfl, rfl, HOWN, hout, hbo⟩ := hrel
    have hol : out.length ≤ 20000 := by have := congrArg List.length hout.out; rw [List.length_append] at this; omega
    by_cases hj0 : j < L.length
    · have hix : ∀ h, (str L)[j]'h = L[j]'hj0 := fun _ => rfl
      have hx := Lib.hid (List.getElem?_eq_getElem hj0)
      have hout2 := hout.out
      rw [bdrop hx.out, numsOf] at hout2
      have hps := Lib.hid (prevD_succ hx.out)
      have hdr : Hid (L.drop j = L[j] :: L.drop (j + 1)) := Lib.hid (bdrop hx.out)
      generalize L[j] = x at *
      by_cases hd : isDig x = true
      · have hd2 := isDig_iff.1 hd
        have h48 : 48 ≤ x.toNat := hd2.1
        have h57 : x.toNat ≤ 57 := hd2.2
        clear hd2
        by_cases hp : prevD L j = true
        · -- the byte before is a digit
          have hnx : Hid (out ++ numsOf (prevD L (j + 1)) (L.drop (j + 1)) = N) := Lib.hid (by rw [hps.out, hd]; rw [hp, hd] at hout2; simpa using hout2)
          obtain ⟨k, hjk, hyd⟩ : ∃ k, j = k + 1 ∧ ∃ y, L[k]? = some y ∧ isDig y = true := by
            rw [prevD] at hp
            split at hp
            · cases hp
            · next h =>
              refine ⟨j - 1, by omega, ?_⟩
              split at hp
              · next y hy => exact ⟨y, hy, hp⟩
              · cases hp
          obtain ⟨y, hy, hyd⟩ := hyd
          obtain ⟨hk0, hky⟩ := List.getElem?_eq_some_iff.1 hy
          have hixk : ∀ h, (str L)[k]'h = y := fun _ => hky
          have hy2 := isDig_iff.1 hyd
          have hy48 : 48 ≤ y.toNat := hy2.1
          have hy57 : y.toNat ≤ 57 := hy2.2
          have qk : IntKind.i64.wrap ((j : Int) - 1) = (k : Int) := by rw [show (j : Int) - 1 = (k : Int) by omega]; exact Go.IntWalk.i64_in _ (by omega)
          have qk2 : (j : Int) - 1 = (k : Int) := by omega
          have hj2 : ((j : Int) == 0) = false := beq_eq_false_iff_ne.2 (by omega)
          clear hy2 hyd hy hky hjk hp hd hout hout2
          go_wp2
          clear qk qk2
          go_roundg (L.length - (j + 1))
          case measure => omega
          case rel => exact ⟨j + 1, A8, c8, out, by omega, by go_num, rfl, HOWN, hnx, hbo⟩
        · have hp2 : prevD L j = false := by simpa using hp
          obtain ⟨v, hv⟩ : ∃ v, (numK 3 (L.drop j) 0).1 = v := ⟨_, rfl⟩
          have hnx : Hid ((out ++ [(v : Int)]) ++ numsOf (prevD L (j + 1)) (L.drop (j + 1)) = N) := Lib.hid (by
            rw [hp2, hd, ← hdr.out, hv] at hout2
            rw [hps.out, hd]
            simpa using hout2)
          have HV := Lib.hid hv
          have hxs : (str L).extract j L.length = str (L.drop j) := str_drop L j
          have hdl : (L.drop j).length ≤ 1000000000 := by rw [List.length_drop]; omega
          have hbs := hbo.size
          clear hv hout hout2 hp
          by_cases h0 : j = 0
          · subst h0
            clear hp2
            go_wp2_with fail
            refine (rnum_any _ HV hdl).mono ?_
            rintro e w3 ⟨rfl, rfl⟩
            go_wp2_with (at_builtin; refine wp_push EI _ rfl _ _ rfl rfl rfl HOWN (by rfl) (by omega) (by omega) hbs ?_)
            intro A7 c7 w7 hown7 hgr hbl hlt
            replace hown7 := IOwn.snoc hown7 rfl
            have hbo7 := hbo.trans hbl
            clear hgr hbl hlt HOWN
            go_wp2
            go_roundg (L.length - (0 + 1))
            case measure => omega
            case rel => exact ⟨0 + 1, A7, c7, out ++ [(v : Int)], by omega, by go_num, by rw [List.length_append]; rfl, hown7, hnx, hbo7⟩
          · obtain ⟨k, hjk⟩ : ∃ k, j = k + 1 := ⟨j - 1, by omega⟩
            have hk0 : k < L.length := by omega
            have hixk : ∀ h, (str L)[k]'h = L[k]'hk0 := fun _ => rfl
            have hyd : ¬ isDig (L[k]'hk0) = true := by
              rw [prevD, if_neg h0, show j - 1 = k by omega, List.getElem?_eq_getElem hk0] at hp2
              simpa using hp2
            generalize L[k] = y at *
            rw [isDig_iff] at hyd
            have qk : IntKind.i64.wrap ((j : Int) - 1) = (k : Int) := by rw [show (j : Int) - 1 = (k : Int) by omega]; exact Go.IntWalk.i64_in _ (by omega)
            have qk2 : (j : Int) - 1 = (k : Int) := by omega
            have hj2 : ((j : Int) == 0) = false := beq_eq_false_iff_ne.2 (by omega)
            clear hp2 h0 hjk
            have QK := Lib.hid qk
            have QK2 := Lib.hid qk2
            clear qk qk2
            by_cases hy48 : 48 ≤ y.toNat
            · have hy57 : ¬ y.toNat ≤ 57 := fun h => hyd ⟨hy48, h⟩
              clear hyd
              have qk := QK.out
              have qk2 := QK2.out
              go_wp2_with fail
              refine (rnum_any _ HV hdl).mono ?_
              rintro e w3 ⟨rfl, rfl⟩
              clear qk qk2
              go_wp2_with (at_builtin; refine wp_push EI _ rfl _ _ rfl rfl rfl HOWN (by rfl) (by omega) (by omega) hbs ?_)
              intro A7 c7 w7 hown7 hgr hbl hlt
              replace hown7 := IOwn.snoc hown7 rfl
              have hbo7 := hbo.trans hbl
              clear hgr hbl hlt HOWN
              go_wp2
              go_roundg (L.length - (j + 1))
              case measure => omega
              case rel => exact ⟨j + 1, A7, c7, out ++ [(v : Int)], by omega, by go_num, by rw [List.length_append]; rfl, hown7, hnx, hbo7⟩
            · clear hyd
              have qk := QK.out
              have qk2 := QK2.out
              go_wp2_with fail
              refine (rnum_any _ HV hdl).mono ?_
              rintro e w3 ⟨rfl, rfl⟩
              clear qk qk2
              go_wp2_with (at_builtin; refine wp_push EI _ rfl _ _ rfl rfl rfl HOWN (by rfl) (by omega) (by omega) hbs ?_)
              intro A7 c7 w7 hown7 hgr hbl hlt
              replace hown7 := IOwn.snoc hown7 rfl
              have hbo7 := hbo.trans hbl
              clear hgr hbl hlt HOWN
              go_wp2
              go_roundg (L.length - (j + 1))
              case measure => omega
              case rel => exact ⟨j + 1, A7, c7, out ++ [(v : Int)], by omega, by go_num, by rw [List.length_append]; rfl, hown7, hnx, hbo7⟩
      · have hd2 : isDig x = false := by simpa using hd
        have hnx : Hid (out ++ numsOf (prevD L (j + 1)) (L.drop (j + 1)) = N) := Lib.hid (by rw [hps.out, hd2]; rw [hd2] at hout2; simpa using hout2)
        rw [isDig_iff] at hd
        clear hout hout2 hd2
        by_cases h48 : 48 ≤ x.toNat
        · have h57 : ¬ x.toNat ≤ 57 := fun h => hd ⟨h48, h⟩
          clear hd
          go_wp2
          go_roundg (L.length - (j + 1))
          case measure => omega
          case rel => exact ⟨j + 1, A8, c8, out, by omega, by go_num, rfl, HOWN, hnx, hbo⟩
        · clear hd
          go_wp2
          go_roundg (L.length - (j + 1))
          case measure => omega
          case rel => exact ⟨j + 1, A8, c8, out, by omega, by go_num, rfl, HOWN, hnx, hbo⟩
    · have hout2 := hout.out
      rw [List.drop_eq_nil_of_le (show L.length ≤ j by omega), numsOf, List.append_nil] at hout2
      clear hout
      subst hout2
      go_wp2
      go_ret
      exact ⟨A8, c8, rfl, HOWN.es, hbo⟩
theorem midQ_bd {e : Int} {h : Option UInt8} {es : List Int} (he : 0 ≤ e) (hes : ∀ x ∈ es, x ≤ 999) : (midQ e h es).length ≤ 999 := by
  rw [midQ]
  split
  · cases es with
    | nil => simp
    | cons x r => have := hes x List.mem_cons_self; simp only [List.head?_cons, rng_len]; omega
  · simp
theorem PX.readQ {L T : List UInt8} {l m : List Int} {E F : Int} (h : PX L l E) (hC : expQ (numsOf false L) L [] = m) (hm : PR m T F) : (F = 0 ∧ T = L ∧ l = m ∧ E = 0) ∨ (¬ (F = 0 ∧ T = L) ∧ l = [] ∧ E = 3) := by
  have hr := h.read hm fun k hk e => by
    have := expQ_text hk
    rw [e, hC] at this
    exact this
  by_cases hc : F = 0 ∧ T = L
  · exact .inl ⟨hc.1, hc.2, hr.1 hc⟩
  · exact .inr ⟨hc, hr.2 hc⟩
set_option maxHeartbeats 16000000 in
set_option maxRecDepth 100000 in
theorem rexp_any {L : List UInt8} {l : List Int} {E : Int} (w : World) (hl : L.length ≤ 20000) (hP : PX L l E) : Calls Tryd.prog 24 #[.string (str L)] w (RetX w l E) := by
  replace hP := Lib.hid hP
  have hsz : (str L).size = L.length := str_size L
  obtain ⟨es, hes⟩ : ∃ es, numsOf false L = es := ⟨_, rfl⟩
  have hel : es.length ≤ 20000 := by have := numsOf_len L false; rw [hes] at this; omega
  have HEB : Hid (∀ x ∈ es, 0 ≤ x ∧ x ≤ 999) := Lib.hid (by rw [← hes]; exact numsOf_bd L false)
  obtain ⟨C, hC⟩ : ∃ C, expQ es L [] = C := ⟨_, rfl⟩
  have HCL : Hid (expQ (numsOf false L) L [] = C) := Lib.hid (by rw [hes, hC])
  have HES := Lib.hid hes
  have HC : Hid (expQ (es.drop 0) (L.drop 0) [] = C) := Lib.hid hC
  clear hes hC
  go_enter Tryd.func24, Tryd.ntmps24
  go_wp2_with fail
  refine (rnums_any _ HES hl).mono ?_
  rintro e w1 ⟨A5, c5, rfl, HI, hb1⟩
  have HOWN := IOwn.nil w1 w1.heap.size
  go_wp2
  go_loopg [4, 6, 7] es.length (fun k u x i wr => ∃ (j a : Nat) (A8 : Option Addr) (c8 : Nat) (out : List Int), j + k = es.length ∧ i = .int .i64 (j : Int) ∧ x = .int .i64 (a : Int) ∧ a ≤ L.length ∧ u = .slice A8 out.length c8 ∧ IOwn wr w1.heap.size A8 c8 out ∧ Hid (expQ (es.drop j) (L.drop a) out = C) ∧ out.length ≤ j * 1000 ∧ Below w1.heap.size w1 wr)
  case atStart => exact ⟨0, 0, none, 0, [], by omega, rfl, rfl, by omega, rfl, HOWN, HC, by simp, Below.refl _ _⟩
  case round =>
    clear HOWN HC
    obtain ⟨j, a, A8, c8, out, hj, rfl, rfl, ha, rfl, HOWN, HC, hol, hbo⟩ := hrel
    by_cases hj0 : j < es.length
    · have hx := Lib.hid (List.getElem?_eq_getElem hj0)
      have hxb := HEB.out _ (List.getElem_mem hj0)
      obtain ⟨ad, rfl, _, c0⟩ := (HI.ext hbo).at_ hx.out
      have hdr : Hid (es.drop j = es[j] :: es.drop (j + 1)) := Lib.hid (List.drop_eq_getElem_cons hj0)
      generalize es[j] = e at *
      obtain ⟨D1, hD1⟩ : ∃ D1, (L.drop a).dropWhile isDig = D1 := ⟨_, rfl⟩
      obtain ⟨M, hM⟩ : ∃ M, midQ e D1.head? (es.drop (j + 1)) = M := ⟨_, rfl⟩
      have hMl : M.length ≤ 999 := by rw [← hM]; exact midQ_bd hxb.1 (fun x hx => (HEB.out x (List.mem_of_mem_drop hx)).2)
      have HC2 : Hid (expQ (es.drop (j + 1)) (D1.dropWhile notDig) (out ++ [e] ++ M) = C) := Lib.hid (by rw [← HC.out, hdr.out, expQ, hD1, hM])
      have HM := Lib.hid hM
      have HD1 := Lib.hid hD1
      clear hM hD1 HC
      have hol2 : out.length ≤ 20000000 := by
        have : j * 1000 ≤ 20000 * 1000 := Nat.mul_le_mul_right _ (by omega)
        omega
      have hbs := hbo.size
      go_wp2_with (at_builtin; refine wp_push EI _ rfl _ _ rfl rfl rfl HOWN (by rfl) (by omega) (by omega) hbs ?_)
      intro A7 c7 w7 hown7 hgr hbl hlt
      replace hown7 := IOwn.snoc hown7 rfl
      have hbo7 := hbo.trans hbl
      clear hgr hbl hlt HOWN hbs c0
      go_upto_block 2 with fail
      go_cut [6] (fun x wx => ∃ a1 : Nat, x = .int .i64 (a1 : Int) ∧ a1 ≤ L.length ∧ Hid (L.drop a1 = D1) ∧ IOwn wx w1.heap.size A7 c7 (out ++ [e]) ∧ Below w1.heap.size w1 wx)
      case first =>
        go_wp2_with fail
        go_loopg [6] (L.length - a) (fun k x wr => ∃ a1 : Nat, a1 + k = L.length ∧ x = .int .i64 (a1 : Int) ∧ Hid ((L.drop a1).dropWhile isDig = D1) ∧ wr = w7)
        case atStart => exact ⟨a, by omega, rfl, HD1, rfl⟩
        case round =>
          obtain ⟨a1, ha1, rfl, hd1, rfl⟩ := hrel
          by_cases h0 : a1 < L.length
          · have hix : ∀ h, (str L)[a1]'h = L[a1]'h0 := fun _ => rfl
            have hd2 := hd1.out
            have hdrop := bdrop (List.getElem?_eq_getElem h0)
            rw [hdrop, List.dropWhile_cons] at hd2
            generalize L[a1] = x at *
            by_cases hd : isDig x = true
            · rw [if_pos hd] at hd2
              rw [isDig_iff] at hd
              obtain ⟨h48, h57⟩ := hd
              have HD2 := Lib.hid hd2
              clear hd2 hdrop hd1
              go_wp2
              go_roundg (L.length - (a1 + 1))
              case measure => omega
              case rel => exact ⟨a1 + 1, by omega, by go_num, HD2, by first | rfl | trivial⟩
            · rw [if_neg hd, ← hdrop] at hd2
              rw [isDig_iff] at hd
              have HD2 := Lib.hid hd2
              clear hd2 hdrop hd1
              by_cases h48 : 48 ≤ x.toNat
              · have h57 : ¬ x.toNat ≤ 57 := fun h => hd ⟨h48, h⟩
                clear hd
                go_wp2
                go_meet
                case rel => exact ⟨a1, rfl, by omega, HD2, hown7, hbo7⟩
              · clear hd
                go_wp2
                go_meet
                case rel => exact ⟨a1, rfl, by omega, HD2, hown7, hbo7⟩
          · have HD2 : Hid (L.drop a1 = D1) := Lib.hid (by have := hd1.out; rw [List.drop_eq_nil_of_le (show L.length ≤ a1 by omega)] at this ⊢; exact this)
            clear hd1
            go_wp2
            go_meet
            case rel => exact ⟨a1, rfl, by omega, HD2, hown7, hbo7⟩
      case rest =>
        clear hown7 hbo7
        obtain ⟨a1, rfl, ha1, hd1, hown7, hbo7⟩ := hcut
        obtain ⟨D2, hD2⟩ : ∃ D2, D1.dropWhile notDig = D2 := ⟨_, rfl⟩
        have HD2 : Hid ((L.drop a1).dropWhile notDig = D2) := Lib.hid (by rw [hd1.out, hD2])
        have HC3 : Hid (expQ (es.drop (j + 1)) D2 (out ++ [e] ++ M) = C) := Lib.hid (by rw [← HC2.out, hD2])
        clear hD2 HC2
        by_cases h0 : a1 < L.length
        · have hix : ∀ h, (str L)[a1]'h = L[a1]'h0 := fun _ => rfl
          have hdrop := bdrop (List.getElem?_eq_getElem h0)
          have HH : Hid (D1.head? = some (L[a1]'h0)) := Lib.hid (by rw [← hd1.out, hdrop]; rfl)
          clear hdrop
          generalize L[a1] = x at *
          by_cases hx45 : x = 45
          · have hxb45 : (((x.toNat : Nat) : Int) == 45) = true := by rw [hx45]; rfl
            by_cases hz0 : j + 1 < es.length
            · have wz : (j : Int) + 1 < (es.length : Int) := by omega
              have hz := Lib.hid (List.getElem?_eq_getElem hz0)
              have hzb := HEB.out _ (List.getElem_mem hz0)
              have HM2 : Hid (M = rng (e + 1) (es[j + 1] - 1)) := Lib.hid (by rw [← HM.out, HH.out, hx45, midQ, if_pos rfl, List.head?_drop, hz.out])
              generalize es[j + 1] = z at *
              clear hx45 HM HH
              obtain ⟨ad2, he2, _, c0⟩ := (HI.ext hbo7).at_ hx.out
              obtain rfl := Option.some.inj he2
              go_wp2
              go_loopg [4, 8] (z - (e + 1)).toNat (fun k u i wi => ∃ (n : Int) (A9 : Option Addr) (c9 : Nat) (o : List Int), (z - n).toNat = k ∧ e + 1 ≤ n ∧ n ≤ 1000 ∧ i = .int .i64 n ∧ u = .slice A9 o.length c9 ∧ Hid (o = out ++ [e] ++ rng (e + 1) (n - 1)) ∧ IOwn wi w1.heap.size A9 c9 o ∧ Below w1.heap.size w1 wi ∧ (n ≤ z ∨ z < e + 1 ∧ n = e + 1))
              case atStart => exact ⟨e + 1, A7, c7, out ++ [e], rfl, by omega, by omega, rfl, by rw [List.length_append]; rfl, Lib.hid (by rw [rng_none (show e + 1 - 1 < e + 1 by omega), List.append_nil]), hown7, hbo7, by omega⟩
              case round =>
                clear hown7 hbo7 c0
                obtain ⟨n, A9, c9, o, hk, hn1, hn2, rfl, rfl, ho, HOWN, hbo9, hn3⟩ := hrel
                obtain ⟨ad3, he3, _, z0⟩ := (HI.ext hbo9).at_ hz.out
                obtain rfl := Option.some.inj he3
                have z0s : wr.cell? ⟨ad.block, ad.off + (j + 1), none⟩ = some (.int .i64 z) := by simpa [Addr.add] using z0
                by_cases hnz : n < z
                · have ho2 : Hid (o ++ [n] = out ++ [e] ++ rng (e + 1) (n + 1 - 1)) := Lib.hid (by
                    have h1 := rng_snoc (a := e + 1) (b := n - 1) (by omega)
                    rw [show n - 1 + 1 = n by omega] at h1
                    rw [show n + 1 - 1 = n by omega, h1, ho.out, ← List.append_assoc])
                  have hol3 : o.length ≤ 20002000 := by rw [ho.out, List.length_append, List.length_append, rng_len]; simp; omega
                  have hbs9 := hbo9.size
                  go_wp2_with (at_builtin; refine wp_push EI _ rfl _ _ rfl rfl rfl HOWN (by rfl) (by omega) (by omega) hbs9 ?_)
                  intro A6 c6 w6 hown6 hgr hbl hlt
                  replace hown6 := IOwn.snoc hown6 rfl
                  have hbo6 := hbo9.trans hbl
                  clear hgr hbl hlt HOWN hbs9 z0 z0s
                  go_wp2
                  go_roundg (z - (n + 1)).toNat
                  case measure => omega
                  case rel => exact ⟨n + 1, A6, c6, o ++ [n], rfl, by omega, by omega, rfl, by rw [List.length_append]; rfl, ho2, hown6, hbo6, by omega⟩
                · have HO2 : Hid (o = out ++ [e] ++ M) := Lib.hid (by
                    rcases hn3 with h | ⟨h, rfl⟩
                    · rw [ho.out, HM2.out, show n = z by omega]
                    · rw [ho.out, HM2.out, rng_none (show e + 1 - 1 < e + 1 by omega), rng_none (show z - 1 < e + 1 by omega)])
                  have HO : Hid (o = out ++ [e] ++ M) := Lib.hid (HO2.out)
                  have HOL : (o).length ≤ (j + 1) * 1000 := by rw [HO.out, List.length_append, List.length_append, Nat.succ_mul]; simp; omega
                  go_wp2
                  go_loopg [6] (L.length - a1) (fun k x w4 => ∃ a2 : Nat, a2 + k = L.length ∧ x = .int .i64 (a2 : Int) ∧ Hid ((L.drop a2).dropWhile notDig = D2) ∧ IOwn w4 w1.heap.size A9 c9 (o) ∧ Below w1.heap.size w1 w4)
                  case atStart => exact ⟨a1, by omega, rfl, HD2, HOWN, hbo9⟩
                  case round =>
                    obtain ⟨a2, ha2, rfl, hd4, HOWN, hbo4⟩ := hrel
                    by_cases h4 : a2 < L.length
                    · have hix4 : ∀ h, (str L)[a2]'h = L[a2]'h4 := fun _ => rfl
                      have hd5 := hd4.out
                      have hdrop := bdrop (List.getElem?_eq_getElem h4)
                      rw [hdrop, List.dropWhile_cons] at hd5
                      generalize L[a2] = x4 at *
                      by_cases hd : isDig x4 = true
                      · rw [if_neg (show ¬ notDig x4 = true by rw [notDig, hd]; simp), ← hdrop] at hd5
                        have HC5 : Hid (expQ (es.drop (j + 1)) (L.drop a2) (o) = C) := Lib.hid (by rw [hd5, HO.out, HC3.out])
                        rw [isDig_iff] at hd
                        obtain ⟨h48, h57⟩ := hd
                        clear hd5 hdrop hd4
                        go_wp2
                        go_roundg (es.length - (j + 1))
                        case measure => omega
                        case rel => exact ⟨j + 1, a2, A9, c9, o, by omega, by go_num, rfl, by omega, rfl, HOWN, HC5, HOL, hbo4⟩
                      · rw [if_pos (show notDig x4 = true by rw [notDig]; simpa using hd)] at hd5
                        rw [isDig_iff] at hd
                        have HD5 := Lib.hid hd5
                        clear hd5 hdrop hd4
                        by_cases h48 : 48 ≤ x4.toNat
                        · have h57 : ¬ x4.toNat ≤ 57 := fun h => hd ⟨h48, h⟩
                          clear hd
                          go_wp2
                          go_roundg (L.length - (a2 + 1))
                          case measure => omega
                          case rel => exact ⟨a2 + 1, by omega, by go_num, HD5, HOWN, hbo4⟩
                        · clear hd
                          go_wp2
                          go_roundg (L.length - (a2 + 1))
                          case measure => omega
                          case rel => exact ⟨a2 + 1, by omega, by go_num, HD5, HOWN, hbo4⟩
                    · have HC5 : Hid (expQ (es.drop (j + 1)) (L.drop a2) (o) = C) := Lib.hid (by
                        have := hd4.out
                        rw [List.drop_eq_nil_of_le (show L.length ≤ a2 by omega)] at this ⊢
                        rw [HO.out, ← HC3.out, ← this]; rfl)
                      clear hd4
                      go_wp2
                      go_roundg (es.length - (j + 1))
                      case measure => omega
                      case rel => exact ⟨j + 1, a2, A9, c9, o, by omega, by go_num, rfl, by omega, rfl, HOWN, HC5, HOL, hbo4⟩
            · have wz : decide ((j : Int) + 1 < (es.length : Int)) = false := decide_eq_false (by omega)
              have HMN : Hid (M = []) := Lib.hid (by rw [← HM.out, HH.out, hx45, midQ, if_pos rfl, List.head?_drop, List.getElem?_eq_none (show es.length ≤ j + 1 by omega)])
              clear hx45
              have HO : Hid (out ++ [e] = out ++ [e] ++ M) := Lib.hid (by rw [HMN.out, List.append_nil])
              have HOL : (out ++ [e]).length ≤ (j + 1) * 1000 := by rw [HO.out, List.length_append, List.length_append, Nat.succ_mul]; simp; omega
              go_wp2
              go_loopg [6] (L.length - a1) (fun k x w4 => ∃ a2 : Nat, a2 + k = L.length ∧ x = .int .i64 (a2 : Int) ∧ Hid ((L.drop a2).dropWhile notDig = D2) ∧ IOwn w4 w1.heap.size A7 c7 (out ++ [e]) ∧ Below w1.heap.size w1 w4)
              case atStart => exact ⟨a1, by omega, rfl, HD2, hown7, hbo7⟩
              case round =>
                obtain ⟨a2, ha2, rfl, hd4, HOWN, hbo4⟩ := hrel
                by_cases h4 : a2 < L.length
                · have hix4 : ∀ h, (str L)[a2]'h = L[a2]'h4 := fun _ => rfl
                  have hd5 := hd4.out
                  have hdrop := bdrop (List.getElem?_eq_getElem h4)
                  rw [hdrop, List.dropWhile_cons] at hd5
                  generalize L[a2] = x4 at *
                  by_cases hd : isDig x4 = true
                  · rw [if_neg (show ¬ notDig x4 = true by rw [notDig, hd]; simp), ← hdrop] at hd5
                    have HC5 : Hid (expQ (es.drop (j + 1)) (L.drop a2) (out ++ [e]) = C) := Lib.hid (by rw [hd5, HO.out, HC3.out])
                    rw [isDig_iff] at hd
                    obtain ⟨h48, h57⟩ := hd
                    clear hd5 hdrop hd4
                    go_wp2
                    go_roundg (es.length - (j + 1))
                    case measure => omega
                    case rel => exact ⟨j + 1, a2, A7, c7, out ++ [e], by omega, by go_num, rfl, by omega, by rw [List.length_append]; rfl, HOWN, HC5, HOL, hbo4⟩
                  · rw [if_pos (show notDig x4 = true by rw [notDig]; simpa using hd)] at hd5
                    rw [isDig_iff] at hd
                    have HD5 := Lib.hid hd5
                    clear hd5 hdrop hd4
                    by_cases h48 : 48 ≤ x4.toNat
                    · have h57 : ¬ x4.toNat ≤ 57 := fun h => hd ⟨h48, h⟩
                      clear hd
                      go_wp2
                      go_roundg (L.length - (a2 + 1))
                      case measure => omega
                      case rel => exact ⟨a2 + 1, by omega, by go_num, HD5, HOWN, hbo4⟩
                    · clear hd
                      go_wp2
                      go_roundg (L.length - (a2 + 1))
                      case measure => omega
                      case rel => exact ⟨a2 + 1, by omega, by go_num, HD5, HOWN, hbo4⟩
                · have HC5 : Hid (expQ (es.drop (j + 1)) (L.drop a2) (out ++ [e]) = C) := Lib.hid (by
                    have := hd4.out
                    rw [List.drop_eq_nil_of_le (show L.length ≤ a2 by omega)] at this ⊢
                    rw [HO.out, ← HC3.out, ← this]; rfl)
                  clear hd4
                  go_wp2
                  go_roundg (es.length - (j + 1))
                  case measure => omega
                  case rel => exact ⟨j + 1, a2, A7, c7, out ++ [e], by omega, by go_num, rfl, by omega, by rw [List.length_append]; rfl, HOWN, HC5, HOL, hbo4⟩
          · have hxb45 : (((x.toNat : Nat) : Int) == 45) = false := beq_eq_false_iff_ne.2 (fun h => hx45 (UInt8.toNat_inj.1 (show x.toNat = 45 by omega)))
            have HMN : Hid (M = []) := Lib.hid (by rw [← HM.out, HH.out, midQ, if_neg (fun h => hx45 (Option.some.inj h))])
            clear hx45
            have HO : Hid (out ++ [e] = out ++ [e] ++ M) := Lib.hid (by rw [HMN.out, List.append_nil])
            have HOL : (out ++ [e]).length ≤ (j + 1) * 1000 := by rw [HO.out, List.length_append, List.length_append, Nat.succ_mul]; simp; omega
            go_wp2
            go_loopg [6] (L.length - a1) (fun k x w4 => ∃ a2 : Nat, a2 + k = L.length ∧ x = .int .i64 (a2 : Int) ∧ Hid ((L.drop a2).dropWhile notDig = D2) ∧ IOwn w4 w1.heap.size A7 c7 (out ++ [e]) ∧ Below w1.heap.size w1 w4)
            case atStart => exact ⟨a1, by omega, rfl, HD2, hown7, hbo7⟩
            case round =>
              obtain ⟨a2, ha2, rfl, hd4, HOWN, hbo4⟩ := hrel
              by_cases h4 : a2 < L.length
              · have hix4 : ∀ h, (str L)[a2]'h = L[a2]'h4 := fun _ => rfl
                have hd5 := hd4.out
                have hdrop := bdrop (List.getElem?_eq_getElem h4)
                rw [hdrop, List.dropWhile_cons] at hd5
                generalize L[a2] = x4 at *
                by_cases hd : isDig x4 = true
                · rw [if_neg (show ¬ notDig x4 = true by rw [notDig, hd]; simp), ← hdrop] at hd5
                  have HC5 : Hid (expQ (es.drop (j + 1)) (L.drop a2) (out ++ [e]) = C) := Lib.hid (by rw [hd5, HO.out, HC3.out])
                  rw [isDig_iff] at hd
                  obtain ⟨h48, h57⟩ := hd
                  clear hd5 hdrop hd4
                  go_wp2
                  go_roundg (es.length - (j + 1))
                  case measure => omega
                  case rel => exact ⟨j + 1, a2, A7, c7, out ++ [e], by omega, by go_num, rfl, by omega, by rw [List.length_append]; rfl, HOWN, HC5, HOL, hbo4⟩
                · rw [if_pos (show notDig x4 = true by rw [notDig]; simpa using hd)] at hd5
                  rw [isDig_iff] at hd
                  have HD5 := Lib.hid hd5
                  clear hd5 hdrop hd4
                  by_cases h48 : 48 ≤ x4.toNat
                  · have h57 : ¬ x4.toNat ≤ 57 := fun h => hd ⟨h48, h⟩
                    clear hd
                    go_wp2
                    go_roundg (L.length - (a2 + 1))
                    case measure => omega
                    case rel => exact ⟨a2 + 1, by omega, by go_num, HD5, HOWN, hbo4⟩
                  · clear hd
                    go_wp2
                    go_roundg (L.length - (a2 + 1))
                    case measure => omega
                    case rel => exact ⟨a2 + 1, by omega, by go_num, HD5, HOWN, hbo4⟩
              · have HC5 : Hid (expQ (es.drop (j + 1)) (L.drop a2) (out ++ [e]) = C) := Lib.hid (by
                  have := hd4.out
                  rw [List.drop_eq_nil_of_le (show L.length ≤ a2 by omega)] at this ⊢
                  rw [HO.out, ← HC3.out, ← this]; rfl)
                clear hd4
                go_wp2
                go_roundg (es.length - (j + 1))
                case measure => omega
                case rel => exact ⟨j + 1, a2, A7, c7, out ++ [e], by omega, by go_num, rfl, by omega, by rw [List.length_append]; rfl, HOWN, HC5, HOL, hbo4⟩
        · have HMN : Hid (M = []) := Lib.hid (by
            rw [← HM.out, ← hd1.out, List.drop_eq_nil_of_le (show L.length ≤ a1 by omega), midQ]; rfl)
          have HO : Hid (out ++ [e] = out ++ [e] ++ M) := Lib.hid (by rw [HMN.out, List.append_nil])
          have HOL : (out ++ [e]).length ≤ (j + 1) * 1000 := by rw [HO.out, List.length_append, List.length_append, Nat.succ_mul]; simp; omega
          go_wp2
          go_loopg [6] (L.length - a1) (fun k x w4 => ∃ a2 : Nat, a2 + k = L.length ∧ x = .int .i64 (a2 : Int) ∧ Hid ((L.drop a2).dropWhile notDig = D2) ∧ IOwn w4 w1.heap.size A7 c7 (out ++ [e]) ∧ Below w1.heap.size w1 w4)
          case atStart => exact ⟨a1, by omega, rfl, HD2, hown7, hbo7⟩
          case round =>
            obtain ⟨a2, ha2, rfl, hd4, HOWN, hbo4⟩ := hrel
            by_cases h4 : a2 < L.length
            · have hix4 : ∀ h, (str L)[a2]'h = L[a2]'h4 := fun _ => rfl
              have hd5 := hd4.out
              have hdrop := bdrop (List.getElem?_eq_getElem h4)
              rw [hdrop, List.dropWhile_cons] at hd5
              generalize L[a2] = x4 at *
              by_cases hd : isDig x4 = true
              · rw [if_neg (show ¬ notDig x4 = true by rw [notDig, hd]; simp), ← hdrop] at hd5
                have HC5 : Hid (expQ (es.drop (j + 1)) (L.drop a2) (out ++ [e]) = C) := Lib.hid (by rw [hd5, HO.out, HC3.out])
                rw [isDig_iff] at hd
                obtain ⟨h48, h57⟩ := hd
                clear hd5 hdrop hd4
                go_wp2
                go_roundg (es.length - (j + 1))
                case measure => omega
                case rel => exact ⟨j + 1, a2, A7, c7, out ++ [e], by omega, by go_num, rfl, by omega, by rw [List.length_append]; rfl, HOWN, HC5, HOL, hbo4⟩
              · rw [if_pos (show notDig x4 = true by rw [notDig]; simpa using hd)] at hd5
                rw [isDig_iff] at hd
                have HD5 := Lib.hid hd5
                clear hd5 hdrop hd4
                by_cases h48 : 48 ≤ x4.toNat
                · have h57 : ¬ x4.toNat ≤ 57 := fun h => hd ⟨h48, h⟩
                  clear hd
                  go_wp2
                  go_roundg (L.length - (a2 + 1))
                  case measure => omega
                  case rel => exact ⟨a2 + 1, by omega, by go_num, HD5, HOWN, hbo4⟩
                · clear hd
                  go_wp2
                  go_roundg (L.length - (a2 + 1))
                  case measure => omega
                  case rel => exact ⟨a2 + 1, by omega, by go_num, HD5, HOWN, hbo4⟩
            · have HC5 : Hid (expQ (es.drop (j + 1)) (L.drop a2) (out ++ [e]) = C) := Lib.hid (by
                have := hd4.out
                rw [List.drop_eq_nil_of_le (show L.length ≤ a2 by omega)] at this ⊢
                rw [HO.out, ← HC3.out, ← this]; rfl)
              clear hd4
              go_wp2
              go_roundg (es.length - (j + 1))
              case measure => omega
              case rel => exact ⟨j + 1, a2, A7, c7, out ++ [e], by omega, by go_num, rfl, by omega, by rw [List.length_append]; rfl, HOWN, HC5, HOL, hbo4⟩
    · have HC2 := HC.out
      rw [List.drop_eq_nil_of_le (show es.length ≤ j by omega), expQ] at HC2
      have HC3 : Hid (expQ (numsOf false L) L [] = out) := Lib.hid (HCL.out.trans HC2.symm)
      clear HC2 HC
      obtain ⟨T, F, hPR⟩ := PR.ex out
      have hTl := hPR.len
      have hsT : (str T).size = T.length := str_size T
      have hfin := Lib.hid (hP.out.readQ HC3.out hPR)
      have HPR := Lib.hid hPR
      have hF : F = 0 ∨ F = 1 := by rcases hPR with ⟨h, _⟩ | ⟨h, _⟩ <;> omega
      clear hPR
      have hol2 : out.length ≤ 9223372036854775807 := by
        have : j * 1000 ≤ 20000 * 1000 := Nat.mul_le_mul_right _ (by omega)
        omega
      go_wp2_with fail
      refine (rruns_any A8 c8 out _ HOWN.es hol2 HPR.out).mono ?_
      rintro e w3 ⟨rfl, hb⟩
      replace HOWN := HOWN.ext hb
      have hbw : Below w.heap.size w w3 := bel_trans (bel_trans hb1 hbo) hb
      clear hb
      rcases hfin.out with ⟨rfl, rfl, rfl, rfl⟩ | ⟨hn, rfl, rfl⟩
      · have hs : ((str T).toList == (str T).toList) = true := beq_self_eq_true _
        clear hF
        go_wp2
        go_ret2
        exact ⟨A8, _, rfl, HOWN.es, hbw⟩
      · rcases hF with rfl | rfl
        · have hs : ((str T).toList == (str L).toList) = false := str_eq (beq_eq_false_iff_ne.2 fun e => hn ⟨rfl, e⟩)
          clear hn
          go_wp2
          go_ret2
          exact ⟨none, 0, rfl, IEs.nil _ _, hbw⟩
        · clear hn
          go_wp2
          go_ret2
          exact ⟨none, 0, rfl, IEs.nil _ _, hbw⟩
end Go.Proofs.YtlnajhochpbgpaaDoor
