/- The type with the latest first year, and the reference's. -/
import Derived.Test.YtajddhkepbnilaaDoorHown
namespace Go.Proofs.YtajddhkepbnilaaDoor
open Go.RowKit Go.Proofs Go

theorem BL.front {w W : World} {L : List (Nat × Array Value × TypeId)} (h : BL w W L) (k : Nat) : BL w W (L.take k) :=
  ⟨h.below, fun i p hp => h.blk i p (by
    by_cases hi : i < k
    · rwa [List.getElem?_take_of_lt hi] at hp
    · rw [List.getElem?_eq_none (by simp; omega)] at hp; cases hp)⟩
/-- one coin more -/
def stepS (s : Int × Int) (k y : Int) : Int × Int := if s.1 = 0 ∨ s.2 ≤ y then (k, y) else s
def lateS (ts : List (Int × Int)) : List (Int × Int) → Int × Int → Option (Int × Int)
  | [], s => some s
  | x :: l, s => match valE ts x.1 with
    | none => none
    | some y => lateS ts l (stepS s x.1 y)
theorem lateS_none {ts l : List (Int × Int)} {j : Nat} {x s : Int × Int} (hx : l[j]? = some x) (hv : valE ts x.1 = none) : lateS ts (l.drop j) s = none := by
  obtain ⟨hj, rfl⟩ := List.getElem?_eq_some_iff.1 hx
  rw [← List.getElem_cons_drop hj, lateS, hv]
theorem lateS_some {ts l : List (Int × Int)} {j : Nat} {x s : Int × Int} {y : Int} (hx : l[j]? = some x) (hv : valE ts x.1 = some y) : lateS ts (l.drop j) s = lateS ts (l.drop (j + 1)) (stepS s x.1 y) := by
  obtain ⟨hj, rfl⟩ := List.getElem?_eq_some_iff.1 hx
  rw [← List.getElem_cons_drop hj, lateS, hv]
/-- what Latest returns -/
def LateIs (id : Int) (l : List (Int × Int)) (f t : Int) (ts : List (Int × Int)) (r err : Int) : Prop :=
  (¬ (HV id l f t ∧ Listed (-9999) 9999 ts) ∧ r = 0 ∧ err = 1) ∨
  (HV id l f t ∧ Listed (-9999) 9999 ts ∧ ((lateS ts l (0, 0) = none ∧ r = 0 ∧ err = 7) ∨ (∃ y, lateS ts l (0, 0) = some (r, y) ∧ err = 0)))
theorem LateIs.ex (id : Int) (l : List (Int × Int)) (f t : Int) (ts : List (Int × Int)) : ∃ r err, LateIs id l f t ts r err := by
  by_cases h : HV id l f t ∧ Listed (-9999) 9999 ts
  · cases hl : lateS ts l (0, 0) with
    | none => exact ⟨_, _, .inr ⟨h.1, h.2, .inl ⟨hl, rfl, rfl⟩⟩⟩
    | some s => obtain ⟨r, y⟩ := s; exact ⟨r, 0, .inr ⟨h.1, h.2, .inr ⟨y, hl, rfl⟩⟩⟩
  · exact ⟨0, 1, .inl ⟨h, rfl, rfl⟩⟩
def RetL (w : World) (r err : Int) (e : Ending) (w' : World) : Prop := e = .returned (.tuple #[.int .i64 r, .int .i64 err]) ∧ Below w.heap.size w w'
theorem listed_len {lo hi : Int} {l : List (Int × Int)} (h : Listed lo hi l) : l.length ≤ 99 := by
  have key : ∀ (i : Nat) (x : Int × Int), l[i]? = some x → (i : Int) + 1 ≤ x.1 := by
    intro i
    induction i with
    | zero => intro x hx; have := (h.at_ hx).1.1; omega
    | succ i ih =>
      intro x hx
      have hi := (List.getElem?_eq_some_iff.1 hx).1
      have h1 := ih _ (List.getElem?_eq_getElem (show i < l.length by omega))
      have h2 := (h (i + 1) x hx).2.2 i _ rfl (List.getElem?_eq_getElem (show i < l.length by omega))
      omega
  rcases Nat.lt_or_ge 99 l.length with h1 | h1
  · have h2 := key 99 _ (List.getElem?_eq_getElem h1)
    have h3 := (h.at_ (List.getElem?_eq_getElem h1)).1.2
    omega
  · exact h1
theorem valE_succ {ts : List (Int × Int)} {m : Nat} {x : Int × Int} (hx : ts[m]? = some x) (t : Int) : valE (ts.take (m + 1)) t = (valE (ts.take m) t).or (if x.1 = t then some x.2 else none) := by
  unfold valE
  rw [take_succ hx, List.find?_append]
  cases (ts.take m).find? fun x => decide (x.1 = t)
  · by_cases h : x.1 = t
    · simp [h]
    · simp [h]
  · rfl
theorem valE_once {lo hi : Int} {ts : List (Int × Int)} (h : Listed lo hi ts) {m : Nat} {x : Int × Int} (hx : ts[m]? = some x) : valE (ts.take m) x.1 = none := by
  refine val_no fun j y hj hy => ?_
  rw [List.length_take] at hj
  rw [List.getElem?_take_of_lt (by omega)] at hy
  have key : ∀ (d i : Nat) (u v : Int × Int), i + d + 1 = m → ts[i]? = some u → ts[m]? = some v → u.1 < v.1 := by
    intro d
    induction d with
    | zero => intro i u v hi hu hv; exact (h m v hv).2.2 i u (by omega) hu
    | succ d ih =>
      intro i u v hi hu hv
      have hl := (List.getElem?_eq_some_iff.1 hv).1
      have h1 := (h (i + 1) _ (List.getElem?_eq_getElem (show i + 1 < ts.length by omega))).2.2 i u rfl hu
      have h2 := ih (i + 1) _ v (by omega) (List.getElem?_eq_getElem (show i + 1 < ts.length by omega)) hv
      omega
  have := key (m - j - 1) j y x (by omega) hy hx
  omega
set_option maxRecDepth 100000 in
theorem hlate_bad {id f t : Int} (A A' : Option Addr) (c c' : Nat) (l ts : List (Int × Int)) (w : World) (HA : Es w A l) (HB : Es w A' ts) (hl : l.length ≤ 9223372036854775807) (hts : ts.length ≤ 9223372036854775807) (h : ¬ (HV id l f t ∧ Listed (-9999) 9999 ts)) :
    Calls Tryd.prog 18 #[.agg #[.int .i64 id, .slice A l.length c, .int .i64 f, .int .i64 t], .slice A' ts.length c'] w (RetL w 0 1) := by
  by_cases ha : HV id l f t
  · have hb0 : ¬ Listed (-9999) 9999 ts := fun hb => h ⟨ha, hb⟩
    have KA := yes ha
    have KB := no hb0
    clear h ha hb0
    go_enter Tryd.func18, Tryd.ntmps18
    go_wp2_with fail
    have HX := BL.one w #[.int .i64 id, .slice A l.length c, .int .i64 f, .int .i64 t] 26
    refine (hvalid_any (b := true) A c l _ (HA.ext HX.below) hl KA).mono ?_
    rintro e w1 ⟨rfl, hb⟩
    replace HX := HX.ext hb
    clear hb
    go_wp2_with fail
    refine (listed_any (b := false) A' c' ts _ (HB.ext HX.below) hts KB).mono ?_
    rintro e w2 ⟨rfl, hb⟩
    replace HX := HX.ext hb
    clear hb
    go_wp2
    go_ret2
    exact ⟨rfl, HX.below⟩
  · have KA := no ha
    clear h ha
    go_enter Tryd.func18, Tryd.ntmps18
    go_wp2_with fail
    have HX := BL.one w #[.int .i64 id, .slice A l.length c, .int .i64 f, .int .i64 t] 26
    refine (hvalid_any (b := false) A c l _ (HA.ext HX.below) hl KA).mono ?_
    rintro e w1 ⟨rfl, hb⟩
    replace HX := HX.ext hb
    clear hb
    go_wp2
    go_ret2
    exact ⟨rfl, HX.below⟩
set_option maxHeartbeats 2000000 in
set_option maxRecDepth 100000 in
theorem hlate_go {id f t r err : Int} (A A' : Option Addr) (c c' : Nat) (l ts : List (Int × Int)) (w : World) (HA : Es w A l) (HB : Es w A' ts) (hl : l.length ≤ 9223372036854775807) (hts : ts.length ≤ 9223372036854775807) (ha : HV id l f t) (hb : Listed (-9999) 9999 ts) (hR : Hid ((lateS ts l (0, 0) = none ∧ r = 0 ∧ err = 7) ∨ (∃ y, lateS ts l (0, 0) = some (r, y) ∧ err = 0))) :
    Calls Tryd.prog 18 #[.agg #[.int .i64 id, .slice A l.length c, .int .i64 f, .int .i64 t], .slice A' ts.length c'] w (RetL w r err) := by
  have KA := yes ha
  have KB := yes hb
  clear ha hb
  go_enter Tryd.func18, Tryd.ntmps18
  go_wp2_with fail
  have HX := BL.one w #[.int .i64 id, .slice A l.length c, .int .i64 f, .int .i64 t] 26
  refine (hvalid_any (b := true) A c l _ (HA.ext HX.below) hl KA).mono ?_
  rintro e w1 ⟨rfl, hb⟩
  replace HX := HX.ext hb
  clear hb
  go_wp2_with fail
  refine (listed_any (b := true) A' c' ts _ (HB.ext HX.below) hts KB).mono ?_
  rintro e w2 ⟨rfl, hb⟩
  replace HX := HX.ext hb
  clear hb
  have hc01 := HX.cell 0 1 rfl rfl
  try simp only [List.getElem_toArray, List.getElem_cons_zero, List.getElem_cons_succ] at hc01
  go_wp2
  clear hc01
  go_loopg [6, 7, 23] l.length (fun kk u v i wr => ∃ (j : Nat) (s : Int × Int), j + kk = l.length ∧ i = .int .i64 (j : Int) ∧ u = .int .i64 s.1 ∧ v = .int .i64 s.2 ∧ Hid (lateS ts (l.drop j) s = lateS ts l (0, 0)) ∧ BL w wr [(w.heap.size, #[.int .i64 id, .slice A l.length c, .int .i64 f, .int .i64 t], 26)])
  case atStart => exact ⟨0, (0, 0), by omega, rfl, rfl, rfl, Lib.hid (by rw [List.drop_zero]), HX⟩
  case round =>
    clear HX
    obtain ⟨j, s, hj, rfl, rfl, rfl, hS, HX⟩ := hrel
    by_cases hj0 : j < l.length
    · have hx := Lib.hid (List.getElem?_eq_getElem hj0)
      obtain ⟨ad, rfl, hbk, c0, c1⟩ := (HA.ext HX.below).at_ hx.out
      generalize l[j] = x at *
      obtain ⟨k, n⟩ := x
      simp only [] at c0 c1
      go_upto_region 7 with fail
      replace HX := HX.new #[.int .i64 k, .int .i64 n] 50
      simp only [List.cons_append, List.nil_append] at HX
      clear c0 c1 hbk
      generalize wr.alloc (.cells #[.int .i64 k, .int .i64 n] 50) = W7 at *
      generalize wr.heap.size = g7 at *
      have hc10 := HX.cell 1 0 rfl rfl
      have hc11 := HX.cell 1 1 rfl rfl
      try simp only [List.getElem_toArray, List.getElem_cons_zero, List.getElem_cons_succ] at hc10 hc11
      cases hv : valE ts k with
      | none =>
        have hN := lateS_none (s := s) hx.out hv
        rw [hS.out] at hN
        have hR2 : r = 0 ∧ err = 7 := by
          rcases hR.out with h | ⟨y, h, _⟩
          · exact h.2
          · rw [hN] at h; cases h
        obtain ⟨rfl, rfl⟩ := hR2
        have HV := Lib.hid hv
        clear hv hN
        go_wp2_with fail
        refine (value_none A' c' ts _ (HB.ext HX.below) hts HV).mono ?_
        rintro e w3 ⟨rfl, hb⟩
        replace HX := HX.ext hb
        go_wp2
        go_ret2
        exact ⟨rfl, HX.below⟩
      | some y =>
        have hS2 := Lib.hid ((lateS_some (s := s) hx.out hv).symm.trans hS.out)
        have HV := Lib.hid hv
        clear hv
        go_wp2_with fail
        refine (value_some A' c' ts _ (HB.ext HX.below) hts HV).mono ?_
        rintro e w3 ⟨rfl, hb⟩
        clear hc10 hc11
        replace HX := HX.ext hb
        clear hb
        have hc10 := HX.cell 1 0 rfl rfl
        have hc11 := HX.cell 1 1 rfl rfl
        try simp only [List.getElem_toArray, List.getElem_cons_zero, List.getElem_cons_succ] at hc10 hc11
        by_cases h0 : s.1 = 0
        · have h0b : (s.1 == 0) = true := beq_iff_eq.2 h0
          have hst := Lib.hid (show stepS s k y = (k, y) by rw [stepS, if_pos (.inl h0)])
          clear h0
          go_wp2
          go_roundg (l.length - (j + 1))
          case measure => omega
          case rel => exact ⟨j + 1, (k, y), by omega, by go_num, rfl, rfl, Lib.hid (by rw [← hS2.out, hst.out]), HX.front 1⟩
        · have h0b : (s.1 == 0) = false := beq_eq_false_iff_ne.2 h0
          by_cases h1 : s.2 ≤ y
          · have h1b : decide (s.2 ≤ y) = true := decide_eq_true h1
            have hst := Lib.hid (show stepS s k y = (k, y) by rw [stepS, if_pos (.inr h1)])
            clear h0
            go_wp2
            go_roundg (l.length - (j + 1))
            case measure => omega
            case rel => exact ⟨j + 1, (k, y), by omega, by go_num, rfl, rfl, Lib.hid (by rw [← hS2.out, hst.out]), HX.front 1⟩
          · have h1b : decide (s.2 ≤ y) = false := decide_eq_false h1
            have hst := Lib.hid (show stepS s k y = s by rw [stepS, if_neg (by omega)])
            clear h0
            go_wp2
            go_roundg (l.length - (j + 1))
            case measure => omega
            case rel => exact ⟨j + 1, s, by omega, by go_num, rfl, rfl, Lib.hid (by rw [← hS2.out, hst.out]), HX.front 1⟩
    · have hN := hS.out
      rw [List.drop_eq_nil_of_le (by omega), lateS] at hN
      have hR2 : s.1 = r ∧ err = 0 := by
        rcases hR.out with h | ⟨y, h, he⟩
        · rw [← hN] at h; cases h.1
        · rw [← hN] at h
          exact ⟨by rw [Option.some.inj h], he⟩
      obtain ⟨rfl, rfl⟩ := hR2
      clear hN
      go_wp2
      go_ret2
      exact ⟨rfl, HX.below⟩
theorem hlate_any {id f t r err : Int} (A A' : Option Addr) (c c' : Nat) (l ts : List (Int × Int)) (w : World) (HA : Es w A l) (HB : Es w A' ts) (hl : l.length ≤ 9223372036854775807) (hts : ts.length ≤ 9223372036854775807) (h : LateIs id l f t ts r err) :
    Calls Tryd.prog 18 #[.agg #[.int .i64 id, .slice A l.length c, .int .i64 f, .int .i64 t], .slice A' ts.length c'] w (RetL w r err) := by
  rcases h with ⟨h, rfl, rfl⟩ | ⟨ha, hb, h⟩
  · exact hlate_bad A A' c c' l ts w HA HB hl hts h
  · exact hlate_go A A' c c' l ts w HA HB hl hts ha hb (Lib.hid h)
set_option maxHeartbeats 1000000 in
set_option maxRecDepth 100000 in
theorem issues_any {b : Bool} (A : Option Addr) (c : Nat) (l : List (Int × Int)) (w : World) (H : Es w A l) (hl : l.length ≤ 9223372036854775807) (hb : Tells b (Listed (-9999) 9999 l)) :
    Calls Tryd.prog 38 #[.slice A l.length c] w (RetB w b) := by
  go_enter Tryd.func38, Tryd.ntmps38
  go_wp2
  go_loopg [3] l.length (fun k i wr => ∃ j : Nat, j + k = l.length ∧ i = .int .i64 (j : Int) ∧ Hid (∀ i x, i < j → l[i]? = some x → Rng x.1 1 99 ∧ Rng x.2 (-9999) 9999) ∧ wr = w)
  case atStart => exact ⟨0, by omega, rfl, Lib.hid (fun i x h => absurd h (by omega)), rfl⟩
  case round =>
    obtain ⟨j, hj, rfl, hok, rfl⟩ := hrel
    by_cases hj0 : j < l.length
    · have hx := Lib.hid (List.getElem?_eq_getElem hj0)
      obtain ⟨ad, rfl, hbk, c0, c1⟩ := H.at_ hx.out
      generalize l[j] = x at *
      by_cases ha : Rng x.1 1 99
      · by_cases hv : Rng x.2 (-9999) 9999
        · have hnx := Lib.hid (show ∀ i x, i < j + 1 → l[i]? = some x → Rng x.1 1 99 ∧ Rng x.2 (-9999) 9999 from fun i y hi hy => by
            by_cases hij : i < j
            · exact hok.out i y hij hy
            · obtain rfl : i = j := by omega
              rw [hx.out] at hy
              obtain rfl := Option.some.inj hy
              exact ⟨ha, hv⟩)
          have Ha := yes ha
          have Hv := yes hv
          clear ha hv
          go_wp2_with fail
          refine (bin_any (b := true) _ Ha).mono ?_
          rintro e w4 ⟨rfl, rfl⟩
          go_wp2_with fail
          refine (bsize_any (b := true) _ Hv).mono ?_
          rintro e w4 ⟨rfl, rfl⟩
          go_wp2
          go_roundg (l.length - (j + 1))
          case measure => omega
          case rel => exact ⟨j + 1, by omega, by go_num, hnx, by first | rfl | trivial⟩
        · obtain rfl : b = false := hb.f fun h => hv ((listed_iff.1 h).2 j x hx.out).2
          have Ha := yes ha
          have Hv := no hv
          clear ha hv
          go_wp2_with fail
          refine (bin_any (b := true) _ Ha).mono ?_
          rintro e w4 ⟨rfl, rfl⟩
          go_wp2_with fail
          refine (bsize_any (b := false) _ Hv).mono ?_
          rintro e w4 ⟨rfl, rfl⟩
          go_wp2
          go_ret
          exact ⟨by first | rfl | simp, Below.refl _ _⟩
      · obtain rfl : b = false := hb.f fun h => ha ((listed_iff.1 h).2 j x hx.out).1
        have Ha := no ha
        clear ha
        go_wp2_with fail
        refine (bin_any (b := false) _ Ha).mono ?_
        rintro e w4 ⟨rfl, rfl⟩
        go_wp2
        go_ret
        exact ⟨by first | rfl | simp, Below.refl _ _⟩
    · have hall := hok.out
      have HO : Tells b (Asc l ∧ (l.length : Int) ≤ 99) := by
        cases b
        · refine no fun h => ?_
          have := hb.2 (listed_iff.2 ⟨h.1, fun i x hx => hall i x (by have := (List.getElem?_eq_some_iff.1 hx).1; omega) hx⟩)
          cases this
        · have h1 := hb.1 rfl
          have := listed_len h1
          exact yes ⟨(listed_iff.1 h1).1, by omega⟩
      clear hall
      go_wp2_with fail
      refine (ordered_any A c l _ H hl HO).mono ?_
      rintro e w2 ⟨rfl, hb2⟩
      go_wp2
      go_ret
      exact ⟨by first | rfl | simp, hb2⟩
set_option maxRecDepth 100000 in
theorem rlate_bad {id f t : Int} (A A' : Option Addr) (c c' : Nat) (l ts : List (Int × Int)) (w : World) (HA : Es w A l) (HB : Es w A' ts) (hl : l.length ≤ 9223372036854775807) (hts : ts.length ≤ 9223372036854775807) (h : ¬ (HV id l f t ∧ Listed (-9999) 9999 ts)) :
    Calls Tryd.prog 19 #[.agg #[.int .i64 id, .slice A l.length c, .int .i64 f, .int .i64 t], .slice A' ts.length c'] w (RetL w 0 1) := by
  by_cases ha : HV id l f t
  · have hb0 : ¬ Listed (-9999) 9999 ts := fun hb => h ⟨ha, hb⟩
    have KA := yes ha
    have KB := no hb0
    clear h ha hb0
    go_enter Tryd.func19, Tryd.ntmps19
    go_wp2_with fail
    have HX := BL.one w #[.int .i64 id, .slice A l.length c, .int .i64 f, .int .i64 t] 26
    refine (bhoard_any (b := true) A c l _ (HA.ext HX.below) hl KA).mono ?_
    rintro e w1 ⟨rfl, hb⟩
    replace HX := HX.ext hb
    clear hb
    go_wp2_with fail
    refine (issues_any (b := false) A' c' ts _ (HB.ext HX.below) hts KB).mono ?_
    rintro e w2 ⟨rfl, hb⟩
    replace HX := HX.ext hb
    clear hb
    go_wp2
    go_ret2
    exact ⟨rfl, HX.below⟩
  · have KA := no ha
    clear h ha
    go_enter Tryd.func19, Tryd.ntmps19
    go_wp2_with fail
    have HX := BL.one w #[.int .i64 id, .slice A l.length c, .int .i64 f, .int .i64 t] 26
    refine (bhoard_any (b := false) A c l _ (HA.ext HX.below) hl KA).mono ?_
    rintro e w1 ⟨rfl, hb⟩
    replace HX := HX.ext hb
    clear hb
    go_wp2
    go_ret2
    exact ⟨rfl, HX.below⟩
set_option maxHeartbeats 4000000 in
set_option maxRecDepth 100000 in
theorem rlate_go {id f t r err : Int} (A A' : Option Addr) (c c' : Nat) (l ts : List (Int × Int)) (w : World) (HA : Es w A l) (HB : Es w A' ts) (hl : l.length ≤ 9223372036854775807) (hts : ts.length ≤ 9223372036854775807) (ha : HV id l f t) (hb : Listed (-9999) 9999 ts) (hR : Hid ((lateS ts l (0, 0) = none ∧ r = 0 ∧ err = 7) ∨ (∃ y, lateS ts l (0, 0) = some (r, y) ∧ err = 0))) :
    Calls Tryd.prog 19 #[.agg #[.int .i64 id, .slice A l.length c, .int .i64 f, .int .i64 t], .slice A' ts.length c'] w (RetL w r err) := by
  have KA := yes ha
  have KB := yes hb
  have hlis := Lib.hid hb
  clear ha hb
  go_enter Tryd.func19, Tryd.ntmps19
  go_wp2_with fail
  have HX := BL.one w #[.int .i64 id, .slice A l.length c, .int .i64 f, .int .i64 t] 26
  refine (bhoard_any (b := true) A c l _ (HA.ext HX.below) hl KA).mono ?_
  rintro e w1 ⟨rfl, hb⟩
  replace HX := HX.ext hb
  clear hb
  go_wp2_with fail
  refine (issues_any (b := true) A' c' ts _ (HB.ext HX.below) hts KB).mono ?_
  rintro e w2 ⟨rfl, hb⟩
  replace HX := HX.ext hb
  clear hb
  go_wp2
  go_loopg [6, 7, 8] l.length (fun kk u v i wr => ∃ (j : Nat) (s : Int × Int), j + kk = l.length ∧ i = .int .i64 (j : Int) ∧ u = .int .i64 s.1 ∧ v = .int .i64 s.2 ∧ Hid (lateS ts (l.drop j) s = lateS ts l (0, 0)) ∧ BL w wr [(w.heap.size, #[.int .i64 id, .slice A l.length c, .int .i64 f, .int .i64 t], 26)])
  case atStart => exact ⟨0, (0, 0), by omega, rfl, rfl, rfl, Lib.hid (by rw [List.drop_zero]), HX⟩
  case round =>
    clear HX
    obtain ⟨j, s, hj, rfl, rfl, rfl, hS, HX⟩ := hrel
    have hc01 := HX.cell 0 1 rfl rfl
    try simp only [List.getElem_toArray, List.getElem_cons_zero, List.getElem_cons_succ] at hc01
    by_cases hj0 : j < l.length
    · have hx := Lib.hid (List.getElem?_eq_getElem hj0)
      obtain ⟨ad, rfl, hbk, c0, c1⟩ := (HA.ext HX.below).at_ hx.out
      generalize l[j] = x at *
      obtain ⟨k, n⟩ := x
      simp only [] at c0 c1
      have HX0 := HX
      obtain ⟨wo, hwo⟩ : ∃ wo : World, wo = wr := ⟨_, rfl⟩
      subst hwo
      clear c0 c1 hbk
      go_wp2
      clear hc01
      go_loopg [6, 7, 9, 10] ts.length (fun kk u v z i wr => ∃ (m : Nat) (q : Int × Int) (fd : Bool), m + kk = ts.length ∧ i = .int .i64 (m : Int) ∧ u = .int .i64 q.1 ∧ v = .int .i64 q.2 ∧ z = .bool fd ∧ Hid (valE (ts.take m) k = none ∧ q = s ∧ fd = false ∨ (∃ y, valE (ts.take m) k = some y ∧ q = stepS s k y ∧ fd = true)) ∧ BL w wr [(w.heap.size, #[.int .i64 id, .slice (some ad) l.length c, .int .i64 f, .int .i64 t], 26)])
      case atStart => exact ⟨0, s, false, by omega, rfl, rfl, rfl, rfl, Lib.hid (.inl ⟨rfl, rfl, rfl⟩), HX⟩
      case round =>
        clear HX HX0
        obtain ⟨m, q, fd, hm, rfl, rfl, rfl, rfl, hI, HX⟩ := hrel
        have hc01 := HX.cell 0 1 rfl rfl
        try simp only [List.getElem_toArray, List.getElem_cons_zero, List.getElem_cons_succ] at hc01
        by_cases hm0 : m < ts.length
        · have hy := Lib.hid (List.getElem?_eq_getElem hm0)
          obtain ⟨ad', rfl, hbk', p0, p1⟩ := (HB.ext HX.below).at_ hy.out
          obtain ⟨ad2, he2, hbk, c0, c1⟩ := (HA.ext HX.below).at_ hx.out
          obtain rfl := Option.some.inj he2
          generalize ts[m] = y at *
          obtain ⟨k', v'⟩ := y
          simp only [] at p0 p1 c0 c1
          have hsu := Lib.hid (valE_succ hy.out k)
          clear c1
          by_cases hk : k' = k
          · subst hk
            have hon := valE_once hlis.out hy.out
            have hI2 : q = s ∧ fd = false := by
              rcases hI.out with h | ⟨z, h, _⟩
              · exact h.2
              · rw [hon] at h; cases h
            obtain ⟨rfl, rfl⟩ := hI2
            have hsv := hsu.out
            rw [hon, if_pos rfl] at hsv
            replace hsv := Lib.hid hsv
            clear hon hsu hI
            have hkb : (k' == k') = true := beq_self_eq_true _
            by_cases h0 : q.1 = 0
            · have h0b : (q.1 == 0) = true := beq_iff_eq.2 h0
              have hst := Lib.hid (show stepS q k' v' = (k', v') by rw [stepS, if_pos (.inl h0)])
              clear h0
              go_upto_region 11 with fail
              go_quiet (fail)
              replace HX := HX.ext (drew_below (Below.refl _ _) nq)
              generalize wr.drewN nq = wq at *
              clear nq
              have hd01 := HX.cell 0 1 rfl rfl
              try simp only [List.getElem_toArray, List.getElem_cons_zero, List.getElem_cons_succ] at hd01
              obtain ⟨ad3, he3, _, q0, q1⟩ := (HB.ext HX.below).at_ hy.out
              obtain rfl := Option.some.inj he3
              simp only [] at q0 q1
              go_upto_region 14 with fail
              go_quiet (fail)
              replace HX := HX.ext (drew_below (Below.refl _ _) nq)
              go_wp2
              go_roundg (ts.length - (m + 1))
              case measure => omega
              case rel => exact ⟨m + 1, (k', v'), true, by omega, by go_num, rfl, rfl, rfl, Lib.hid (.inr ⟨v', hsv.out, hst.out.symm, rfl⟩), HX⟩
            · have h0b : (q.1 == 0) = false := beq_eq_false_iff_ne.2 h0
              by_cases h1 : q.2 ≤ v'
              · have h1b : decide (q.2 ≤ v') = true := decide_eq_true h1
                have hst := Lib.hid (show stepS q k' v' = (k', v') by rw [stepS, if_pos (.inr h1)])
                clear h0
                go_upto_region 11 with fail
                go_quiet (fail)
                replace HX := HX.ext (drew_below (Below.refl _ _) nq)
                generalize wr.drewN nq = wq at *
                clear nq
                have hd01 := HX.cell 0 1 rfl rfl
                try simp only [List.getElem_toArray, List.getElem_cons_zero, List.getElem_cons_succ] at hd01
                obtain ⟨ad3, he3, _, q0, q1⟩ := (HB.ext HX.below).at_ hy.out
                obtain rfl := Option.some.inj he3
                simp only [] at q0 q1
                go_upto_region 14 with fail
                go_quiet (fail)
                replace HX := HX.ext (drew_below (Below.refl _ _) nq)
                go_wp2
                go_roundg (ts.length - (m + 1))
                case measure => omega
                case rel => exact ⟨m + 1, (k', v'), true, by omega, by go_num, rfl, rfl, rfl, Lib.hid (.inr ⟨v', hsv.out, hst.out.symm, rfl⟩), HX⟩
              · have h1b : decide (q.2 ≤ v') = false := decide_eq_false h1
                have hst := Lib.hid (show stepS q k' v' = q by rw [stepS, if_neg (by omega)])
                clear h0
                go_upto_region 11 with fail
                go_quiet (fail)
                replace HX := HX.ext (drew_below (Below.refl _ _) nq)
                generalize wr.drewN nq = wq at *
                clear nq
                have hd01 := HX.cell 0 1 rfl rfl
                try simp only [List.getElem_toArray, List.getElem_cons_zero, List.getElem_cons_succ] at hd01
                obtain ⟨ad3, he3, _, q0, q1⟩ := (HB.ext HX.below).at_ hy.out
                obtain rfl := Option.some.inj he3
                simp only [] at q0 q1
                go_wp2
                go_roundg (ts.length - (m + 1))
                case measure => omega
                case rel => exact ⟨m + 1, q, true, by omega, by go_num, rfl, rfl, rfl, Lib.hid (.inr ⟨v', hsv.out, hst.out.symm, rfl⟩), HX⟩
          · have hkb : (k' == k) = false := beq_eq_false_iff_ne.2 hk
            have hsv := hsu.out
            rw [if_neg hk, Option.or_none] at hsv
            have hI2 := hI.out
            rw [← hsv] at hI2
            replace hI2 := Lib.hid hI2
            clear hsv hsu hI hk
            go_upto_region 11 with fail
            go_quiet (fail)
            replace HX := HX.ext (drew_below (Below.refl _ _) nq)
            generalize wr.drewN nq = wq at *
            clear nq
            have hd01 := HX.cell 0 1 rfl rfl
            try simp only [List.getElem_toArray, List.getElem_cons_zero, List.getElem_cons_succ] at hd01
            obtain ⟨ad3, he3, _, q0, q1⟩ := (HB.ext HX.below).at_ hy.out
            obtain rfl := Option.some.inj he3
            simp only [] at q0 q1
            go_wp2
            go_roundg (ts.length - (m + 1))
            case measure => omega
            case rel => exact ⟨m + 1, q, fd, by omega, by go_num, rfl, rfl, rfl, hI2, HX⟩
        · have hI2 := hI.out
          rw [List.take_of_length_le (by omega)] at hI2
          clear hI
          rcases hI2 with ⟨hv, hq, hf⟩ | ⟨y, hv, hq, hf⟩
          · subst hq hf
            have hN := lateS_none (s := q) hx.out hv
            rw [hS.out] at hN
            have hR2 : r = 0 ∧ err = 7 := by
              rcases hR.out with h | ⟨y, h, _⟩
              · exact h.2
              · rw [hN] at h; cases h
            obtain ⟨rfl, rfl⟩ := hR2
            clear hv hN
            go_wp2
            go_ret2
            exact ⟨rfl, HX.below⟩
          · subst hf
            have hS2 := Lib.hid ((lateS_some (s := s) hx.out hv).symm.trans hS.out)
            replace hq := Lib.hid hq
            clear hv
            go_wp2
            go_roundg (l.length - (j + 1))
            case measure => omega
            case rel => exact ⟨j + 1, q, by omega, by go_num, rfl, rfl, Lib.hid (by rw [hq.out]; exact hS2.out), HX⟩
    · have hN := hS.out
      rw [List.drop_eq_nil_of_le (by omega), lateS] at hN
      have hR2 : s.1 = r ∧ err = 0 := by
        rcases hR.out with h | ⟨y, h, he⟩
        · rw [← hN] at h; cases h.1
        · rw [← hN] at h
          exact ⟨by rw [Option.some.inj h], he⟩
      obtain ⟨rfl, rfl⟩ := hR2
      clear hN
      go_wp2
      go_ret2
      exact ⟨rfl, HX.below⟩
theorem rlate_any {id f t r err : Int} (A A' : Option Addr) (c c' : Nat) (l ts : List (Int × Int)) (w : World) (HA : Es w A l) (HB : Es w A' ts) (hl : l.length ≤ 9223372036854775807) (hts : ts.length ≤ 9223372036854775807) (h : LateIs id l f t ts r err) :
    Calls Tryd.prog 19 #[.agg #[.int .i64 id, .slice A l.length c, .int .i64 f, .int .i64 t], .slice A' ts.length c'] w (RetL w r err) := by
  rcases h with ⟨h, rfl, rfl⟩ | ⟨ha, hb, h⟩
  · exact rlate_bad A A' c c' l ts w HA HB hl hts h
  · exact rlate_go A A' c c' l ts w HA HB hl hts ha hb (Lib.hid h)
end Go.Proofs.YtajddhkepbnilaaDoor
