/- Labels compared; the reference's reader of labels. -/
import Derived.Test.YtlnajhochpbgpaaDoorLb3
import Derived.Test.YtlnajhochpbgpaaDoorIn
import Derived.StillTailTactics
namespace Go.Proofs.YtlnajhochpbgpaaDoor
open Go.RowKit Go.Proofs Go

def orL : List Int → Int
  | [] => 0
  | x :: r => if x = 0 then orL r else x
set_option maxHeartbeats 400000 in
set_option maxRecDepth 100000 in
theorem or_any (A : Option Addr) (c : Nat) (l : List Int) (w : World) (H : IEs w A l) (hl : l.length ≤ 9223372036854775807) :
    Calls Tryd.prog 36 #[.slice A l.length c] w fun e w' => e = .returned (.int .i64 (orL l)) ∧ w' = w := by
  go_enter Tryd.func36, Tryd.ntmps36
  go_wp2
  go_loopg [8] l.length (fun k i wr => ∃ j : Nat, j + k = l.length ∧ i = .int .i64 (j : Int) ∧ Hid (orL (l.drop j) = orL l) ∧ wr = w)
  case atStart => exact ⟨0, by omega, rfl, Lib.hid rfl, rfl⟩
  case round =>
    obtain ⟨j, hj, rfl, hor, rfl⟩ := hrel
    by_cases hj0 : j < l.length
    · obtain ⟨ad, rfl, hbk, c0⟩ := H.at_ (List.getElem?_eq_getElem hj0)
      have hd := List.drop_eq_getElem_cons hj0
      have hor2 := hor.out
      rw [hd, orL] at hor2
      clear hd
      generalize l[j] = x at *
      by_cases hx : x = 0
      · rw [if_pos hx] at hor2
        have hx2 : (x == 0) = true := beq_iff_eq.2 hx
        have HO := Lib.hid hor2
        clear hx hor2
        go_wp2
        go_roundg (l.length - (j + 1))
        case measure => omega
        case rel => exact ⟨j + 1, by omega, by go_num, HO, by first | rfl | trivial⟩
      · rw [if_neg hx] at hor2
        have hx2 : (x == 0) = false := beq_eq_false_iff_ne.2 hx
        have HO := Lib.hid hor2
        clear hx hor2
        go_wp2
        go_ret
        exact ⟨by rw [← HO.out]; rfl, rfl⟩
    · have hor2 := hor.out
      rw [List.drop_eq_nil_of_le (by omega), orL] at hor2
      have HO := Lib.hid hor2
      clear hor2
      go_wp2
      go_ret
      exact ⟨by rw [← HO.out]; rfl, rfl⟩
def cmpL (a b c a' b' c' : Int) : Int := if a = a' then (if b = b' then Lib.compareInt c c' else Lib.compareInt b b') else Lib.compareInt a a'
theorem cmpI_zero {x y : Int} : Lib.compareInt x y = 0 ↔ x = y := by
  unfold Lib.compareInt
  split
  · omega
  · split <;> omega
theorem or_cmp (a b c a' b' c' : Int) : orL [Lib.compareInt a a', Lib.compareInt b b', Lib.compareInt c c'] = cmpL a b c a' b' c' := by
  rw [orL, orL, orL, orL, cmpL]
  by_cases h : a = a'
  · rw [if_pos (cmpI_zero.2 h), if_pos h]
    by_cases h2 : b = b'
    · rw [if_pos (cmpI_zero.2 h2), if_pos h2]; split <;> simp_all
    · rw [if_neg (fun e => h2 (cmpI_zero.1 e)), if_neg h2]
  · rw [if_neg (fun e => h (cmpI_zero.1 e)), if_neg h]
set_option maxHeartbeats 2000000 in
set_option maxRecDepth 100000 in
theorem lcmp_any {a b c a' b' c' : Int} (w : World) :
    Calls Tryd.prog 18 #[.agg #[.int .i64 a, .int .i64 b, .int .i64 c], .agg #[.int .i64 a', .int .i64 b', .int .i64 c']] w fun e w' => e = .returned (.int .i64 (cmpL a b c a' b' c')) ∧ Below w.heap.size w w' := by
  have HX := BL.two w #[.int .i64 a, .int .i64 b, .int .i64 c] #[.int .i64 a', .int .i64 b', .int .i64 c'] 23 23
  go_enter Tryd.func18, Tryd.ntmps18
  go_upto_region 1 with fail
  generalize (w.alloc (.cells #[.int .i64 a, .int .i64 b, .int .i64 c] 23)).alloc (.cells #[.int .i64 a', .int .i64 b', .int .i64 c'] 23) = W at *
  have hc00 := HX.cell 0 0 rfl rfl
  have hc01 := HX.cell 0 1 rfl rfl
  have hc02 := HX.cell 0 2 rfl rfl
  try simp only [List.getElem_toArray, List.getElem_cons_zero, List.getElem_cons_succ] at hc00 hc01 hc02
  have hc10 := HX.cell 1 0 rfl rfl
  have hc11 := HX.cell 1 1 rfl rfl
  have hc12 := HX.cell 1 2 rfl rfl
  try simp only [List.getElem_toArray, List.getElem_cons_zero, List.getElem_cons_succ] at hc10 hc11 hc12
  refine wp_region_still_tail 15 (by kernel_rfl) (by kernel_rfl) ?_
  simp only [List.take_succ_cons, List.take_zero, List.drop_succ_cons, List.drop_zero]
  change wpStill _ _ W.drew _ _ _
  have HX2 : BL w W.drew _ := HX.ext (drew_below (Below.refl W.heap.size W) 1)
  repeat still_step
  still_call (Tryd.cmp_Compare_int _ _ _)
  repeat still_step
  still_call (Tryd.cmp_Compare_int _ _ _)
  repeat still_step
  still_call (Tryd.cmp_Compare_int _ _ _)
  refine wpStill_nil ?_
  change wpList _ _ _ _ _ W.drew
  clear hc00 hc01 hc02
  clear hc10 hc11 hc12
  generalize W.drew = W2 at *
  go_wp2_with fail
  have HI := IEs.lit W2 3 [Lib.compareInt a a', Lib.compareInt b b', Lib.compareInt c c'] #[.int .i64 (Lib.compareInt a a'), .int .i64 (Lib.compareInt b b'), .int .i64 (Lib.compareInt c c')] rfl
  refine (or_any _ 3 _ _ HI (by simp)).mono ?_
  rw [or_cmp]
  rintro e w3 ⟨rfl, rfl⟩
  go_wp2
  go_ret
  exact ⟨rfl, (HX2.ext (below_alloc _ _)).below⟩
set_option maxRecDepth 100000 in
theorem order_any {x y : Int} (w : World) :
    Calls Tryd.prog 38 #[.int .i64 x, .int .i64 y] w fun e w' => e = .returned (.int .i64 (Lib.compareInt x y)) ∧ w' = w := by
  by_cases h : x < y
  · have hc : Hid (Lib.compareInt x y = -1) := Lib.hid (by rw [Lib.compareInt, if_pos h])
    go_enter Tryd.func38, Tryd.ntmps38
    go_wp2
    go_ret
    exact ⟨by rw [hc.out]; rfl, rfl⟩
  · have hb : decide (x < y) = false := decide_eq_false h
    by_cases h2 : y < x
    · have hc : Hid (Lib.compareInt x y = 1) := Lib.hid (by rw [Lib.compareInt, if_neg h, if_pos h2])
      go_enter Tryd.func38, Tryd.ntmps38
      go_wp2
      go_ret
      exact ⟨by rw [hc.out]; rfl, rfl⟩
    · have hb2 : decide (y < x) = false := decide_eq_false h2
      have hc : Hid (Lib.compareInt x y = 0) := Lib.hid (by rw [Lib.compareInt, if_neg h, if_neg (show ¬ x > y from h2)])
      go_enter Tryd.func38, Tryd.ntmps38
      go_wp2
      go_ret
      exact ⟨by rw [hc.out]; rfl, rfl⟩
set_option maxHeartbeats 1000000 in
set_option maxRecDepth 100000 in
theorem rlcmp_any {a b c a' b' c' : Int} (w : World) :
    Calls Tryd.prog 19 #[.agg #[.int .i64 a, .int .i64 b, .int .i64 c], .agg #[.int .i64 a', .int .i64 b', .int .i64 c']] w fun e w' => e = .returned (.int .i64 (cmpL a b c a' b' c')) ∧ Below w.heap.size w w' := by
  have HX := BL.two w #[.int .i64 a, .int .i64 b, .int .i64 c] #[.int .i64 a', .int .i64 b', .int .i64 c'] 23 23
  by_cases h : a = a'
  · have hb : (a != a') = false := by rw [bne_eq_false_iff_eq]; exact h
    by_cases h2 : b = b'
    · have hb2 : (b != b') = false := by rw [bne_eq_false_iff_eq]; exact h2
      have HC : Hid (cmpL a b c a' b' c' = Lib.compareInt c c') := Lib.hid (by rw [cmpL, if_pos h, if_pos h2])
      clear h h2
      go_enter Tryd.func19, Tryd.ntmps19
      go_upto_region 1 with fail
      generalize (w.alloc (.cells #[.int .i64 a, .int .i64 b, .int .i64 c] 23)).alloc (.cells #[.int .i64 a', .int .i64 b', .int .i64 c'] 23) = W at *
      have hc00 := HX.cell 0 0 rfl rfl
      have hc01 := HX.cell 0 1 rfl rfl
      have hc02 := HX.cell 0 2 rfl rfl
      try simp only [List.getElem_toArray, List.getElem_cons_zero, List.getElem_cons_succ] at hc00 hc01 hc02
      have hc10 := HX.cell 1 0 rfl rfl
      have hc11 := HX.cell 1 1 rfl rfl
      have hc12 := HX.cell 1 2 rfl rfl
      try simp only [List.getElem_toArray, List.getElem_cons_zero, List.getElem_cons_succ] at hc10 hc11 hc12
      go_wp2_with fail
      refine (order_any _).mono ?_
      rintro e w3 ⟨rfl, rfl⟩
      go_wp2
      go_ret
      exact ⟨by rw [HC.out]; rfl, HX.below⟩
    · have hb2 : (b != b') = true := bne_iff_ne.2 h2
      have HC : Hid (cmpL a b c a' b' c' = Lib.compareInt b b') := Lib.hid (by rw [cmpL, if_pos h, if_neg h2])
      clear h h2
      go_enter Tryd.func19, Tryd.ntmps19
      go_upto_region 1 with fail
      generalize (w.alloc (.cells #[.int .i64 a, .int .i64 b, .int .i64 c] 23)).alloc (.cells #[.int .i64 a', .int .i64 b', .int .i64 c'] 23) = W at *
      have hc00 := HX.cell 0 0 rfl rfl
      have hc01 := HX.cell 0 1 rfl rfl
      have hc02 := HX.cell 0 2 rfl rfl
      try simp only [List.getElem_toArray, List.getElem_cons_zero, List.getElem_cons_succ] at hc00 hc01 hc02
      have hc10 := HX.cell 1 0 rfl rfl
      have hc11 := HX.cell 1 1 rfl rfl
      have hc12 := HX.cell 1 2 rfl rfl
      try simp only [List.getElem_toArray, List.getElem_cons_zero, List.getElem_cons_succ] at hc10 hc11 hc12
      go_wp2_with fail
      refine (order_any _).mono ?_
      rintro e w3 ⟨rfl, rfl⟩
      go_wp2
      go_ret
      exact ⟨by rw [HC.out]; rfl, HX.below⟩
  · have hb : (a != a') = true := bne_iff_ne.2 h
    have HC : Hid (cmpL a b c a' b' c' = Lib.compareInt a a') := Lib.hid (by rw [cmpL, if_neg h])
    clear h
    go_enter Tryd.func19, Tryd.ntmps19
    go_upto_region 1 with fail
    generalize (w.alloc (.cells #[.int .i64 a, .int .i64 b, .int .i64 c] 23)).alloc (.cells #[.int .i64 a', .int .i64 b', .int .i64 c'] 23) = W at *
    have hc00 := HX.cell 0 0 rfl rfl
    have hc01 := HX.cell 0 1 rfl rfl
    have hc02 := HX.cell 0 2 rfl rfl
    try simp only [List.getElem_toArray, List.getElem_cons_zero, List.getElem_cons_succ] at hc00 hc01 hc02
    have hc10 := HX.cell 1 0 rfl rfl
    have hc11 := HX.cell 1 1 rfl rfl
    have hc12 := HX.cell 1 2 rfl rfl
    try simp only [List.getElem_toArray, List.getElem_cons_zero, List.getElem_cons_succ] at hc10 hc11 hc12
    go_wp2_with fail
    refine (order_any _).mono ?_
    rintro e w3 ⟨rfl, rfl⟩
    go_wp2
    go_ret
    exact ⟨by rw [HC.out]; rfl, HX.below⟩
theorem numK_nil (k n : Nat) : numK k [] n = (n, []) := by cases k <;> rfl
set_option maxHeartbeats 1000000 in
set_option maxRecDepth 100000 in
theorem rnum_any {L : List UInt8} {N : Nat} (w : World) (hN : Hid ((numK 3 L 0).1 = N)) (hL : L.length ≤ 1000000000) :
    Calls Tryd.prog 35 #[.string (str L)] w fun e w' => e = .returned (.int .i64 (N : Int)) ∧ w' = w := by
  have hsz : (str L).size = L.length := str_size L
  go_enter Tryd.func35, Tryd.ntmps35
  go_wp2
  go_loopg [3, 4] 3 (fun k y i wr => ∃ (j n : Nat), j + k = 3 ∧ j ≤ L.length ∧ i = .int .i64 (j : Int) ∧ y = .int .i64 (n : Int) ∧ n < 1000 ∧ Hid (n < 10 ^ j) ∧ Hid ((numK k (L.drop j) n).1 = N) ∧ wr = w)
  case atStart => exact ⟨0, 0, by omega, by omega, rfl, rfl, by omega, Lib.hid (by omega), hN, rfl⟩
  case round =>
    obtain ⟨j, n, hj, hjl, rfl, rfl, hn, hnp, hk, rfl⟩ := hrel
    by_cases hj0 : j < L.length
    · have hix : ∀ h, (str L)[j]'h = L[j]'hj0 := fun _ => rfl
      have hd := List.drop_eq_getElem_cons hj0
      have hk2 := hk.out
      rw [hd] at hk2
      clear hd
      generalize L[j] = x at *
      by_cases hj3 : j < 3
      · obtain ⟨k, rfl⟩ : ∃ k, gk = k + 1 := ⟨gk - 1, by omega⟩
        rw [numK] at hk2
        by_cases hx : isDig x = true
        · rw [if_pos hx] at hk2
          rw [isDig_iff] at hx
          have hnp2 : 10 * n + (x.toNat - 48) < 10 ^ (j + 1) := by have := hnp.out; rw [Nat.pow_succ]; omega
          have hn2 : 10 * n + (x.toNat - 48) < 1000 := Nat.lt_of_lt_of_le hnp2 (Nat.pow_le_pow_right (by omega) (show j + 1 ≤ 3 by omega))
          have HK := Lib.hid hk2
          have HNP := Lib.hid hnp2
          clear hk2 hk hnp hnp2
          go_wp2
          go_roundg k
          case measure => omega
          case rel => exact ⟨j + 1, 10 * n + (x.toNat - 48), by omega, by omega, by go_num, by go_num, hn2, HNP, HK, by first | rfl | trivial⟩
        · rw [if_neg hx] at hk2
          have HK := Lib.hid hk2
          rw [isDig_iff] at hx
          clear hk2 hk
          by_cases hx1 : 48 ≤ x.toNat
          · have hx2 : ¬ x.toNat ≤ 57 := fun h => hx ⟨hx1, h⟩
            clear hx
            go_wp2
            go_ret
            exact ⟨by rw [← HK.out]; rfl, rfl⟩
          · clear hx
            go_wp2
            go_ret
            exact ⟨by rw [← HK.out]; rfl, rfl⟩
      · obtain rfl : gk = 0 := by omega
        rw [numK] at hk2
        have HK := Lib.hid hk2
        clear hk2 hk hix
        go_wp2
        go_ret
        exact ⟨by rw [← HK.out]; rfl, rfl⟩
    · have hk2 := hk.out
      rw [List.drop_eq_nil_of_le (by omega), numK_nil] at hk2
      have HK := Lib.hid hk2
      clear hk2 hk
      go_wp2
      go_ret
      exact ⟨by rw [← HK.out]; rfl, rfl⟩
set_option maxHeartbeats 1000000 in
set_option maxRecDepth 100000 in
theorem rparse_nil {a b c E : Int} (w : World) (hP : PL [] a b c E) : Calls Tryd.prog 17 #[.string (str [])] w (RetL w a b c E) := by
  obtain ⟨rfl, rfl, rfl, rfl⟩ := hP.nil
  have h0 : (str []).size = 0 := rfl
  have HX := BL.one w #[.int .i64 0, .int .i64 0, .int .i64 0] 23
  have hc00 := HX.cell 0 0 rfl rfl
  have hf00 := HX.free 0 0 rfl
  have hc01 := HX.cell 0 1 rfl rfl
  have hf01 := HX.free 0 1 rfl
  have hc02 := HX.cell 0 2 rfl rfl
  have hf02 := HX.free 0 2 rfl
  try simp only [List.getElem_toArray, List.getElem_cons_zero, List.getElem_cons_succ] at hc00 hf00 hc01 hf01 hc02 hf02
  go_enter Tryd.func17, Tryd.ntmps17
  go_wp2
  go_loopg [4] 0 (fun k s wr => s = .int .i64 0 ∧ k = 0 ∧ wr = w.alloc (.cells #[.int .i64 0, .int .i64 0, .int .i64 0] 23))
  case atStart => exact ⟨rfl, rfl, rfl⟩
  case round =>
    obtain ⟨rfl, rfl, rfl⟩ := hrel
    go_wp2
    clear hc00 hf00 hc01 hf01 hc02 hf02
    have hc00 := HX.cell 0 0 rfl rfl
    have hc01 := HX.cell 0 1 rfl rfl
    have hc02 := HX.cell 0 2 rfl rfl
    try simp only [List.getElem_toArray, List.getElem_cons_zero, List.getElem_cons_succ] at hc00 hc01 hc02
    exact bodyPost_ret (v := .tuple #[.agg #[.int .i64 0, .int .i64 0, .int .i64 0], .int .i64 3]) (by simp [results, Tryd.results17, go_sem, hc00, hc01, hc02]) rfl (show RetL w 0 0 0 3 _ _ from ⟨rfl, HX.below⟩)
/-- what the reference tries -/
def Hit (L : List UInt8) (N s t : Nat) : Prop := LOk (s : Int) (N : Int) (t : Int) ∧ labT (s : Int) (N : Int) (t : Int) = L
theorem PL.tried {x : UInt8} {r : List UInt8} {N : Nat} {a b c E : Int} (h : PL (x :: r) a b c E) (hN : (numK 3 r 0).1 = N) (hno : ∀ s t : Nat, s < 2 → t ≤ 9 → ¬ Hit (x :: r) N s t) : a = 0 ∧ b = 0 ∧ c = 0 ∧ E = 3 := by
  refine h.not fun a b c h3 h4 => ?_
  obtain ⟨_, _, _, g4⟩ := labT_cand h3 h4
  rw [g4] at hN
  obtain ⟨⟨a1, a2⟩, ⟨b1, b2⟩, c1, c2⟩ := h3
  refine hno a.toNat c.toNat (by omega) (by omega) ?_
  have e1 : ((a.toNat : Nat) : Int) = a := by omega
  have e2 : ((N : Nat) : Int) = b := by rw [← hN]; simp; omega
  have e3 : ((c.toNat : Nat) : Int) = c := by omega
  rw [Hit, e1, e2, e3]
  exact ⟨⟨⟨a1, a2⟩, ⟨b1, b2⟩, c1, c2⟩, h4⟩
set_option maxHeartbeats 8000000 in
set_option maxRecDepth 100000 in
theorem rparse_cons {x : UInt8} {r : List UInt8} {a b c E : Int} (w : World) (hl : (x :: r).length ≤ 20000) (hP : PL (x :: r) a b c E) : Calls Tryd.prog 17 #[.string (str (x :: r))] w (RetL w a b c E) := by
  replace hP := Lib.hid hP
  obtain ⟨N, hN⟩ : ∃ N, Hid ((numK 3 r 0).1 = N) := ⟨_, Lib.hid rfl⟩
  have hNb : N < 1000 := by have := numK_lt 3 r 0; have := hN.out; omega
  have hsz : (str (x :: r)).size = r.length + 1 := by rw [str_size]; rfl
  have hxr : (str (x :: r)).extract 1 (r.length + 1) = str r := by have := str_drop (x :: r) 1; simpa using this
  have hrl : r.length ≤ 1000000000 := by simp at hl; omega
  clear hl
  have HX := BL.one w #[.int .i64 0, .int .i64 0, .int .i64 0] 23
  go_enter Tryd.func17, Tryd.ntmps17
  go_wp2
  go_loopg [4] 2 (fun k s wr => ∃ j : Nat, j + k = 2 ∧ s = .int .i64 (j : Int) ∧ Hid (∀ s t : Nat, s < j → t ≤ 9 → ¬ Hit (x :: r) N s t) ∧ BL w wr [(w.heap.size, #[.int .i64 0, .int .i64 0, .int .i64 0], 23)])
  case atStart => exact ⟨0, by omega, rfl, Lib.hid (fun s t h => absurd h (by omega)), HX⟩
  case round =>
    clear HX
    obtain ⟨j, hj, rfl, hno, HX⟩ := hrel
    by_cases hj0 : j < 2
    · go_wp2
      go_loopg [5] 10 (fun k s wr' => ∃ i : Nat, i + k = 10 ∧ s = .int .i64 (i : Int) ∧ Hid (∀ t : Nat, t < i → ¬ Hit (x :: r) N j t) ∧ BL w wr' [(w.heap.size, #[.int .i64 0, .int .i64 0, .int .i64 0], 23)])
      case atStart => exact ⟨0, by omega, rfl, Lib.hid (fun t h => absurd h (by omega)), HX⟩
      case round =>
        clear HX
        obtain ⟨i, hi, rfl, hno2, HX⟩ := hrel
        by_cases hi0 : i < 10
        · go_wp2_with fail
          refine (rnum_any _ hN hrl).mono ?_
          rintro e w3 ⟨rfl, rfl⟩
          go_upto_region 8 with fail
          have HB := BL.one w3 #[.int .i64 (j : Int), .int .i64 (N : Int), .int .i64 (i : Int)] 23
          replace HX := HX.ext HB.below
          have hg0 := HB.lt 0 rfl
          simp only [] at hg0
          generalize w3.alloc (.cells #[.int .i64 (j : Int), .int .i64 (N : Int), .int .i64 (i : Int)] 23) = W4 at *
          have hd0 := HB.cell 0 0 rfl rfl
          have hd1 := HB.cell 0 1 rfl rfl
          have hd2 := HB.cell 0 2 rfl rfl
          try simp only [List.getElem_toArray, List.getElem_cons_zero, List.getElem_cons_succ] at hd0 hd1 hd2
          by_cases hv : LOk (j : Int) (N : Int) (i : Int)
          · have HV := yes hv
            obtain ⟨T, hT⟩ := PT.ex (j : Int) (N : Int) (i : Int)
            have hTl := hT.len
            have hlab : labT (j : Int) (N : Int) (i : Int) = T := by
              rcases hT with ⟨_, h⟩ | ⟨h, _⟩
              · exact h
              · exact absurd hv h
            have HT := Lib.hid hT
            clear hT
            have HVV := Lib.hid hv
            have HLAB := Lib.hid hlab
            clear hv hlab
            go_wp2_with fail
            refine (rvalid_any (v := true) _ HV).mono ?_
            rintro e w5 ⟨rfl, hb⟩
            clear hd0 hd1 hd2
            replace HX := HX.ext hb
            replace HB := HB.ext hb
            clear hb
            have hd0 := HB.cell 0 0 rfl rfl
            have hd1 := HB.cell 0 1 rfl rfl
            have hd2 := HB.cell 0 2 rfl rfl
            try simp only [List.getElem_toArray, List.getElem_cons_zero, List.getElem_cons_succ] at hd0 hd1 hd2
            go_wp2_with fail
            refine (rltext_any _ HT.out).mono ?_
            rintro e w6 ⟨rfl, hb⟩
            clear hd0 hd1 hd2
            replace HX := HX.ext hb
            replace HB := HB.ext hb
            clear hb
            have hd0 := HB.cell 0 0 rfl rfl
            have hd1 := HB.cell 0 1 rfl rfl
            have hd2 := HB.cell 0 2 rfl rfl
            try simp only [List.getElem_toArray, List.getElem_cons_zero, List.getElem_cons_succ] at hd0 hd1 hd2
            by_cases hE : T = x :: r
            · have hs : ((str T).toList == (str (x :: r)).toList) = true := str_eq (beq_iff_eq.2 hE)
              obtain ⟨rfl, rfl, rfl, rfl⟩ := hP.out.of HVV.out (HLAB.out.trans hE)
              clear hE
              have hc00 := HX.cell 0 0 rfl rfl
              have hf00 := HX.free 0 0 rfl
              have hc01 := HX.cell 0 1 rfl rfl
              have hf01 := HX.free 0 1 rfl
              have hc02 := HX.cell 0 2 rfl rfl
              have hf02 := HX.free 0 2 rfl
              try simp only [List.getElem_toArray, List.getElem_cons_zero, List.getElem_cons_succ] at hc00 hf00 hc01 hf01 hc02 hf02
              go_wp2
              clear hc00 hf00 hc01 hf01 hc02 hf02
              clear hd0 hd1 hd2
              replace HX := HX.put3 0 rfl (by omega) (by intro k q hk hne; match k, hk with | 0, hk => (simp at hk; subst hk; simp at hne ⊢; try omega) | k + 1, hk => simp at hk) (.int .i64 (j : Int)) (.int .i64 (N : Int)) (.int .i64 (i : Int))
              simp only [List.set_cons_zero] at HX
              have hc00 := HX.cell 0 0 rfl rfl
              have hc01 := HX.cell 0 1 rfl rfl
              have hc02 := HX.cell 0 2 rfl rfl
              try simp only [List.getElem_toArray, List.getElem_cons_zero, List.getElem_cons_succ] at hc00 hc01 hc02
              exact bodyPost_ret (v := .tuple #[.agg #[.int .i64 (j : Int), .int .i64 (N : Int), .int .i64 (i : Int)], .int .i64 0]) (by simp [results, Tryd.results17, go_sem, hc00, hc01, hc02]) rfl (show RetL w _ _ _ 0 _ _ from ⟨rfl, HX.below⟩)
            · have hs : ((str T).toList == (str (x :: r)).toList) = false := str_eq (beq_eq_false_iff_ne.2 hE)
              have hnx := Lib.hid (show ∀ t : Nat, t < i + 1 → ¬ Hit (x :: r) N j t from fun t ht hh => by
                by_cases h : t < i
                · exact hno2.out t h hh
                · obtain rfl : t = i := by omega
                  exact hE (HLAB.out.symm.trans hh.2))
              clear hE
              go_wp2
              go_roundg (10 - (i + 1))
              case measure => omega
              case rel => exact ⟨i + 1, by omega, by go_num, hnx, HX⟩
          · have HV := no hv
            have hnx := Lib.hid (show ∀ t : Nat, t < i + 1 → ¬ Hit (x :: r) N j t from fun t ht hh => by
              by_cases h : t < i
              · exact hno2.out t h hh
              · obtain rfl : t = i := by omega
                exact hv hh.1)
            clear hv
            go_wp2_with fail
            refine (rvalid_any (v := false) _ HV).mono ?_
            rintro e w5 ⟨rfl, hb⟩
            clear hd0 hd1 hd2
            replace HX := HX.ext hb
            replace HB := HB.ext hb
            clear hb
            have hd0 := HB.cell 0 0 rfl rfl
            have hd1 := HB.cell 0 1 rfl rfl
            have hd2 := HB.cell 0 2 rfl rfl
            try simp only [List.getElem_toArray, List.getElem_cons_zero, List.getElem_cons_succ] at hd0 hd1 hd2
            go_wp2
            go_roundg (10 - (i + 1))
            case measure => omega
            case rel => exact ⟨i + 1, by omega, by go_num, hnx, HX⟩
        · have hnx := Lib.hid (show ∀ s t : Nat, s < j + 1 → t ≤ 9 → ¬ Hit (x :: r) N s t from fun s t hs ht hh => by
            by_cases h : s < j
            · exact hno.out s t h ht hh
            · obtain rfl : s = j := by omega
              exact hno2.out t (by omega) hh)
          go_wp2
          go_roundg (2 - (j + 1))
          case measure => omega
          case rel => exact ⟨j + 1, by omega, by go_num, hnx, HX⟩
    · obtain ⟨rfl, rfl, rfl, rfl⟩ := hP.out.tried hN.out (by have := hno.out; rwa [show j = 2 by omega] at this)
      have hc00 := HX.cell 0 0 rfl rfl
      have hf00 := HX.free 0 0 rfl
      have hc01 := HX.cell 0 1 rfl rfl
      have hf01 := HX.free 0 1 rfl
      have hc02 := HX.cell 0 2 rfl rfl
      have hf02 := HX.free 0 2 rfl
      try simp only [List.getElem_toArray, List.getElem_cons_zero, List.getElem_cons_succ] at hc00 hf00 hc01 hf01 hc02 hf02
      go_wp2
      clear hc00 hf00 hc01 hf01 hc02 hf02
      replace HX := HX.put3 0 rfl (by omega) (by intro k q hk hne; match k, hk with | 0, hk => (simp at hk; subst hk; simp at hne ⊢; try omega) | k + 1, hk => simp at hk) (.int .i64 0) (.int .i64 0) (.int .i64 0)
      simp only [List.set_cons_zero] at HX
      have hc00 := HX.cell 0 0 rfl rfl
      have hc01 := HX.cell 0 1 rfl rfl
      have hc02 := HX.cell 0 2 rfl rfl
      try simp only [List.getElem_toArray, List.getElem_cons_zero, List.getElem_cons_succ] at hc00 hc01 hc02
      exact bodyPost_ret (v := .tuple #[.agg #[.int .i64 0, .int .i64 0, .int .i64 0], .int .i64 3]) (by simp [results, Tryd.results17, go_sem, hc00, hc01, hc02]) rfl (show RetL w 0 0 0 3 _ _ from ⟨rfl, HX.below⟩)
end Go.Proofs.YtlnajhochpbgpaaDoor
