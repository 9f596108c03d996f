/- The package natural: Norm, Small; the reference: Few, Small. -/
import Derived.Test.YtjacffmoccpogaaDoorBnat
import Derived.Test.YtjacffmoccpogaaDoorRef2
import Derived.Test.YtjacffmoccpogaaDoorHoist
namespace Go.Proofs.YtjacffmoccpogaaDoor
open Go.RowKit Go.Proofs Go

set_option maxHeartbeats 400000 in
set_option maxRecDepth 100000 in
theorem nnorm_any (A : Option Addr) (n c : Nat) (l : List Nat) (w : World) (H : Lim w A c l) (hn : n = l.length) (hl : n ≤ 1073741824) :
    Calls Tryd.prog 35 #[.agg #[.slice A n c]] w (RetN w (val l)) := by
  have hdl := dig_len_of H.small hn
  have HN := Lib.hid hn
  clear hn
  go_enter Tryd.func35, Tryd.ntmps35
  go_wp2_with fail
  have HX := Bx.two w #[.slice A n c] #[.slice none 0 0] 24 24
  refine (limbs_any A n c l _ (H.ext HX.below) HN.out (by omega)).mono ?_
  rintro e w1 ⟨A1, c1, rfl, H1, hb1⟩
  have HX1 := HX.ext hb1
  go_wp2_with fail
  refine (made_any A1 _ c1 (dig (val l)) _ H1 (dig_Dig _) rfl (by omega)).mono ?_
  rw [val_dig]
  rintro e w4 ⟨A4, c4, rfl, H4, hb4⟩
  have HX5 := HX1.ext hb4
  have hc4 := HX5.cell 1 0 rfl rfl
  have hf4 := HX5.free 1 0 rfl
  go_wp2
  have hav := H4.avoid_blk (HX5.blk 1 rfl) (by simp [Value.noInt])
  have hq := set_same (v := .slice A4 (dig (val l)).length c4) hc4
  exact bodyPost_ret (v := .agg #[.slice A4 (dig (val l)).length c4]) (by simp [results, Tryd.results35, go_sem, hq]) rfl ⟨A4, c4, rfl, H4.setCell hav _, HX5.below.setCell (by simp) _⟩

/-- the value, if it fits into a machine word -/
def smallV (N : Nat) : Nat := if N < 18446744073709551616 then N else 0
def RetSm (w : World) (N : Nat) (e : Ending) (w' : World) : Prop := e = .returned (.tuple #[.int .u64 (smallV N : Int), .bool (decide (N < 18446744073709551616))]) ∧ Below w.heap.size w w'
theorem RetSm.yes {w w' : World} {N : Nat} (h : Hid (N < 18446744073709551616)) (hb : Below w.heap.size w w') : RetSm w N (.returned (.tuple #[.int .u64 (N : Int), .bool true])) w' :=
  ⟨by rw [smallV, if_pos h.out, decide_eq_true h.out], hb⟩
theorem RetSm.no {w w' : World} {N : Nat} (h : Hid (18446744073709551616 ≤ N)) (hb : Below w.heap.size w w') : RetSm w N (.returned (.tuple #[.int .u64 0, .bool false])) w' :=
  ⟨by have := h.out; rw [smallV, if_neg (by omega), decide_eq_false (by omega)]; rfl, hb⟩
theorem max_len : (dig 18446744073709551615).length ≤ 3 := dig_len_le (by decide)

set_option maxHeartbeats 400000 in
set_option maxRecDepth 100000 in
theorem nsmall_any (A : Option Addr) (n c : Nat) (l : List Nat) (w : World) (H : Lim w A c l) (hn : n = l.length) (hl : n ≤ 1073741824) :
    Calls Tryd.prog 22 #[.agg #[.slice A n c]] w (RetSm w (val l)) := by
  have hdl := dig_len_of H.small hn
  have HN := Lib.hid hn
  clear hn
  have hml := max_len
  obtain ⟨N, hN⟩ : ∃ N, val l = N := ⟨_, rfl⟩
  rw [hN] at hdl
  rw [hN]
  have HV := Lib.hid hN
  clear hN
  generalize hM : (18446744073709551615 : Nat) = M at hml
  have HM := Lib.hid hM
  go_enter Tryd.func22, Tryd.ntmps22
  go_wp2_with fail
  have HX := BL.one w #[.slice A n c] 24
  refine (limbs_any A n c l _ (H.ext HX.below) HN.out (by omega)).mono ?_
  rintro e w1 ⟨A1, c1, rfl, H1, hb⟩
  rw [HV.out] at H1
  rw [HV.out]
  replace HX := HX.ext hb
  go_wp2_with fail
  refine (nof_any 18446744073709551615 _ (by omega)).mono ?_
  rw [hM]
  clear hM
  rintro e w2 ⟨A2, c2, rfl, H2, hb⟩
  replace HX := HX.ext hb
  replace H1 := H1.ext hb
  go_wp2_with fail
  refine (limbs_any A2 _ c2 (dig M) _ H2 rfl (by omega)).mono ?_
  rw [val_dig]
  rintro e w3 ⟨A3, c3, rfl, H3, hb⟩
  replace HX := HX.ext hb
  replace H1 := H1.ext hb
  go_wp2_with fail
  refine (compare_any A1 A3 _ _ c1 c3 _ _ _ H1 H3 rfl rfl (by omega) (by omega)).mono ?_
  rintro e w4 ⟨rfl, hw4⟩
  have hb := hw4.below w3.heap.size
  replace HX := HX.ext hb
  replace H1 := H1.ext hb
  clear H2 H3 hb hw4 H
  by_cases hlt : M < N
  · have hbig := Lib.hid (show 18446744073709551616 ≤ N by have := HM.out; omega)
    rw [cmpI_gt hlt]
    go_wp2
    go_ret2
    exact RetSm.no hbig HX.below
  · have hcmp : decide (0 < cmpI N M) = false := by
      rcases Nat.lt_or_ge N M with h | h
      · rw [cmpI_lt h]; rfl
      · rw [cmpI_eq (by omega)]; rfl
    have hfit := Lib.hid (show N < 18446744073709551616 by have := HM.out; omega)
    clear hlt
    have hfit2 := hfit.out
    go_wp2
    go_loopw [6, 7] (fun x i wr => ∃ k : Nat, k ≤ (dig N).length ∧ i = .int .i64 ((k : Int) - 1) ∧ x = .int .u64 ((N / pw k : Nat) : Int) ∧ wr = w4) (fun _ i _ => (intOf i + 1).toNat)
    case atStart => exact ⟨(dig N).length, Nat.le_refl _, rfl, by rw [div_len N (Nat.le_refl _)]; rfl, rfl⟩
    case round =>
      obtain ⟨k, hk, rfl, rfl, rfl⟩ := hrel
      by_cases hk0 : 0 < k
      · obtain ⟨j, rfl⟩ : ∃ j, k = j + 1 := ⟨k - 1, by omega⟩
        obtain ⟨ad, rfl, _, hc⟩ := H1.cellAt (j := j) (by omega)
        have hj : ((j + 1 : Nat) : Int) - 1 = j := by omega
        rw [hj]
        have hd := dig_Dig N j
        have hdp := div_pw_succ N j
        have hle : N / pw j ≤ N := Nat.div_le_self _ _
        have hlt2 : (j : Int) < ((dig N).length : Int) := by omega
        have HD := Lib.hid hdp
        have hb : 1000000000 * (N / pw (j + 1)) + at_ (dig N) j < 18446744073709551616 := by omega
        clear hdp hle
        generalize N / pw (j + 1) = x at *
        go_wp2
        go_roundw
        case rel => exact ⟨j, by omega, rfl, by rw [HD.out]; go_num, by first | rfl | trivial⟩
        case measure => simp [intOf]
      · obtain rfl : k = 0 := by omega
        rw [pw_zero, Nat.div_one]
        go_wp2
        go_ret2
        exact RetSm.yes hfit HX.below

def fewN (n m : Nat) : Bool := decide (n ≤ 12) && decide (m ≤ 12)
set_option maxHeartbeats 400000 in
set_option maxRecDepth 100000 in
theorem rfew_any (A B : Option Addr) (n m c d : Nat) (w : World) (hn : n ≤ 9223372036854775807) (hm : m ≤ 9223372036854775807) :
    Calls Tryd.prog 14 #[.agg #[.slice A n c], .agg #[.slice B m d]] w (RetB w (fewN n m)) := by
  have HX := Bx.two w #[.slice A n c] #[.slice B m d] 24 24
  by_cases h1 : n ≤ 12
  · have t1 : decide ((n : Int) ≤ 12) = true := decide_eq_true (by omega)
    by_cases h2 : m ≤ 12
    · have t2 : decide ((m : Int) ≤ 12) = true := decide_eq_true (by omega)
      have hf := Lib.hid (show fewN n m = true by simp [fewN, h1, h2])
      go_enter Tryd.func14, Tryd.ntmps14
      go_wp2
      go_ret
      exact ⟨by rw [hf.out]; rfl, HX.below⟩
    · have t2 : decide ((m : Int) ≤ 12) = false := decide_eq_false (by omega)
      have hf := Lib.hid (show fewN n m = false by simp [fewN, h2])
      go_enter Tryd.func14, Tryd.ntmps14
      go_wp2
      go_ret
      exact ⟨by rw [hf.out]; rfl, HX.below⟩
  · have t1 : decide ((n : Int) ≤ 12) = false := decide_eq_false (by omega)
    have hf := Lib.hid (show fewN n m = false by simp [fewN, h1])
    go_enter Tryd.func14, Tryd.ntmps14
    go_wp2
    go_ret
    exact ⟨by rw [hf.out]; rfl, HX.below⟩

set_option maxHeartbeats 400000 in
set_option maxRecDepth 100000 in
theorem rsmall_any (A : Option Addr) (n c : Nat) (l : List Nat) (w : World) (H : Lim w A c l) (hn : n = l.length) (hl : n ≤ 536870912) :
    Calls Tryd.prog 23 #[.agg #[.slice A n c]] w (RetSm w (val l)) := by
  have hdl := dig_len_of H.small hn
  have HN := Lib.hid hn
  clear hn
  have hml := max_len
  obtain ⟨N, hN⟩ : ∃ N, val l = N := ⟨_, rfl⟩
  rw [hN] at hdl
  rw [hN]
  have HV := Lib.hid hN
  clear hN
  generalize hM : (18446744073709551615 : Nat) = M at hml
  have HM := Lib.hid hM
  go_enter Tryd.func23, Tryd.ntmps23
  go_wp2_with fail
  have HX := BL.one w #[.slice A n c] 24
  refine (rnorm_any A n c l _ (H.ext HX.below) HN.out (by omega)).mono ?_
  rw [HV.out]
  rintro e w1 ⟨A1, c1, rfl, H1, hb⟩
  replace HX := HX.ext hb
  have hc00 := HX.cell 0 0 rfl rfl
  have hf00 := HX.free 0 0 rfl
  simp only [] at hc00 hf00
  go_upto_region 2 with fail
  have hk := HX.keep1 0 rfl rfl (.slice A1 (dig N).length c1)
  replace HX := HX.put1 0 rfl (by omega) (by intro k q hk hne; match k, hk with | 0, hk => (simp at hk; subst hk; simp at hne ⊢; try omega) | k + 1, hk => simp at hk) (.slice A1 (dig N).length c1)
  replace H1 := H1.stay hk
  simp only [List.set_cons_zero] at HX
  clear hc00 hf00 hk hb
  generalize w1.setCell ⟨w.heap.size, 0, none⟩ (.slice A1 (dig N).length c1) = W2 at *
  have held : ∀ {W' : World}, BL w W' [(w.heap.size, #[.slice A1 (dig N).length c1], 24)] → W'.cell? ⟨w.heap.size, 0, none⟩ = some (.slice A1 (dig N).length c1) := fun h => h.cell 0 0 rfl rfl
  replace HX := HX.ext (drew_ext _)
  replace H1 := H1.ext (drew_ext _)
  go_region_held3 (fun W' => W'.cell? ⟨w.heap.size, 0, none⟩ = some (.slice A1 (dig N).length c1))
    (exact held HX)
    (first
      | (go_at_call 51; refine (rof_any 18446744073709551615 _ (by omega)).mono ?_; rw [hM]; rintro e w3 ⟨A2, c2, rfl, H2, hb⟩; replace HX := HX.ext hb; replace H1 := H1.ext hb; clear hb)
      | (go_at_call 38; refine (rcmp_any A1 A2 _ _ c1 c2 (dig N) (dig M) _ H1 H2 rfl rfl (by omega) (by omega)).mono ?_; rw [val_dig, val_dig]; rintro e w4 ⟨rfl, hb⟩; replace HX := HX.ext hb; replace H1 := H1.ext hb; clear hb))
  clear H2 H held hM
  have hc00 := HX.cell 0 0 rfl rfl
  simp only [] at hc00
  by_cases hlt : M < N
  · have hbig := Lib.hid (show 18446744073709551616 ≤ N by have := HM.out; omega)
    rw [cmpI_gt hlt]
    go_wp2
    go_ret2
    exact RetSm.no hbig HX.below
  · have hcmp : decide (0 < cmpI N M) = false := by
      rcases Nat.lt_or_ge N M with h | h
      · rw [cmpI_lt h]; rfl
      · rw [cmpI_eq (by omega)]; rfl
    have hfit := Lib.hid (show N < 18446744073709551616 by have := HM.out; omega)
    clear hlt
    have hfit2 := hfit.out
    rw [hcmp]
    go_wp2
    go_loopw [4, 5] (fun x i wr => ∃ k : Nat, k ≤ (dig N).length ∧ i = .int .i64 ((k : Int) - 1) ∧ x = .int .u64 ((N / pw k : Nat) : Int) ∧ wr = w4) (fun _ i _ => (intOf i + 1).toNat)
    case atStart => exact ⟨(dig N).length, Nat.le_refl _, rfl, by rw [div_len N (Nat.le_refl _)]; rfl, rfl⟩
    case round =>
      obtain ⟨k, hk, rfl, rfl, rfl⟩ := hrel
      by_cases hk0 : 0 < k
      · obtain ⟨j, rfl⟩ : ∃ j, k = j + 1 := ⟨k - 1, by omega⟩
        obtain ⟨ad, rfl, _, hc⟩ := H1.cellAt (j := j) (by omega)
        have hj : ((j + 1 : Nat) : Int) - 1 = j := by omega
        rw [hj]
        have hd := dig_Dig N j
        have hdp := div_pw_succ N j
        have hle : N / pw j ≤ N := Nat.div_le_self _ _
        have hlt2 : (j : Int) < ((dig N).length : Int) := by omega
        have HD := Lib.hid hdp
        have hb : 1000000000 * (N / pw (j + 1)) + at_ (dig N) j < 18446744073709551616 := by omega
        clear hdp hle
        generalize N / pw (j + 1) = x at *
        go_wp2
        go_roundw
        case rel => exact ⟨j, by omega, rfl, by rw [HD.out]; go_num, by first | rfl | trivial⟩
        case measure => simp [intOf]
      · obtain rfl : k = 0 := by omega
        rw [pw_zero, Nat.div_one]
        go_wp2
        go_ret2
        exact RetSm.yes hfit HX.below
end Go.Proofs.YtjacffmoccpogaaDoor
