/- The reference of layer 1, second part: Add, Sub, Mul. Printed by genref2.py. -/
import Derived.Test.YthempimelfmipaaGreatDoorRef1
namespace Go.Proofs.YthempimelfmipaaGreatDoor
open Go.RowKit Go.Proofs


theorem small_snoc {o : List Nat} {x : Nat} (h : ∀ j, at_ o j < 4294967296) (hx : x < 4294967296) (j : Nat) : at_ (o ++ [x]) j < 4294967296 := by
  by_cases hj : j < o.length
  · rw [at_append_l hj]; exact h j
  · rw [at_append_r (by omega)]
    cases e : j - o.length with
    | zero => rw [at_zero]; exact hx
    | succ k => rw [at_succ, at_nil]; omega

def RetNEF (w : World) (n : Nat) (err : Int) (e : Ending) (w' : World) : Prop := ∃ A c, e = .returned (.tuple #[.agg #[.slice A (dig n).length c], .int .i64 err]) ∧ Lim w' A c (dig n) ∧ Below w.heap.size w w' ∧ ∀ g, g < w.heap.size → Avoid g A (dig n).length
theorem RetNEF.ret {w w' : World} {n : Nat} {err : Int} {e : Ending} (h : RetNEF w n err e w') : RetNE w n err e w' := by
  obtain ⟨A, c, h1, h2, h3, _⟩ := h
  exact ⟨A, c, h1, h2, h3⟩
theorem RetNEF.nil {w w' : World} {err : Int} (hb : Below w.heap.size w w') : RetNEF w 0 err (.returned (.tuple #[.agg #[.slice none 0 0], .int .i64 err])) w' := ⟨none, 0, rfl, Lim.nil _ _ _, hb, fun _ _ h => absurd h (by simp [dig_zero])⟩


set_option maxHeartbeats 1000000 in
set_option maxRecDepth 1000000 in
theorem rsub_new (A B : Option Addr) (n m c d : Nat) (l r : List Nat) (w : World) (HA : Lim w A c l) (HB : Lim w B d r) (hn : n = l.length) (hm : m = r.length) (hl : n ≤ 1073741824) (hl2 : m ≤ 1073741824) :
    Calls Tryz.prog 122 #[.agg #[.slice A n c], .agg #[.slice B m d]] w (RetNEF w (val l - val r) (if val l < val r then 2 else 0)) := by
  have hdl := dig_len_of HA.small hn
  have hdr := dig_len_of HB.small hm
  have HN := Lib.hid hn
  have HM := Lib.hid hm
  clear hn hm
  by_cases hlt : val l < val r
  · rw [if_pos hlt, show val l - val r = 0 from by omega]
    have hcmp : decide (cmpI (val l) (val r) < 0) = true := by rw [cmpI_lt hlt]; rfl
    go_enter Tryz.func122, Tryz.ntmps122
    go_wp2_with fail
    have HX := Bx.three w #[.slice A n c] #[.slice B m d] #[.slice none 0 0] 31 31 31
    refine (rcmp_any A B n m c d l r _ (HA.ext HX.below) (HB.ext HX.below) HN.out HM.out hl hl2).mono ?_
    rintro e w0 ⟨rfl, hb0⟩
    have HX0 := HX.ext hb0
    have hc4 := HX0.cell 2 0 rfl rfl
    have hf4 := HX0.free 2 0 rfl
    go_wp2
    have hq := set_same (v := .slice none 0 0) hc4
    exact bodyPost_ret (v := .tuple #[.agg #[.slice none 0 0], .int .i64 2]) (by simp [results, Tryz.results122, go_sem, hq]) rfl (RetNEF.nil (HX0.below.setCell (by simp; omega) _))
  · rw [if_neg hlt]
    have hge : val r ≤ val l := by omega
    have hcmp : decide (cmpI (val l) (val r) < 0) = false := by
      rcases Nat.lt_or_ge (val r) (val l) with h | h
      · rw [cmpI_gt h]; rfl
      · rw [cmpI_eq (by omega)]; rfl
    have hmono := dig_mono hge
    go_enter Tryz.func122, Tryz.ntmps122
    go_wp2_with fail
    have HX := Bx.three w #[.slice A n c] #[.slice B m d] #[.slice none 0 0] 31 31 31
    refine (rcmp_any A B n m c d l r _ (HA.ext HX.below) (HB.ext HX.below) HN.out HM.out hl hl2).mono ?_
    rintro e w0 ⟨rfl, hb0⟩
    have HX := HX.ext hb0
    have hcc := HX.cell0 0 rfl rfl
    go_wp2_with fail
    clear hcc
    refine (rnorm_any A n c l _ (HA.ext HX.below) HN.out (by omega)).mono ?_
    rintro e w1 ⟨A1, c1, rfl, H1, hb1⟩
    have HX1 := HX.ext hb1
    have hc0 := HX1.cell0 0 rfl rfl
    have hf0 := HX1.free0 0 rfl
    have hav1 := H1.avoid_blk (HX1.blk0 rfl) (by simp [Value.noInt])
    have H1' := H1.setCell (p := ⟨w.heap.size, 0, none⟩) hav1 (.slice A1 (dig (val l)).length c1)
    have HX2 : Bx w (w1.setCell ⟨w.heap.size, 0, none⟩ (.slice A1 (dig (val l)).length c1)) _ := HX1.set 0 0 rfl (.slice A1 (dig (val l)).length c1)
    have hc1 := HX2.cell 1 0 rfl rfl
    go_wp2_with fail
    refine (rnorm_any B m d r _ (HB.ext HX2.below) HM.out (by omega)).mono ?_
    rintro e w2 ⟨A2, c2, rfl, H2, hb2⟩
    have HX3 := HX2.ext hb2
    have H1 := H1'.ext hb2
    clear H1' hav1 hc0 hf0 hc1
    have hc1 := HX3.cell 1 0 rfl rfl
    have hf1 := HX3.free 1 0 rfl
    have hav1 := H1.avoid_blk (HX3.blk 1 rfl) (by simp [Value.noInt])
    have hav2 := H2.avoid_blk (HX3.blk 1 rfl) (by simp [Value.noInt])
    have H1' := H1.setCell (p := ⟨w.heap.size + 1, 0, none⟩) hav1 (.slice A2 (dig (val r)).length c2)
    have H2' := H2.setCell (p := ⟨w.heap.size + 1, 0, none⟩) hav2 (.slice A2 (dig (val r)).length c2)
    have HX4 := HX3.set 1 0 rfl (.slice A2 (dig (val r)).length c2)
    obtain ⟨W, hW⟩ : ∃ W, W = w2.setCell ⟨w.heap.size + 1, 0, none⟩ (.slice A2 (dig (val r)).length c2) := ⟨_, rfl⟩
    rw [← hW] at H1' H2' HX4
    go_upto_region 5 with fail
    rw [← hW]
    clear hW H1 H2 hav1 hav2 hc1 hf1 HX HX1 HX2 HX3 hb1 hb2
    have hx0 := HX4.cell0 0 rfl rfl
    have hx1 := HX4.cell 1 0 rfl rfl
    have hsz0 := HX4.size
    simp at hsz0
    go_wp2
    go_loopw [6, 7, 8] (fun s cy i wr => ∃ (k : Nat) (o : List Nat) (br : Nat) (A' : Option Addr) (c' : Nat), k ≤ (dig (val l)).length ∧ MinusAt (dig (val l)) (dig (val r)) k o br ∧ s = .slice A' k c' ∧ cy = .int .i64 br ∧ i = .int .i64 k ∧ Own wr W.heap.size 97 A' k c' (ints .u32 o) ∧ Below W.heap.size W wr)
      (fun _ _ i _ => (dig (val l)).length - (intOf i).toNat)
    case atStart => exact ⟨0, [], 0, none, 0, by omega, ⟨rfl, Dig.nil, by omega, rfl⟩, rfl, rfl, rfl, World.ownsRow_nil _ _ _ _, Below.refl _ _⟩
    case round =>
      obtain ⟨k, o, br, A', c', hk, hL, rfl, rfl, rfl, hown, hb⟩ := hrel
      have hcar := hL.car
      have hsz := hb.size
      have HXr := HX4.ext hb
      clear hx0 hx1
      have hx0 := HXr.cell0 0 rfl rfl
      have hx1 := HXr.cell 1 0 rfl rfl
      have hd1 := dig_Dig (val l) k
      have hd2 := dig_Dig (val r) k
      by_cases hka : k < (dig (val l)).length
      · obtain ⟨ad, rfl, _, hc⟩ := (H1'.ext hb).cellAt hka
        by_cases hkb : k < (dig (val r)).length
        · obtain ⟨bd, rfl, _, hc2⟩ := (H2'.ext hb).cellAt hkb
          by_cases hneg : at_ (dig (val l)) k < br + at_ (dig (val r)) k
          · have hx := hL.next (x := at_ (dig (val l)) k + 1000000000 - br - at_ (dig (val r)) k) (br2 := 1) (by omega) (by omega) (by omega)
            go_wp2_with (at_builtin; refine wp_push EU _ rfl _ _ rfl rfl rfl hown (by rfl) (by omega) (by omega) (by omega) ?_)
            intro A5 c5 w5 hown5 hgr5 hb5 hlt5
            go_wp2
            go_roundw
            case rel => exact ⟨k + 1, _, _, _, _, by omega, hx, rfl, rfl, by go_num, own_snoc hown5 (by omega), hb.trans hb5⟩
            case measure => simp [intOf]; omega
          · have hx := hL.next (x := at_ (dig (val l)) k - br - at_ (dig (val r)) k) (br2 := 0) (by omega) (by omega) (by omega)
            go_wp2_with (at_builtin; refine wp_push EU _ rfl _ _ rfl rfl rfl hown (by rfl) (by omega) (by omega) (by omega) ?_)
            intro A5 c5 w5 hown5 hgr5 hb5 hlt5
            go_wp2
            go_roundw
            case rel => exact ⟨k + 1, _, _, _, _, by omega, hx, rfl, rfl, by go_num, own_snoc hown5 (by omega), hb.trans hb5⟩
            case measure => simp [intOf]; omega
        · have hz : at_ (dig (val r)) k = 0 := at_ge (by omega)
          by_cases hneg : at_ (dig (val l)) k < br
          · have hx := hL.next (x := at_ (dig (val l)) k + 1000000000 - br) (br2 := 1) (by omega) (by omega) (by omega)
            clear hz
            go_wp2_with (at_builtin; refine wp_push EU _ rfl _ _ rfl rfl rfl hown (by rfl) (by omega) (by omega) (by omega) ?_)
            intro A5 c5 w5 hown5 hgr5 hb5 hlt5
            go_wp2
            go_roundw
            case rel => exact ⟨k + 1, _, _, _, _, by omega, hx, rfl, rfl, by go_num, own_snoc hown5 (by omega), hb.trans hb5⟩
            case measure => simp [intOf]; omega
          · have hx := hL.next (x := at_ (dig (val l)) k - br) (br2 := 0) (by omega) (by omega) (by omega)
            clear hz
            go_wp2_with (at_builtin; refine wp_push EU _ rfl _ _ rfl rfl rfl hown (by rfl) (by omega) (by omega) (by omega) ?_)
            intro A5 c5 w5 hown5 hgr5 hb5 hlt5
            go_wp2
            go_roundw
            case rel => exact ⟨k + 1, _, _, _, _, by omega, hx, rfl, rfl, by go_num, own_snoc hown5 (by omega), hb.trans hb5⟩
            case measure => simp [intOf]; omega
      · obtain rfl : k = (dig (val l)).length := by omega
        have HVX := Lib.hid (hL.done hge)
        have hlen := hL.len
        have hown3 : Own wr W.heap.size 97 A' o.length c' (ints .u32 o) := by rw [hlen]; exact hown
        have HLX := Own.lim hown3 (small_of_dig hL.dg)
        have HLN := Lib.hid hlen.symm
        clear hlen hown3
        go_wp2_with fail
        refine (rnorm_new A' _ c' o _ HLX HLN.out (by omega)).mono ?_
        rintro e w4 ⟨A4, c4, rfl, H4, hb4, hav4⟩
        rw [HVX.out] at H4 hav4
        rw [HVX.out]
        have HX5 := HXr.ext hb4
        have hc4 := HX5.cell 2 0 rfl rfl
        have hf4 := HX5.free 2 0 rfl
        go_wp2
        have hav := H4.avoid_blk (HX5.blk 2 rfl) (by simp [Value.noInt])
        have hq := set_same (v := .slice A4 (dig (val l - val r)).length c4) hc4
        exact bodyPost_ret (v := .tuple #[.agg #[.slice A4 (dig (val l - val r)).length c4], .int .i64 0]) (by simp [results, Tryz.results122, go_sem, hq]) rfl ⟨A4, c4, rfl, H4.setCell hav _, HX5.below.setCell (by simp; omega) _, fun g hg => hav4 g (Nat.lt_of_lt_of_le hg HXr.below.size)⟩


theorem rsub_any (A B : Option Addr) (n m c d : Nat) (l r : List Nat) (w : World) (HA : Lim w A c l) (HB : Lim w B d r) (hn : n = l.length) (hm : m = r.length) (hl : n ≤ 1073741824) (hl2 : m ≤ 1073741824) :
    Calls Tryz.prog 122 #[.agg #[.slice A n c], .agg #[.slice B m d]] w (RetNE w (val l - val r) (if val l < val r then 2 else 0)) := (rsub_new A B n m c d l r w HA HB hn hm hl hl2).mono fun _ _ h => h.ret
structure RMulAt (l m : List Nat) (k : Nat) (o : List Nat) : Prop where
  len : o.length = l.length + m.length + 1
  dg : Dig o
  eq : val o = val (l.take k) * val m
  zer : ∀ p, k + m.length ≤ p → at_ o p = 0
structure RInAt (l m : List Nat) (k j : Nat) (o : List Nat) (carry : Nat) : Prop where
  len : o.length = l.length + m.length + 1
  dg : Dig o
  car : carry < 1000000000
  eq : val o + pw (k + j) * carry = val (l.take k) * val m + pw k * at_ l k * val (m.take j)
  zer : ∀ p, k + m.length ≤ p → k + j ≤ p → at_ o p = 0
  jle : j ≤ m.length + 1
  fin : j = m.length + 1 → carry = 0
theorem RMulAt.start {l m : List Nat} {k : Nat} {o : List Nat} (h : RMulAt l m k o) : RInAt l m k 0 o 0 :=
  ⟨h.len, h.dg, by omega, by rw [h.eq, List.take_zero, val_nil]; omega, fun p hp _ => h.zer p hp, by omega, fun _ => rfl⟩
theorem RInAt.next {l m : List Nat} {k j s : Nat} {o : List Nat} {carry : Nat} (h : RInAt l m k j o carry) (hk : k < l.length) (hj : j < m.length) (hl : Dig l) (hm : Dig m)
    (hs : s = at_ o (k + j) + carry + at_ l k * at_ m j) : RInAt l m k (j + 1) (o.set (k + j) (s % 1000000000)) (s / 1000000000) := by
  have h1 := h.car
  have h2 := h.dg (k + j)
  have h3 := mul_digits (hl k) (hm j)
  have hlt : k + j < o.length := by rw [h.len]; omega
  refine ⟨by rw [List.length_set]; exact h.len, h.dg.set _ (by omega), by omega, ?_, fun p hp hp2 => by rw [at_set_ne (by omega)]; exact h.zer p hp (by omega), by omega, fun he => absurd he (by omega)⟩
  have e1 := val_set hlt (s % 1000000000)
  have e2 := h.eq
  rw [val_take_succ hj, ← Nat.add_assoc k j 1, pw_succ]
  rw [pw_add] at *
  have e : s = 1000000000 * (s / 1000000000) + s % 1000000000 := by omega
  generalize s / 1000000000 = q at *
  generalize s % 1000000000 = r at *
  generalize val (o.set (k + j) r) = v' at *
  grind
theorem RInAt.last {l m : List Nat} {k : Nat} {o : List Nat} {carry : Nat} (h : RInAt l m k m.length o carry) (hk : k < l.length) : RInAt l m k (m.length + 1) (o.set (k + m.length) carry) 0 := by
  have hlt : k + m.length < o.length := by rw [h.len]; omega
  refine ⟨by rw [List.length_set]; exact h.len, h.dg.set _ h.car, by omega, ?_, fun p hp hp2 => by rw [at_set_ne (by omega)]; exact h.zer p hp (by omega), Nat.le_refl _, fun _ => rfl⟩
  have e1 := val_set hlt carry
  have e2 := h.eq
  rw [h.zer _ (Nat.le_refl _) (Nat.le_refl _)] at e1
  rw [List.take_of_length_le (Nat.le_refl _)] at e2
  rw [List.take_of_length_le (Nat.le_succ _), Nat.mul_zero, Nat.add_zero]
  rw [Nat.mul_zero, Nat.add_zero] at e1
  rw [e1, e2]
theorem RInAt.finish {l m : List Nat} {k j : Nat} {o : List Nat} (h : RInAt l m k j o 0) (hk : k < l.length) (hj : m.length ≤ j) : RMulAt l m (k + 1) o := by
  have e := h.eq
  have hle := h.jle
  rw [List.take_of_length_le hj] at e
  refine ⟨h.len, h.dg, ?_, fun p hp => h.zer p (by omega) (by omega)⟩
  rw [val_take_succ hk, Nat.add_mul]
  omega


set_option maxHeartbeats 1000000 in
set_option maxRecDepth 1000000 in
theorem rmul_any (A B : Option Addr) (n m c d : Nat) (l r : List Nat) (w : World) (HA : Lim w A c l) (HB : Lim w B d r) (hn : n = l.length) (hm : m = r.length) (hl : n ≤ 1073741824) (hl2 : m ≤ 1073741824) :
    Calls Tryz.prog 101 #[.agg #[.slice A n c], .agg #[.slice B m d]] w (RetN w (val l * val r)) := by
  have hdl := dig_len_of HA.small hn
  have hdr := dig_len_of HB.small hm
  have HN := Lib.hid hn
  have HM := Lib.hid hm
  clear hn hm
  go_enter Tryz.func101, Tryz.ntmps101
  go_wp2_with fail
  have HX := Bx.three w #[.slice A n c] #[.slice B m d] #[.slice none 0 0] 31 31 31
  refine (rnorm_any A n c l _ (HA.ext HX.below) HN.out (by omega)).mono ?_
  rintro e w1 ⟨A1, c1, rfl, H1, hb1⟩
  have HX1 := HX.ext hb1
  have hc0 := HX1.cell0 0 rfl rfl
  have hf0 := HX1.free0 0 rfl
  have hav1 := H1.avoid_blk (HX1.blk0 rfl) (by simp [Value.noInt])
  have H1' := H1.setCell (p := ⟨w.heap.size, 0, none⟩) hav1 (.slice A1 (dig (val l)).length c1)
  have HX2 : Bx w (w1.setCell ⟨w.heap.size, 0, none⟩ (.slice A1 (dig (val l)).length c1)) _ := HX1.set 0 0 rfl (.slice A1 (dig (val l)).length c1)
  have hc1 := HX2.cell 1 0 rfl rfl
  go_wp2_with fail
  refine (rnorm_any B m d r _ (HB.ext HX2.below) HM.out (by omega)).mono ?_
  rintro e w2 ⟨A2, c2, rfl, H2, hb2⟩
  have HX3 := HX2.ext hb2
  have H1 := H1'.ext hb2
  clear H1' hav1 hc0 hf0 hc1
  have hc1 := HX3.cell 1 0 rfl rfl
  have hf1 := HX3.free 1 0 rfl
  have hav1 := H1.avoid_blk (HX3.blk 1 rfl) (by simp [Value.noInt])
  have hav2 := H2.avoid_blk (HX3.blk 1 rfl) (by simp [Value.noInt])
  have H1' := H1.setCell (p := ⟨w.heap.size + 1, 0, none⟩) hav1 (.slice A2 (dig (val r)).length c2)
  have H2' := H2.setCell (p := ⟨w.heap.size + 1, 0, none⟩) hav2 (.slice A2 (dig (val r)).length c2)
  have HX4 := HX3.set 1 0 rfl (.slice A2 (dig (val r)).length c2)
  obtain ⟨W, hW⟩ : ∃ W, W = w2.setCell ⟨w.heap.size + 1, 0, none⟩ (.slice A2 (dig (val r)).length c2) := ⟨_, rfl⟩
  rw [← hW] at H1' H2' HX4
  go_upto_region 3 with fail
  rw [← hW]
  clear hW H1 H2 hav1 hav2 hc1 hf1 HX HX1 HX2 HX3 hb1 hb2
  have hx0 := HX4.cell0 0 rfl rfl
  have hx1 := HX4.cell 1 0 rfl rfl
  have hsz0 := HX4.size
  simp at hsz0
  go_wp2_with (at_make; refine wp_make EU _ rfl _ _ rfl _ _ ((dig (val l)).length + (dig (val r)).length + 1) rfl rfl (by omega) (by omega) (by omega) (by omega) ?_)
  intro w3 hown hb hlt3
  rw [ints_replicate] at hown
  go_wp2
  go_loopw [6] (fun i wr => ∃ (k : Nat) (o : List Nat), k ≤ (dig (val l)).length ∧ RMulAt (dig (val l)) (dig (val r)) k o ∧ i = .int .i64 k ∧ Own wr W.heap.size 97 (some ⟨W.heap.size, 0, none⟩) ((dig (val l)).length + (dig (val r)).length + 1) ((dig (val l)).length + (dig (val r)).length + 1) (ints .u32 o) ∧ Below W.heap.size W wr)
    (fun i _ => (dig (val l)).length - (intOf i).toNat)
  case atStart => exact ⟨0, _, by omega, ⟨by simp, Dig.replicate _, by rw [val_replicate, List.take_zero, val_nil]; omega, fun p _ => at_replicate _ _⟩, rfl, hown, hb⟩
  case round =>
    clear hown hb hlt3 hx0 hx1
    obtain ⟨k, o, hk, hT, rfl, hown, hb⟩ := hrel
    have HXr := HX4.ext hb
    have hx0 := HXr.cell0 0 rfl rfl
    have hx1 := HXr.cell 1 0 rfl rfl
    by_cases hka : k < (dig (val l)).length
    · go_wp2
      obtain ⟨wo, rfl⟩ : ∃ wo : World, wo = wr := ⟨_, rfl⟩
      go_loopw [7, 8] (fun cy i wr => ∃ (j : Nat) (o : List Nat) (carry : Nat), RInAt (dig (val l)) (dig (val r)) k j o carry ∧ cy = .int .u64 carry ∧ i = .int .i64 j ∧ Own wr W.heap.size 97 (some ⟨W.heap.size, 0, none⟩) ((dig (val l)).length + (dig (val r)).length + 1) ((dig (val l)).length + (dig (val r)).length + 1) (ints .u32 o) ∧ Below W.heap.size W wr)
        (fun _ i _ => (dig (val r)).length + 1 - (intOf i).toNat)
      case atStart => exact ⟨0, o, 0, hT.start, rfl, rfl, hown, hb⟩
      case round =>
        clear hown hb hT o hx0 hx1 HXr
        obtain ⟨j, o, carry, hI, rfl, rfl, hown, hb⟩ := hrel
        have hcar := hI.car
        have hjle := hI.jle
        have HLEN := Lib.hid hI.len
        have HXr := HX4.ext hb
        have hx0 := HXr.cell0 0 rfl rfl
        have hx1 := HXr.cell 1 0 rfl rfl
        by_cases hjb : j < (dig (val r)).length
        · obtain ⟨ad, rfl, _, hc⟩ := (H1'.ext hb).cellAt hka
          obtain ⟨bd, rfl, _, hc2⟩ := (H2'.ext hb).cellAt hjb
          have hc3 := hown.cellAt (j := k + j) (by have := HLEN.out; omega)
          have hf3 := hown.freeAt (k + j)
          have hd0 := dig_Dig (val l) k
          have hd1 := hI.dg (k + j)
          have hd2 := dig_Dig (val r) j
          generalize hx : at_ (dig (val l)) k = x at hc hd0
          generalize hy : at_ (dig (val r)) j = y at hc2 hd2
          generalize hz : at_ o (k + j) = z at hc3 hd1
          have HXX := Lib.hid hx
          have HY := Lib.hid hy
          have HZ := Lib.hid hz
          clear hx hy hz
          have hxy : (x : Int) * (y : Int) ≤ 999999998000000001 := by
            have := mul_digits hd0 hd2
            rw [← Int.natCast_mul]
            omega
          have hxy0 : 0 ≤ (x : Int) * (y : Int) := Int.mul_nonneg (by omega) (by omega)
          have hk1 : (k : Int) < (dig (val l)).length := by omega
          have hj1 : (j : Int) < (dig (val r)).length := by omega
          go_wp2
          go_quiet (fail)
          go_wp2
          go_roundw
          case rel =>
            refine ⟨j + 1, _, _, hI.next hka hjb (dig_Dig _) (dig_Dig _) (s := z + carry + x * y) (by rw [HXX.out, HY.out, HZ.out]), ?_, by go_num, Own.stored (drew_own hown _) ?_, (drew_below hb _).setCell (Nat.le_refl _) _⟩
            · rw [← Int.natCast_mul]; go_num
            · rw [← Int.natCast_mul]; omega
          case measure => simp [intOf]; omega
        · by_cases hc0 : 0 < carry
          · have hjm : j = (dig (val r)).length := by
              rcases Nat.lt_or_ge (dig (val r)).length j with h | h
              · have := hI.fin (by omega); omega
              · omega
            have hc3 := hown.cellAt (j := k + j) (by have := HLEN.out; omega)
            rw [hI.zer (k + j) (by omega) (Nat.le_refl _)] at hc3
            have hf3 := hown.freeAt (k + j)
            have HJ := Lib.hid hjm
            clear hjm
            go_wp2
            go_roundw
            case rel =>
              have hj2 := HJ.out
              subst hj2
              have hl := hI.last hka
              exact ⟨_, _, 0, hl, by go_num, by go_num, Own.stored hown (by omega), hb.setCell (Nat.le_refl _) _⟩
            case measure => have := HJ.out; simp [intOf]; omega
          · obtain rfl : carry = 0 := by omega
            go_wp2
            go_roundw
            case rel => exact ⟨k + 1, o, by omega, hI.finish hka (by omega), by go_num, hown, hb⟩
            case measure => simp [intOf]; omega
    · obtain rfl : k = (dig (val l)).length := by omega
      have hvx := hT.eq
      rw [List.take_of_length_le (Nat.le_refl _), val_dig, val_dig] at hvx
      have HVX := Lib.hid hvx
      have hlen := hT.len
      have hown3 : Own wr W.heap.size 97 (some ⟨W.heap.size, 0, none⟩) o.length ((dig (val l)).length + (dig (val r)).length + 1) (ints .u32 o) := by rw [hlen]; exact hown
      have HLX := Own.lim hown3 (small_of_dig hT.dg)
      have HLN := Lib.hid hlen.symm
      clear hvx hlen hown3
      go_wp2_with fail
      refine (rnorm_any _ _ _ o _ HLX HLN.out (by omega)).mono ?_
      rintro e w4 ⟨A4, c4, rfl, H4, hb4⟩
      rw [HVX.out] at H4
      rw [HVX.out]
      have HX5 := HXr.ext hb4
      have hc4 := HX5.cell 2 0 rfl rfl
      have hf4 := HX5.free 2 0 rfl
      go_wp2
      have hav := H4.avoid_blk (HX5.blk 2 rfl) (by simp [Value.noInt])
      have hq := set_same (v := .slice A4 (dig (val l * val r)).length c4) hc4
      exact bodyPost_ret (v := .agg #[.slice A4 (dig (val l * val r)).length c4]) (by simp [results, Tryz.results101, go_sem, hq]) rfl ⟨A4, c4, rfl, H4.setCell hav _, HX5.below.setCell (by simp; omega) _⟩

end Go.Proofs.YthempimelfmipaaGreatDoor
