/- Quantiles of weights. -/
import Derived.Test.YteleohgalknkiaaGreatDoorRef2
import Derived.Test.YteleohgalknkiaaGreatDoorRfr1
import Derived.Test.YteleohgalknkiaaGreatDoorFrac5
import Derived.Test.YteleohgalknkiaaGreatDoorSortIM
import Derived.Test.YteleohgalknkiaaGreatDoorW8M
namespace Go.Proofs.YteleohgalknkiaaGreatDoor
open Go.RowKit Go.Proofs

structure SumAt (l m : List Nat) (k : Nat) (o : List Nat) : Prop where
  len : o.length = k
  sm : ∀ j, at_ o j < 4294967296
  eq : val o = val (l.take k) + val (m.take k)

theorem SumAt.next {l m : List Nat} {k : Nat} {o : List Nat} {s : Nat} (h : SumAt l m k o) (hs : s = at_ l k + at_ m k) (hb : s < 4294967296) : SumAt l m (k + 1) (o ++ [s]) := by
  refine ⟨by rw [List.length_append, h.len]; rfl, small_snoc h.sm hb, ?_⟩
  rw [val_snoc, val_take_at l, val_take_at m, h.len, h.eq, hs, Nat.mul_add]
  omega


set_option maxHeartbeats 1000000 in
set_option maxRecDepth 1000000 in
theorem radd_any (A B : Option Addr) (n m c d : Nat) (l r : List Nat) (w : World) (HA : Lim w A c l) (HB : Lim w B d r) (hn : n = l.length) (hm : m = r.length) (hl : n ≤ 1073741824) (hl2 : m ≤ 1073741824) :
    Calls Tryz.prog 190 #[.agg #[.slice A n c], .agg #[.slice B m d]] w (RetN w (val l + val r)) := by
  have hdl := dig_len_of HA.small hn
  have hdr := dig_len_of HB.small hm
  have HN := Lib.hid hn
  have HM := Lib.hid hm
  clear hn hm
  go_enter Tryz.func190, Tryz.ntmps190
  go_wp2_with fail
  have HX := Bx.three w #[.slice A n c] #[.slice B m d] #[.slice none 0 0] 35 35 35
  refine (rnorm_any A n c l _ (HA.ext HX.below) HN.out (by omega)).mono ?_
  rintro e w1 ⟨A1, c1, rfl, H1, hb1⟩
  have HX1 := HX.ext hb1
  have hc0 := HX1.cell0 0 rfl rfl
  have hf0 := HX1.free0 0 rfl
  have hav1 := H1.avoid_blk (HX1.blk0 rfl) (by simp [Value.noInt])
  have H1' := H1.setCell (p := ⟨w.heap.size, 0, none⟩) hav1 (.slice A1 (dig (val l)).length c1)
  have HX2 : Bx w (w1.setCell ⟨w.heap.size, 0, none⟩ (.slice A1 (dig (val l)).length c1)) _ := HX1.set 0 0 rfl (.slice A1 (dig (val l)).length c1)
  have hc1 := HX2.cell 1 0 rfl rfl
  go_wp2_with fail
  refine (rnorm_any B m d r _ (HB.ext HX2.below) HM.out (by omega)).mono ?_
  rintro e w2 ⟨A2, c2, rfl, H2, hb2⟩
  have HX3 := HX2.ext hb2
  have H1 := H1'.ext hb2
  clear H1' hav1 hc0 hf0 hc1
  have hc1 := HX3.cell 1 0 rfl rfl
  have hf1 := HX3.free 1 0 rfl
  have hav1 := H1.avoid_blk (HX3.blk 1 rfl) (by simp [Value.noInt])
  have hav2 := H2.avoid_blk (HX3.blk 1 rfl) (by simp [Value.noInt])
  have H1' := H1.setCell (p := ⟨w.heap.size + 1, 0, none⟩) hav1 (.slice A2 (dig (val r)).length c2)
  have H2' := H2.setCell (p := ⟨w.heap.size + 1, 0, none⟩) hav2 (.slice A2 (dig (val r)).length c2)
  have HX4 := HX3.set 1 0 rfl (.slice A2 (dig (val r)).length c2)
  obtain ⟨W, hW⟩ : ∃ W, W = w2.setCell ⟨w.heap.size + 1, 0, none⟩ (.slice A2 (dig (val r)).length c2) := ⟨_, rfl⟩
  rw [← hW] at H1' H2' HX4
  go_upto_region 3 with fail
  rw [← hW]
  clear hW H1 H2 hav1 hav2 hc1 hf1 HX HX1 HX2 HX3 hb1 hb2
  have hx0 := HX4.cell0 0 rfl rfl
  have hx1 := HX4.cell 1 0 rfl rfl
  have hsz0 := HX4.size
  simp at hsz0
  go_wp2
  go_loopw [5, 6] (fun s i wr => ∃ (k : Nat) (o : List Nat) (A' : Option Addr) (c' : Nat), k ≤ (dig (val l)).length + (dig (val r)).length ∧ SumAt (dig (val l)) (dig (val r)) k o ∧ s = .slice A' k c' ∧ i = .int .i64 k ∧ Own wr W.heap.size 132 A' k c' (ints .u32 o) ∧ Below W.heap.size W wr)
    (fun _ i _ => (dig (val l)).length + (dig (val r)).length - (intOf i).toNat)
  case atStart => exact ⟨0, [], none, 0, by omega, ⟨rfl, fun j => by rw [at_nil]; omega, rfl⟩, rfl, rfl, World.ownsRow_nil _ _ _ _, Below.refl _ _⟩
  case round =>
    obtain ⟨k, o, A', c', hk, hL, rfl, rfl, hown, hb⟩ := hrel
    have hsz := hb.size
    have HXr := HX4.ext hb
    clear hx0 hx1
    have hx0 := HXr.cell0 0 rfl rfl
    have hx1 := HXr.cell 1 0 rfl rfl
    have hd1 := dig_Dig (val l) k
    have hd2 := dig_Dig (val r) k
    by_cases hka : k < (dig (val l)).length
    · obtain ⟨ad, rfl, _, hc⟩ := (H1'.ext hb).cellAt hka
      by_cases hkb : k < (dig (val r)).length
      · obtain ⟨bd, rfl, _, hc2⟩ := (H2'.ext hb).cellAt hkb
        go_wp2_with (at_builtin; refine wp_push EU _ rfl _ _ rfl rfl rfl hown (by rfl) (by omega) (by omega) (by omega) ?_)
        intro A5 c5 w5 hown5 hgr5 hb5 hlt5
        go_wp2
        go_roundw
        case rel => exact ⟨k + 1, _, A5, c5, by omega, hL.next (s := at_ (dig (val l)) k + at_ (dig (val r)) k) rfl (by omega), rfl, by go_num, own_snoc hown5 (by omega), hb.trans hb5⟩
        case measure => simp [intOf]; omega
      · have hz : at_ (dig (val r)) k = 0 := at_ge (by omega)
        have HZ := Lib.hid hz
        clear hz
        go_wp2_with (at_builtin; refine wp_push EU _ rfl _ _ rfl rfl rfl hown (by rfl) (by omega) (by omega) (by omega) ?_)
        intro A5 c5 w5 hown5 hgr5 hb5 hlt5
        go_wp2
        go_roundw
        case rel => exact ⟨k + 1, _, A5, c5, by omega, hL.next (s := at_ (dig (val l)) k) (by rw [HZ.out]; rfl) (by omega), rfl, by go_num, own_snoc hown5 (by omega), hb.trans hb5⟩
        case measure => simp [intOf]; omega
    · have hz : at_ (dig (val l)) k = 0 := at_ge (by omega)
      have HZ := Lib.hid hz
      clear hz
      by_cases hkb : k < (dig (val r)).length
      · obtain ⟨bd, rfl, _, hc2⟩ := (H2'.ext hb).cellAt hkb
        go_wp2_with (at_builtin; refine wp_push EU _ rfl _ _ rfl rfl rfl hown (by rfl) (by omega) (by omega) (by omega) ?_)
        intro A5 c5 w5 hown5 hgr5 hb5 hlt5
        go_wp2
        go_roundw
        case rel => exact ⟨k + 1, _, A5, c5, by omega, hL.next (s := at_ (dig (val r)) k) (by rw [HZ.out, Nat.zero_add]) (by omega), rfl, by go_num, own_snoc hown5 (by omega), hb.trans hb5⟩
        case measure => simp [intOf]; omega
      · have hlen := hL.len
        have hvx : val o = val l + val r := by
          have := hL.eq
          rw [List.take_of_length_le (by omega), List.take_of_length_le (by omega), val_dig, val_dig] at this
          exact this
        have HVX := Lib.hid hvx
        have hown3 : Own wr W.heap.size 132 A' o.length c' (ints .u32 o) := by rw [hlen]; exact hown
        have HLX := Own.lim hown3 hL.sm
        have HLN := Lib.hid hlen.symm
        clear hlen hvx hown3
        go_wp2_with fail
        refine (rnorm_any A' k c' o _ HLX HLN.out (by omega)).mono ?_
        rintro e w4 ⟨A4, c4, rfl, H4, hb4⟩
        rw [HVX.out] at H4
        rw [HVX.out]
        have HX5 := HXr.ext hb4
        have hc4 := HX5.cell 2 0 rfl rfl
        have hf4 := HX5.free 2 0 rfl
        go_wp2
        have hav := H4.avoid_blk (HX5.blk 2 rfl) (by simp [Value.noInt])
        have hq := set_same (v := .slice A4 (dig (val l + val r)).length c4) hc4
        exact bodyPost_ret (v := .agg #[.slice A4 (dig (val l + val r)).length c4]) (by simp [results, Tryz.results190, go_sem, hq]) rfl ⟨A4, c4, rfl, H4.setCell hav _, HX5.below.setCell (by simp; omega) _⟩
end Go.Proofs.YteleohgalknkiaaGreatDoor

namespace Go.Proofs.YteleohgalknkiaaGreatDoor
open Go.RowKit Go.Proofs Go

theorem qneg_any {s : Bool} {A B : Option Addr} {n c m d : Nat} {q : Rat} {k : Nat} (w : World) (h : Fr w s A n c B m d q k) (hk : k ≤ 268435456) :
    Calls Tryz.prog 151 #[.agg #[.bool s, .slice A n c, .slice B m d]] w (RetQ w (-q)) := by
  go_enter Tryz.func151, Tryz.ntmps151
  go_wp2_with fail
  have HX := Bx.two w #[.bool s, .slice A n c, .slice B m d] #[.bool false, .slice none 0 0, .slice none 0 0] 37 37
  refine (qmade_fr (h.ext HX.below).neg hk).mono ?_
  rintro e w1 ⟨A1, c1, B1, d1, rfl, H1, H2, hb⟩
  generalize -q = q at *
  have HX := HX.ext hb
  have hc10 := HX.cell 1 0 rfl rfl
  have hf10 := HX.free 1 0 rfl
  have hc11 := HX.cell 1 1 rfl rfl
  have hf11 := HX.free 1 1 rfl
  have hc12 := HX.cell 1 2 rfl rfl
  have hf12 := HX.free 1 2 rfl
  go_wp2
  obtain ⟨hq0, hq1, hq2, hq, hkeep, hbel⟩ := set3 (w := w) (HX.blk 1 rfl) rfl rfl rfl HX.below (by omega) (.bool (sg q)) (.slice A1 (dig (nu q)).length c1) (.slice B1 (dig q.den).length d1)
  exact bodyPost_ret (v := .agg #[.bool (sg q), .slice A1 (dig (nu q)).length c1, .slice B1 (dig q.den).length d1]) (by simp [results, Tryz.results151, go_sem, hq0, hq1, hq2]) rfl ⟨A1, c1, B1, d1, rfl, H1.stay hkeep, H2.stay hkeep, hbel⟩


end Go.Proofs.YteleohgalknkiaaGreatDoor

namespace Go.Proofs.YteleohgalknkiaaGreatDoor
open Go.RowKit Go.Proofs Go


theorem qzero_d {A : Option Addr} {c a : Nat} (w : World) (H : Lim w A c (dig a)) (hl : (dig a).length ≤ 536870000) :
    Calls Tryz.prog 149 #[.agg #[.slice A (dig a).length c]] w fun e w' => e = .returned (.bool (decide (a = 0))) ∧ Below w.heap.size w w' := by
  have := qzero_any A _ c (dig a) w H rfl (by omega)
  rwa [val_dig] at this
end Go.Proofs.YteleohgalknkiaaGreatDoor

namespace Go.Proofs.YteleohgalknkiaaGreatDoor
open Go.RowKit Go.Proofs Go
theorem radd_d {A B : Option Addr} {c d : Nat} {a b : Nat} (w : World) (HA : Lim w A c (dig a)) (HB : Lim w B d (dig b)) (ha : (dig a).length ≤ 1073741824) (hb : (dig b).length ≤ 1073741824) :
    Calls Tryz.prog 190 #[.agg #[.slice A (dig a).length c], .agg #[.slice B (dig b).length d]] w (RetN w (a + b)) := by
  have := radd_any A B _ _ c d (dig a) (dig b) w HA HB rfl rfl ha hb
  rwa [val_dig, val_dig] at this
theorem sgn_terms (q : Rat) : sgn q = if nu q = 0 then 0 else if sg q then -1 else 1 := by
  have h := sgn_rv (sg q) (nu q) q.den
  rw [rv_self] at h
  rw [h]
  have := q.den_pos
  by_cases h0 : nu q = 0
  · rw [if_pos (.inl h0), if_pos h0]
  · rw [if_neg (by omega), if_neg h0]

set_option maxHeartbeats 4000000 in
set_option maxRecDepth 1000000 in
theorem qsign_any {s : Bool} {A B : Option Addr} {n c m d : Nat} {q : Rat} {k : Nat} (w : World) (h : Fr w s A n c B m d q k) (hk : k ≤ 67108850) :
    Calls Tryz.prog 102 #[.agg #[.bool s, .slice A n c, .slice B m d]] w fun e w' => e = .returned (.int .i64 (sgn q)) ∧ Below w.heap.size w w' := by
  have hsz := h.sz
  have hsz1 := hsz.1
  rw [sgn_terms]
  by_cases h0 : nu q = 0
  · rw [if_pos h0]
    have hz := decide_eq_true h0
    clear h0
    go_enter Tryz.func102, Tryz.ntmps102
    go_wp2_with fail
    have HX := BL.one w #[.bool s, .slice A n c, .slice B m d] 37
    refine (qnorm_any _ (h.ext HX.below) (by omega)).mono ?_
    rintro e w1 ⟨A1, c1, B1, d1, rfl, N1, D1, hb⟩
    replace HX := HX.ext hb
    clear hb
    have hc00 := HX.cell 0 0 rfl rfl
    have hf00 := HX.free 0 0 rfl
    have hc01 := HX.cell 0 1 rfl rfl
    have hf01 := HX.free 0 1 rfl
    have hc02 := HX.cell 0 2 rfl rfl
    have hf02 := HX.free 0 2 rfl
    try simp only [List.getElem_toArray, List.getElem_cons_zero, List.getElem_cons_succ] at hc00 hf00 hc01 hf01 hc02 hf02
    go_upto_region 2 with fail
    clear hc00 hf00 hc01 hf01 hc02 hf02
    have hk := HX.keep3 0 rfl rfl rfl rfl (by omega) (.bool (sg q)) (.slice A1 (dig (nu q)).length c1) (.slice B1 (dig q.den).length d1)
    replace HX := HX.put3 0 rfl (by omega) (by intro k q hk hne; match k, hk with | 0, hk => (simp at hk; subst hk; simp at hne ⊢; try omega) | k + 1, hk => simp at hk) (.bool (sg q)) (.slice A1 (dig (nu q)).length c1) (.slice B1 (dig q.den).length d1)
    replace N1 := N1.stay hk
    replace D1 := D1.stay hk
    clear hk
    simp only [List.set_cons_zero] at HX
    generalize ((w1.setCell ⟨w.heap.size, 0, none⟩ (.bool (sg q))).setCell ⟨w.heap.size, 1, none⟩ (.slice A1 (dig (nu q)).length c1)).setCell ⟨w.heap.size, 2, none⟩ (.slice B1 (dig q.den).length d1) = V1 at *
    have hc01 := HX.cell 0 1 rfl rfl
    try simp only [List.getElem_toArray, List.getElem_cons_zero, List.getElem_cons_succ] at hc01
    go_wp2_with fail
    refine (qzero_d _ N1 (by omega)).mono ?_
    rintro e w2 ⟨rfl, hb⟩
    rw [hz]
    clear hc01
    replace HX := HX.ext hb
    replace N1 := N1.ext hb
    replace D1 := D1.ext hb
    clear hb
    go_wp2
    go_ret
    exact ⟨rfl, HX.below⟩
  · rw [if_neg h0]
    have hz := decide_eq_false h0
    clear h0
    cases hs : sg q
    · rw [if_neg (by simp)]
      have HS := Lib.hid hs
      clear hs
      go_enter Tryz.func102, Tryz.ntmps102
      go_wp2_with fail
      have HX := BL.one w #[.bool s, .slice A n c, .slice B m d] 37
      refine (qnorm_any _ (h.ext HX.below) (by omega)).mono ?_
      rintro e w1 ⟨A1, c1, B1, d1, rfl, N1, D1, hb⟩
      replace HX := HX.ext hb
      clear hb
      have hc00 := HX.cell 0 0 rfl rfl
      have hf00 := HX.free 0 0 rfl
      have hc01 := HX.cell 0 1 rfl rfl
      have hf01 := HX.free 0 1 rfl
      have hc02 := HX.cell 0 2 rfl rfl
      have hf02 := HX.free 0 2 rfl
      try simp only [List.getElem_toArray, List.getElem_cons_zero, List.getElem_cons_succ] at hc00 hf00 hc01 hf01 hc02 hf02
      go_upto_region 2 with fail
      clear hc00 hf00 hc01 hf01 hc02 hf02
      have hk := HX.keep3 0 rfl rfl rfl rfl (by omega) (.bool (sg q)) (.slice A1 (dig (nu q)).length c1) (.slice B1 (dig q.den).length d1)
      replace HX := HX.put3 0 rfl (by omega) (by intro k q hk hne; match k, hk with | 0, hk => (simp at hk; subst hk; simp at hne ⊢; try omega) | k + 1, hk => simp at hk) (.bool (sg q)) (.slice A1 (dig (nu q)).length c1) (.slice B1 (dig q.den).length d1)
      replace N1 := N1.stay hk
      replace D1 := D1.stay hk
      clear hk
      simp only [List.set_cons_zero] at HX
      generalize ((w1.setCell ⟨w.heap.size, 0, none⟩ (.bool (sg q))).setCell ⟨w.heap.size, 1, none⟩ (.slice A1 (dig (nu q)).length c1)).setCell ⟨w.heap.size, 2, none⟩ (.slice B1 (dig q.den).length d1) = V1 at *
      have hc01 := HX.cell 0 1 rfl rfl
      try simp only [List.getElem_toArray, List.getElem_cons_zero, List.getElem_cons_succ] at hc01
      go_wp2_with fail
      refine (qzero_d _ N1 (by omega)).mono ?_
      rintro e w2 ⟨rfl, hb⟩
      rw [hz]
      clear hc01
      replace HX := HX.ext hb
      replace N1 := N1.ext hb
      replace D1 := D1.ext hb
      clear hb
      have hc00 : w2.cell? ⟨w.heap.size, 0, none⟩ = some (.bool false) := by rw [← HS.out]; exact HX.cell 0 0 rfl rfl
      go_wp2
      go_ret
      exact ⟨rfl, HX.below⟩
    · rw [if_pos rfl]
      have HS := Lib.hid hs
      clear hs
      go_enter Tryz.func102, Tryz.ntmps102
      go_wp2_with fail
      have HX := BL.one w #[.bool s, .slice A n c, .slice B m d] 37
      refine (qnorm_any _ (h.ext HX.below) (by omega)).mono ?_
      rintro e w1 ⟨A1, c1, B1, d1, rfl, N1, D1, hb⟩
      replace HX := HX.ext hb
      clear hb
      have hc00 := HX.cell 0 0 rfl rfl
      have hf00 := HX.free 0 0 rfl
      have hc01 := HX.cell 0 1 rfl rfl
      have hf01 := HX.free 0 1 rfl
      have hc02 := HX.cell 0 2 rfl rfl
      have hf02 := HX.free 0 2 rfl
      try simp only [List.getElem_toArray, List.getElem_cons_zero, List.getElem_cons_succ] at hc00 hf00 hc01 hf01 hc02 hf02
      go_upto_region 2 with fail
      clear hc00 hf00 hc01 hf01 hc02 hf02
      have hk := HX.keep3 0 rfl rfl rfl rfl (by omega) (.bool (sg q)) (.slice A1 (dig (nu q)).length c1) (.slice B1 (dig q.den).length d1)
      replace HX := HX.put3 0 rfl (by omega) (by intro k q hk hne; match k, hk with | 0, hk => (simp at hk; subst hk; simp at hne ⊢; try omega) | k + 1, hk => simp at hk) (.bool (sg q)) (.slice A1 (dig (nu q)).length c1) (.slice B1 (dig q.den).length d1)
      replace N1 := N1.stay hk
      replace D1 := D1.stay hk
      clear hk
      simp only [List.set_cons_zero] at HX
      generalize ((w1.setCell ⟨w.heap.size, 0, none⟩ (.bool (sg q))).setCell ⟨w.heap.size, 1, none⟩ (.slice A1 (dig (nu q)).length c1)).setCell ⟨w.heap.size, 2, none⟩ (.slice B1 (dig q.den).length d1) = V1 at *
      have hc01 := HX.cell 0 1 rfl rfl
      try simp only [List.getElem_toArray, List.getElem_cons_zero, List.getElem_cons_succ] at hc01
      go_wp2_with fail
      refine (qzero_d _ N1 (by omega)).mono ?_
      rintro e w2 ⟨rfl, hb⟩
      rw [hz]
      clear hc01
      replace HX := HX.ext hb
      replace N1 := N1.ext hb
      replace D1 := D1.ext hb
      clear hb
      have hc00 : w2.cell? ⟨w.heap.size, 0, none⟩ = some (.bool true) := by rw [← HS.out]; exact HX.cell 0 0 rfl rfl
      go_wp2
      go_ret
      exact ⟨rfl, HX.below⟩

set_option maxHeartbeats 4000000 in
set_option maxRecDepth 1000000 in
theorem qadd_any {s t : Bool} {A B A' B' : Option Addr} {n c m d n' c' m' d' : Nat} {p q : Rat} {k k' : Nat} (w : World) (h : Fr w s A n c B m d p k) (h' : Fr w t A' n' c' B' m' d' q k') (hk : k ≤ 67108850) (hk' : k' ≤ 67108850) :
    Calls Tryz.prog 150 #[.agg #[.bool s, .slice A n c, .slice B m d], .agg #[.bool t, .slice A' n' c', .slice B' m' d']] w (RetQ w (p + q)) := by
  have hsp := h.sz
  have hsq := h'.sz
  have hsp1 := hsp.1
  have hsp2 := hsp.2
  have hsq1 := hsq.1
  have hsq2 := hsq.2
  obtain ⟨X, hX⟩ : ∃ X, nu p * q.den = X := ⟨_, rfl⟩
  obtain ⟨Y, hY⟩ : ∃ Y, nu q * p.den = Y := ⟨_, rfl⟩
  obtain ⟨Z, hZ⟩ : ∃ Z, p.den * q.den = Z := ⟨_, rfl⟩
  have hlX : (dig X).length ≤ k + k' + 2 := by rw [← hX]; have := len_mul hsp1 hsq2; omega
  have hlY : (dig Y).length ≤ k + k' + 2 := by rw [← hY]; have := len_mul hsq1 hsp2; omega
  have hlZ : (dig Z).length ≤ k + k' + 2 := by rw [← hZ]; have := len_mul hsp2 hsq2; omega
  have hsum : sg p = sg q → p + q = rv (sg p) (X + Y) Z := fun hs => by
    have e := rv_add_same (sg p) (nu p) p.den (nu q) q.den p.den_pos q.den_pos
    rw [hX, hY, hZ, rv_self] at e
    rw [← e, hs, rv_self]
  have hdif1 : sg q = !sg p → Y ≤ X → p + q = rv (sg p) (X - Y) Z := fun hs hle => by
    have e := rv_add_le (sg p) (nu p) p.den (nu q) q.den p.den_pos q.den_pos (by rw [hX, hY]; exact hle)
    rw [hX, hY, hZ, rv_self, ← hs, rv_self] at e
    exact e
  have hdif2 : sg q = !sg p → X ≤ Y → p + q = rv (sg q) (Y - X) Z := fun hs hle => by
    have e := rv_add_le (sg q) (nu q) q.den (nu p) p.den q.den_pos p.den_pos (by rw [hX, hY]; exact hle)
    rw [hX, hY, Nat.mul_comm q.den p.den, hZ, rv_self, hs, Bool.not_not, rv_self] at e
    rw [Rat.add_comm, hs]
    exact e
  have hlx := len_add (k := k + k' + 2) hlX hlY
  have hlxy := dig_mono (Nat.sub_le X Y)
  have hlyx := dig_mono (Nat.sub_le Y X)
  have hbq : sg p = sg q ∨ sg q = !sg p := by cases sg p <;> cases sg q <;> simp
  have HSUM := Lib.hid hsum
  have HD1 := Lib.hid hdif1
  have HD2 := Lib.hid hdif2
  have HXX := Lib.hid hX
  have HYY := Lib.hid hY
  have HZZ := Lib.hid hZ
  have HBQ := Lib.hid hbq
  clear hX hY hZ hsum hdif1 hdif2 hbq
  go_enter Tryz.func150, Tryz.ntmps150
  go_wp2_with fail
  have HX := BL.three w #[.bool s, .slice A n c, .slice B m d] #[.bool t, .slice A' n' c', .slice B' m' d'] #[.bool false, .slice none 0 0, .slice none 0 0] 37 37 37
  replace h := h.ext HX.below
  replace h' := h'.ext HX.below
  generalize ((w.alloc (.cells #[.bool s, .slice A n c, .slice B m d] 37)).alloc (.cells #[.bool t, .slice A' n' c', .slice B' m' d'] 37)).alloc (.cells #[.bool false, .slice none 0 0, .slice none 0 0] 37) = W0 at *
  refine wp_region_x (al := []) (late := [4, 5]) (dst := fun i => 0) (zt := fun _ => (#[], 0)) (B := W0.heap.size) (n := 4) (r := 2) (by kernel_rfl) (by kernel_rfl) (by decide) ?_ (by kernel_rfl) (by kernel_rfl) (by intro _ _ _ d _ h; cases d <;> exact h) (sz := 6) (by rfl) (by rfl) (Nat.le_refl _) ?_
  · intro i hi; cases hi
  have hE : Ext W0 W0.drew := drew_ext W0
  replace HX := HX.ext hE
  replace h := h.ext hE
  replace h' := h'.ext hE
  clear hE
  refine wpX_take (i := 0) (v := .agg #[.bool s, .slice A n c, .slice B m d]) rfl (by kernel_rfl) (by kernel_rfl) (by kernel_rfl) (fun _ _ _ h => h) (Or.inl ⟨by rfl, fun W hW => ?_⟩) ?_
  · have h0 := (HX.ext hW).cell 0 0 rfl rfl
    have h1 := (HX.ext hW).cell 0 1 rfl rfl
    have h2 := (HX.ext hW).cell 0 2 rfl rfl
    simp only [] at h0 h1 h2
    go_simp
    try rfl
  try simp only [Act.put, List.setIfInBounds_toArray]
  refine wpX_take (i := 2) (v := .agg #[.bool t, .slice A' n' c', .slice B' m' d']) rfl (by kernel_rfl) (by kernel_rfl) (by kernel_rfl) (fun _ _ _ h => h) (Or.inl ⟨by rfl, fun W hW => ?_⟩) ?_
  · have h0 := (HX.ext hW).cell 1 0 rfl rfl
    have h1 := (HX.ext hW).cell 1 1 rfl rfl
    have h2 := (HX.ext hW).cell 1 2 rfl rfl
    simp only [] at h0 h1 h2
    go_simp
    try rfl
  try simp only [Act.put]
  refine wpX_step (i := 1) (by kernel_rfl) rfl (fun W1 K hE hK => ?_)
  replace HX := HX.ext hE
  replace h := h.ext hE
  replace h' := h'.ext hE
  clear hE
  go_simp
  refine (qnorm_any _ h (by omega)).mono ?_
  rintro e W2 ⟨A1, c1, B1, d1, rfl, N1, D1, hb⟩
  go_wp2_with fail
  refine hK.out _ _ hb ?_
  clear hK K
  replace HX := HX.ext hb
  replace h := h.ext hb
  replace h' := h'.ext hb
  clear hb
  try simp only [Act.put, List.setIfInBounds_toArray, List.set_cons_zero, List.set_cons_succ]
  skip
  refine wpX_step (i := 3) (by kernel_rfl) rfl (fun W1 K hE hK => ?_)
  replace HX := HX.ext hE
  replace h := h.ext hE
  replace h' := h'.ext hE
  replace N1 := N1.ext hE
  replace D1 := D1.ext hE
  clear hE
  go_simp
  refine (qnorm_any _ h' (by omega)).mono ?_
  rintro e W2 ⟨A2, c2, B2, d2, rfl, N2, D2, hb⟩
  go_wp2_with fail
  refine hK.out _ _ hb ?_
  clear hK K
  replace HX := HX.ext hb
  replace h := h.ext hb
  replace h' := h'.ext hb
  replace N1 := N1.ext hb
  replace D1 := D1.ext hb
  clear hb
  try simp only [Act.put, List.setIfInBounds_toArray, List.set_cons_zero, List.set_cons_succ]
  skip
  clear h h'
  refine wpX_end (by kernel_rfl) (fun W1 ga m hE hg hm => ?_)
  replace HX := HX.ext hE
  replace N1 := N1.ext hE
  replace D1 := D1.ext hE
  replace N2 := N2.ext hE
  replace D2 := D2.ext hE
  clear hE
  clear hg
  simp only [putAll, setAll]
  clear ga
  have hc00 := HX.cell 0 0 rfl rfl
  have hf00 := HX.free 0 0 rfl
  have hc01 := HX.cell 0 1 rfl rfl
  have hf01 := HX.free 0 1 rfl
  have hc02 := HX.cell 0 2 rfl rfl
  have hf02 := HX.free 0 2 rfl
  try simp only [List.getElem_toArray, List.getElem_cons_zero, List.getElem_cons_succ] at hc00 hf00 hc01 hf01 hc02 hf02
  refine wpAny_step (i := 4) (by kernel_rfl) rfl (by omega) (fun K hK => ?_)
  go_simp
  refine hK.out _ _ ?_
  clear hK K
  clear hc00 hf00 hc01 hf01 hc02 hf02
  have hk := HX.keep3 0 rfl rfl rfl rfl (by omega) (.bool (sg p)) (.slice A1 (dig (nu p)).length c1) (.slice B1 (dig p.den).length d1)
  replace HX := HX.put3 0 rfl (by omega) (by intro k q hk hne; match k, hk with | 0, hk => (simp at hk; subst hk; simp at hne ⊢; try omega) | 1, hk => (simp at hk; subst hk; simp at hne ⊢; try omega) | 2, hk => (simp at hk; subst hk; simp at hne ⊢; try omega) | k + 3, hk => simp at hk) (.bool (sg p)) (.slice A1 (dig (nu p)).length c1) (.slice B1 (dig p.den).length d1)
  replace N1 := N1.stay hk
  replace D1 := D1.stay hk
  replace N2 := N2.stay hk
  replace D2 := D2.stay hk
  clear hk
  simp only [List.set_cons_zero] at HX
  have hc10 := HX.cell 1 0 rfl rfl
  have hf10 := HX.free 1 0 rfl
  have hc11 := HX.cell 1 1 rfl rfl
  have hf11 := HX.free 1 1 rfl
  have hc12 := HX.cell 1 2 rfl rfl
  have hf12 := HX.free 1 2 rfl
  try simp only [List.getElem_toArray, List.getElem_cons_zero, List.getElem_cons_succ] at hc10 hf10 hc11 hf11 hc12 hf12
  refine wpAny_step (i := 5) (by kernel_rfl) rfl (by omega) (fun K hK => ?_)
  go_simp
  refine hK.out _ _ ?_
  clear hK K
  clear hc10 hf10 hc11 hf11 hc12 hf12
  have hk := HX.keep3 1 rfl rfl rfl rfl (by omega) (.bool (sg q)) (.slice A2 (dig (nu q)).length c2) (.slice B2 (dig q.den).length d2)
  replace HX := HX.put3 1 rfl (by omega) (by intro k q hk hne; match k, hk with | 0, hk => (simp at hk; subst hk; simp at hne ⊢; try omega) | 1, hk => (simp at hk; subst hk; simp at hne ⊢; try omega) | 2, hk => (simp at hk; subst hk; simp at hne ⊢; try omega) | k + 3, hk => simp at hk) (.bool (sg q)) (.slice A2 (dig (nu q)).length c2) (.slice B2 (dig q.den).length d2)
  replace N1 := N1.stay hk
  replace D1 := D1.stay hk
  replace N2 := N2.stay hk
  replace D2 := D2.stay hk
  clear hk
  simp only [List.set_cons_zero, List.set_cons_succ] at HX
  refine wpAny_done (by kernel_rfl) ?_ _
  generalize hW : ((((((W1.setCell ⟨w.heap.size, 0, none⟩ _).setCell ⟨w.heap.size, 1, none⟩ _).setCell ⟨w.heap.size, 2, none⟩ _).setCell ⟨w.heap.size + 1, 0, none⟩ _).setCell ⟨w.heap.size + 1, 1, none⟩ _).setCell ⟨w.heap.size + 1, 2, none⟩ _) = W2 at *
  clear hW
  have hc01 := HX.cell 0 1 rfl rfl
  have hc12 := HX.cell 1 2 rfl rfl
  try simp only [List.getElem_toArray, List.getElem_cons_zero, List.getElem_cons_succ] at hc01 hc12
  go_wp2_with fail
  refine (rmul_d _ N1 D2 (by omega) (by omega)).mono ?_
  rintro e w3 ⟨AX, cX, rfl, LX, hb⟩
  rw [HXX.out] at LX
  rw [HXX.out]
  clear hc01 hc12
  replace HX := HX.ext hb
  replace N1 := N1.ext hb
  replace D1 := D1.ext hb
  replace N2 := N2.ext hb
  replace D2 := D2.ext hb
  clear hb
  go_upto_region 3 with fail
  have ltX := HX.lt 2 rfl
  simp only [] at ltX
  have hb := below_alloc w3 (.cells #[.slice AX (dig X).length cX] 35)
  replace HX := HX.new #[.slice AX (dig X).length cX] 35
  simp only [List.cons_append, List.nil_append] at HX
  replace N1 := N1.ext hb
  replace D1 := D1.ext hb
  replace N2 := N2.ext hb
  replace D2 := D2.ext hb
  replace LX := LX.ext hb
  clear hb
  generalize w3.alloc (.cells #[.slice AX (dig X).length cX] 35) = V3 at *
  generalize w3.heap.size = gx at *
  have hc11 := HX.cell 1 1 rfl rfl
  have hc02 := HX.cell 0 2 rfl rfl
  try simp only [List.getElem_toArray, List.getElem_cons_zero, List.getElem_cons_succ] at hc11 hc02
  go_wp2_with fail
  refine (rmul_d _ N2 D1 (by omega) (by omega)).mono ?_
  rintro e w4 ⟨AY, cY, rfl, LY, hb⟩
  rw [HYY.out] at LY
  rw [HYY.out]
  clear hc11 hc02
  replace HX := HX.ext hb
  replace N1 := N1.ext hb
  replace D1 := D1.ext hb
  replace N2 := N2.ext hb
  replace D2 := D2.ext hb
  replace LX := LX.ext hb
  clear hb
  go_upto_region 4 with fail
  have ltY := HX.lt 3 rfl
  simp only [] at ltY
  have hb := below_alloc w4 (.cells #[.slice AY (dig Y).length cY] 35)
  replace HX := HX.new #[.slice AY (dig Y).length cY] 35
  simp only [List.cons_append, List.nil_append] at HX
  replace N1 := N1.ext hb
  replace D1 := D1.ext hb
  replace N2 := N2.ext hb
  replace D2 := D2.ext hb
  replace LX := LX.ext hb
  replace LY := LY.ext hb
  clear hb
  generalize w4.alloc (.cells #[.slice AY (dig Y).length cY] 35) = V4 at *
  generalize w4.heap.size = gy at *
  have hc02 := HX.cell 0 2 rfl rfl
  have hc12 := HX.cell 1 2 rfl rfl
  try simp only [List.getElem_toArray, List.getElem_cons_zero, List.getElem_cons_succ] at hc02 hc12
  go_wp2_with fail
  refine (rmul_d _ D1 D2 (by omega) (by omega)).mono ?_
  rintro e w5 ⟨AZ, cZ, rfl, LZ, hb⟩
  rw [HZZ.out] at LZ
  rw [HZZ.out]
  clear hc02 hc12
  replace HX := HX.ext hb
  replace N1 := N1.ext hb
  replace D1 := D1.ext hb
  replace N2 := N2.ext hb
  replace D2 := D2.ext hb
  replace LX := LX.ext hb
  replace LY := LY.ext hb
  clear hb
  go_upto_region 5 with fail
  have ltZ := HX.lt 4 rfl
  simp only [] at ltZ
  have hb := below_alloc w5 (.cells #[.slice AZ (dig Z).length cZ] 35)
  replace HX := HX.new #[.slice AZ (dig Z).length cZ] 35
  simp only [List.cons_append, List.nil_append] at HX
  replace N1 := N1.ext hb
  replace D1 := D1.ext hb
  replace N2 := N2.ext hb
  replace D2 := D2.ext hb
  replace LX := LX.ext hb
  replace LY := LY.ext hb
  replace LZ := LZ.ext hb
  clear hb
  generalize w5.alloc (.cells #[.slice AZ (dig Z).length cZ] 35) = V5 at *
  generalize w5.heap.size = gz at *
  clear N1 D1 N2 D2
  by_cases hsg : sg p = sg q
  · have hsb : (sg p == sg q) = true := by simp [hsg]
    have hpq := Lib.hid (HSUM.out hsg)
    clear hsg
    have hc00 := HX.cell 0 0 rfl rfl
    have hc10 := HX.cell 1 0 rfl rfl
    try simp only [List.getElem_toArray, List.getElem_cons_zero] at hc00 hc10
    go_upto_region 6 with fail
    clear hc00 hc10
    refine wp_region_x (al := []) (late := [7]) (dst := fun i => 0) (zt := fun _ => (#[], 0)) (B := V5.heap.size) (n := 7) (r := 1) (by kernel_rfl) (by kernel_rfl) (by decide) ?_ (by kernel_rfl) (by kernel_rfl) (by intro _ _ _ d _ h; cases d <;> exact h) (sz := 8) (by rfl) (by rfl) (Nat.le_refl _) ?_
    · intro i hi; cases hi
    have hE : Ext V5 V5.drew := drew_ext V5
    replace HX := HX.ext hE
    replace LX := LX.ext hE
    replace LY := LY.ext hE
    replace LZ := LZ.ext hE
    clear hE
    refine wpX_take (i := 0) (v := .pointer (some ⟨w.heap.size, 0, none⟩)) rfl (by kernel_rfl) (by kernel_rfl) (by kernel_rfl) (fun _ _ _ h => h) (Or.inl ⟨by rfl, fun W hW => ?_⟩) ?_
    · go_simp
      try rfl
    try simp only [Act.put, List.setIfInBounds_toArray]
    refine wpX_take (i := 1) (v := .bool (sg p)) rfl (by kernel_rfl) (by kernel_rfl) (by kernel_rfl) (fun _ _ _ h => h) (Or.inl ⟨by rfl, fun W hW => ?_⟩) ?_
    · have h0 := (HX.ext hW).cell 0 0 rfl rfl
      simp only [] at h0
      go_simp
      try rfl
    try simp only [Act.put]
    refine wpX_take (i := 2) (v := .agg #[.slice AX (dig X).length cX]) rfl (by kernel_rfl) (by kernel_rfl) (by kernel_rfl) (fun _ _ _ h => h) (Or.inl ⟨by rfl, fun W hW => ?_⟩) ?_
    · have h0 := (HX.ext hW).cell 3 0 rfl rfl
      simp only [] at h0
      go_simp
      try rfl
    try simp only [Act.put]
    refine wpX_take (i := 3) (v := .agg #[.slice AY (dig Y).length cY]) rfl (by kernel_rfl) (by kernel_rfl) (by kernel_rfl) (fun _ _ _ h => h) (Or.inl ⟨by rfl, fun W hW => ?_⟩) ?_
    · have h0 := (HX.ext hW).cell 4 0 rfl rfl
      simp only [] at h0
      go_simp
      try rfl
    try simp only [Act.put]
    refine wpX_take (i := 5) (v := .agg #[.slice AZ (dig Z).length cZ]) rfl (by kernel_rfl) (by kernel_rfl) (by kernel_rfl) (fun _ _ _ h => h) (Or.inl ⟨by rfl, fun W hW => ?_⟩) ?_
    · have h0 := (HX.ext hW).cell 5 0 rfl rfl
      simp only [] at h0
      go_simp
      try rfl
    try simp only [Act.put]
    refine wpX_step (i := 4) (by kernel_rfl) rfl (fun W1 K hE hK => ?_)
    replace HX := HX.ext hE
    replace LX := LX.ext hE
    replace LY := LY.ext hE
    replace LZ := LZ.ext hE
    clear hE
    go_simp
    refine (radd_d _ LX LY (by omega) (by omega)).mono ?_
    rintro e W2 ⟨AS, cS, rfl, LS, hb⟩
    go_wp2_with fail
    refine hK.out _ _ hb ?_
    clear hK K
    replace HX := HX.ext hb
    replace LX := LX.ext hb
    replace LY := LY.ext hb
    replace LZ := LZ.ext hb
    clear hb
    try simp only [Act.put, List.setIfInBounds_toArray, List.set_cons_zero, List.set_cons_succ]
    skip
    refine wpX_step (i := 6) (by kernel_rfl) rfl (fun W1 K hE hK => ?_)
    replace HX := HX.ext hE
    replace LX := LX.ext hE
    replace LY := LY.ext hE
    replace LZ := LZ.ext hE
    replace LS := LS.ext hE
    clear hE
    go_simp
    refine (qmade_fr (s := sg p) (Fr.of2 (k := 268435456) LS LZ (by omega) (by omega)) (Nat.le_refl _)).mono ?_
    rintro e W2 ⟨A9, c9, B9, d9, rfl, N9, D9, hb⟩
    rw [← hpq.out] at N9 D9
    rw [← hpq.out]
    go_wp2_with fail
    refine hK.out _ _ hb ?_
    clear hK K
    replace HX := HX.ext hb
    replace LX := LX.ext hb
    replace LY := LY.ext hb
    replace LZ := LZ.ext hb
    replace LS := LS.ext hb
    clear hb
    try simp only [Act.put, List.setIfInBounds_toArray, List.set_cons_zero, List.set_cons_succ]
    skip
    clear LS LX LY LZ
    refine wpX_end (by kernel_rfl) (fun W7 ga m hE hg hm => ?_)
    replace HX := HX.ext hE
    replace N9 := N9.ext hE
    replace D9 := D9.ext hE
    clear hE
    clear hg
    simp only [putAll, setAll]
    clear ga
    have hc20 := HX.cell 2 0 rfl rfl
    have hf20 := HX.free 2 0 rfl
    have hc21 := HX.cell 2 1 rfl rfl
    have hf21 := HX.free 2 1 rfl
    have hc22 := HX.cell 2 2 rfl rfl
    have hf22 := HX.free 2 2 rfl
    try simp only [List.getElem_toArray, List.getElem_cons_zero, List.getElem_cons_succ] at hc20 hf20 hc21 hf21 hc22 hf22
    refine wpAny_step (i := 7) (by kernel_rfl) rfl (by omega) (fun K hK => ?_)
    go_simp
    refine hK.out _ _ ?_
    clear hK K
    clear hc20 hf20 hc21 hf21 hc22 hf22
    have hk := HX.keep3 2 rfl rfl rfl rfl (by omega) (.bool (sg (p + q))) (.slice A9 (dig (nu (p + q))).length c9) (.slice B9 (dig (p + q).den).length d9)
    replace HX := HX.put3 2 rfl (by omega) (by intro k q hk hne; match k, hk with | 0, hk => (simp at hk; subst hk; simp at hne ⊢; try omega) | 1, hk => (simp at hk; subst hk; simp at hne ⊢; try omega) | 2, hk => (simp at hk; subst hk; simp at hne ⊢; try omega) | 3, hk => (simp at hk; subst hk; simp at hne ⊢; try omega) | 4, hk => (simp at hk; subst hk; simp at hne ⊢; try omega) | 5, hk => (simp at hk; subst hk; simp at hne ⊢; try omega) | k + 6, hk => simp at hk) (.bool (sg (p + q))) (.slice A9 (dig (nu (p + q))).length c9) (.slice B9 (dig (p + q).den).length d9)
    replace N9 := N9.stay hk
    replace D9 := D9.stay hk
    clear hk
    simp only [List.set_cons_zero, List.set_cons_succ] at HX
    refine wpAny_done (by kernel_rfl) ?_ _
    have hc20 := HX.cell 2 0 rfl rfl
    have hc21 := HX.cell 2 1 rfl rfl
    have hc22 := HX.cell 2 2 rfl rfl
    try simp only [List.getElem_toArray, List.getElem_cons_zero, List.getElem_cons_succ] at hc20 hc21 hc22
    go_wp2
    exact bodyPost_ret (v := .agg #[.bool (sg (p + q)), .slice A9 (dig (nu (p + q))).length c9, .slice B9 (dig (p + q).den).length d9]) (by simp [results, Tryz.results150, go_sem, hc20, hc21, hc22]) rfl ⟨A9, c9, B9, d9, rfl, N9, D9, HX.below⟩
  · have hsb : (sg p == sg q) = false := by simp [hsg]
    have hns : sg q = !sg p := HBQ.out.resolve_left hsg
    clear hsg
    by_cases hle : Y ≤ X
    · have hcc : decide (0 ≤ cmpI X Y) = true := decide_eq_true (by
        rcases Nat.lt_or_ge Y X with h | h
        · rw [cmpI_gt h]; omega
        · rw [cmpI_eq (by omega)]; omega)
      have hpq := Lib.hid (HD1.out hns hle)
      clear hns
      have hc00 := HX.cell 0 0 rfl rfl
      have hc10 := HX.cell 1 0 rfl rfl
      have hc30 := HX.cell 3 0 rfl rfl
      have hc40 := HX.cell 4 0 rfl rfl
      try simp only [List.getElem_toArray, List.getElem_cons_zero] at hc00 hc10 hc30 hc40
      go_wp2_with fail
      refine (rcmp_d _ LX LY (by omega) (by omega)).mono ?_
      rintro e w6 ⟨rfl, hb⟩
      clear hc00 hc10 hc30 hc40
      replace HX := HX.ext hb
      replace LX := LX.ext hb
      replace LY := LY.ext hb
      replace LZ := LZ.ext hb
      clear hb
      have hc30 := HX.cell 3 0 rfl rfl
      have hc40 := HX.cell 4 0 rfl rfl
      try simp only [List.getElem_toArray, List.getElem_cons_zero] at hc30 hc40
      go_wp2_with fail
      refine (rsub_d _ LX LY (by omega) (by omega) hle).mono ?_
      rintro e w7 ⟨AS, cS, rfl, LS, hb, _⟩
      clear hc30 hc40
      replace HX := HX.ext hb
      replace LX := LX.ext hb
      replace LY := LY.ext hb
      replace LZ := LZ.ext hb
      clear hb
      go_upto_region 9 with fail
      have ltS := HX.lt 5 rfl
      simp only [] at ltS
      have hb := below_alloc w7 (.cells #[.slice AS (dig (X - Y)).length cS] 35)
      replace HX := HX.new #[.slice AS (dig (X - Y)).length cS] 35
      simp only [List.cons_append, List.nil_append] at HX
      replace LX := LX.ext hb
      replace LY := LY.ext hb
      replace LZ := LZ.ext hb
      replace LS := LS.ext hb
      clear hb
      generalize w7.alloc (.cells #[.slice AS (dig (X - Y)).length cS] 35) = V7 at *
      generalize w7.heap.size = gs at *
      have hc00 := HX.cell 0 0 rfl rfl
      have hc50 := HX.cell 5 0 rfl rfl
      have hc60 := HX.cell 6 0 rfl rfl
      try simp only [List.getElem_toArray, List.getElem_cons_zero] at hc00 hc50 hc60
      go_wp2_with fail
      refine (qmade_fr (s := sg p) (Fr.of2 (k := 268435456) LS LZ (by omega) (by omega)) (Nat.le_refl _)).mono ?_
      rintro e w8 ⟨A9, c9, B9, d9, rfl, N9, D9, hb⟩
      rw [← hpq.out] at N9 D9
      rw [← hpq.out]
      clear LS LX LY LZ
      clear hc00 hc50 hc60
      replace HX := HX.ext hb
      clear hb
      have hc20 := HX.cell 2 0 rfl rfl
      have hf20 := HX.free 2 0 rfl
      have hc21 := HX.cell 2 1 rfl rfl
      have hf21 := HX.free 2 1 rfl
      have hc22 := HX.cell 2 2 rfl rfl
      have hf22 := HX.free 2 2 rfl
      try simp only [List.getElem_toArray, List.getElem_cons_zero, List.getElem_cons_succ] at hc20 hf20 hc21 hf21 hc22 hf22
      go_wp2
      clear hc20 hf20 hc21 hf21 hc22 hf22
      have hk := HX.keep3 2 rfl rfl rfl rfl (by omega) (.bool (sg (p + q))) (.slice A9 (dig (nu (p + q))).length c9) (.slice B9 (dig (p + q).den).length d9)
      replace HX := HX.put3 2 rfl (by omega) (by intro k q hk hne; match k, hk with | 0, hk => (simp at hk; subst hk; simp at hne ⊢; try omega) | 1, hk => (simp at hk; subst hk; simp at hne ⊢; try omega) | 2, hk => (simp at hk; subst hk; simp at hne ⊢; try omega) | 3, hk => (simp at hk; subst hk; simp at hne ⊢; try omega) | 4, hk => (simp at hk; subst hk; simp at hne ⊢; try omega) | 5, hk => (simp at hk; subst hk; simp at hne ⊢; try omega) | 6, hk => (simp at hk; subst hk; simp at hne ⊢; try omega) | k + 7, hk => simp at hk) (.bool (sg (p + q))) (.slice A9 (dig (nu (p + q))).length c9) (.slice B9 (dig (p + q).den).length d9)
      replace N9 := N9.stay hk
      replace D9 := D9.stay hk
      clear hk
      simp only [List.set_cons_zero, List.set_cons_succ] at HX
      have hc20 := HX.cell 2 0 rfl rfl
      have hc21 := HX.cell 2 1 rfl rfl
      have hc22 := HX.cell 2 2 rfl rfl
      try simp only [List.getElem_toArray, List.getElem_cons_zero, List.getElem_cons_succ] at hc20 hc21 hc22
      exact bodyPost_ret (v := .agg #[.bool (sg (p + q)), .slice A9 (dig (nu (p + q))).length c9, .slice B9 (dig (p + q).den).length d9]) (by simp [results, Tryz.results150, go_sem, hc20, hc21, hc22]) rfl ⟨A9, c9, B9, d9, rfl, N9, D9, HX.below⟩
    · have hcc : decide (0 ≤ cmpI X Y) = false := decide_eq_false (by rw [cmpI_lt (by omega)]; omega)
      have hle2 : X ≤ Y := by omega
      have hpq := Lib.hid (HD2.out hns hle2)
      clear hns
      have hc00 := HX.cell 0 0 rfl rfl
      have hc10 := HX.cell 1 0 rfl rfl
      have hc30 := HX.cell 3 0 rfl rfl
      have hc40 := HX.cell 4 0 rfl rfl
      try simp only [List.getElem_toArray, List.getElem_cons_zero] at hc00 hc10 hc30 hc40
      go_wp2_with fail
      refine (rcmp_d _ LX LY (by omega) (by omega)).mono ?_
      rintro e w6 ⟨rfl, hb⟩
      clear hc00 hc10 hc30 hc40
      replace HX := HX.ext hb
      replace LX := LX.ext hb
      replace LY := LY.ext hb
      replace LZ := LZ.ext hb
      clear hb
      have hc30 := HX.cell 3 0 rfl rfl
      have hc40 := HX.cell 4 0 rfl rfl
      try simp only [List.getElem_toArray, List.getElem_cons_zero] at hc30 hc40
      go_wp2_with fail
      refine (rsub_d _ LY LX (by omega) (by omega) hle2).mono ?_
      rintro e w7 ⟨AS, cS, rfl, LS, hb, _⟩
      clear hc30 hc40
      replace HX := HX.ext hb
      replace LX := LX.ext hb
      replace LY := LY.ext hb
      replace LZ := LZ.ext hb
      clear hb
      go_upto_region 11 with fail
      have ltS := HX.lt 5 rfl
      simp only [] at ltS
      have hb := below_alloc w7 (.cells #[.slice AS (dig (Y - X)).length cS] 35)
      replace HX := HX.new #[.slice AS (dig (Y - X)).length cS] 35
      simp only [List.cons_append, List.nil_append] at HX
      replace LX := LX.ext hb
      replace LY := LY.ext hb
      replace LZ := LZ.ext hb
      replace LS := LS.ext hb
      clear hb
      generalize w7.alloc (.cells #[.slice AS (dig (Y - X)).length cS] 35) = V7 at *
      generalize w7.heap.size = gs at *
      have hc10 := HX.cell 1 0 rfl rfl
      have hc50 := HX.cell 5 0 rfl rfl
      have hc60 := HX.cell 6 0 rfl rfl
      try simp only [List.getElem_toArray, List.getElem_cons_zero] at hc10 hc50 hc60
      go_wp2_with fail
      refine (qmade_fr (s := sg q) (Fr.of2 (k := 268435456) LS LZ (by omega) (by omega)) (Nat.le_refl _)).mono ?_
      rintro e w8 ⟨A9, c9, B9, d9, rfl, N9, D9, hb⟩
      rw [← hpq.out] at N9 D9
      rw [← hpq.out]
      clear LS LX LY LZ
      clear hc10 hc50 hc60
      replace HX := HX.ext hb
      clear hb
      have hc20 := HX.cell 2 0 rfl rfl
      have hf20 := HX.free 2 0 rfl
      have hc21 := HX.cell 2 1 rfl rfl
      have hf21 := HX.free 2 1 rfl
      have hc22 := HX.cell 2 2 rfl rfl
      have hf22 := HX.free 2 2 rfl
      try simp only [List.getElem_toArray, List.getElem_cons_zero, List.getElem_cons_succ] at hc20 hf20 hc21 hf21 hc22 hf22
      go_wp2
      clear hc20 hf20 hc21 hf21 hc22 hf22
      have hk := HX.keep3 2 rfl rfl rfl rfl (by omega) (.bool (sg (p + q))) (.slice A9 (dig (nu (p + q))).length c9) (.slice B9 (dig (p + q).den).length d9)
      replace HX := HX.put3 2 rfl (by omega) (by intro k q hk hne; match k, hk with | 0, hk => (simp at hk; subst hk; simp at hne ⊢; try omega) | 1, hk => (simp at hk; subst hk; simp at hne ⊢; try omega) | 2, hk => (simp at hk; subst hk; simp at hne ⊢; try omega) | 3, hk => (simp at hk; subst hk; simp at hne ⊢; try omega) | 4, hk => (simp at hk; subst hk; simp at hne ⊢; try omega) | 5, hk => (simp at hk; subst hk; simp at hne ⊢; try omega) | 6, hk => (simp at hk; subst hk; simp at hne ⊢; try omega) | k + 7, hk => simp at hk) (.bool (sg (p + q))) (.slice A9 (dig (nu (p + q))).length c9) (.slice B9 (dig (p + q).den).length d9)
      replace N9 := N9.stay hk
      replace D9 := D9.stay hk
      clear hk
      simp only [List.set_cons_zero, List.set_cons_succ] at HX
      have hc20 := HX.cell 2 0 rfl rfl
      have hc21 := HX.cell 2 1 rfl rfl
      have hc22 := HX.cell 2 2 rfl rfl
      try simp only [List.getElem_toArray, List.getElem_cons_zero, List.getElem_cons_succ] at hc20 hc21 hc22
      exact bodyPost_ret (v := .agg #[.bool (sg (p + q)), .slice A9 (dig (nu (p + q))).length c9, .slice B9 (dig (p + q).den).length d9]) (by simp [results, Tryz.results150, go_sem, hc20, hc21, hc22]) rfl ⟨A9, c9, B9, d9, rfl, N9, D9, HX.below⟩

set_option maxHeartbeats 4000000 in
set_option maxRecDepth 1000000 in
theorem qsub_any {s t : Bool} {A B A' B' : Option Addr} {n c m d n' c' m' d' : Nat} {p q : Rat} {k k' : Nat} (w : World) (h : Fr w s A n c B m d p k) (h' : Fr w t A' n' c' B' m' d' q k') (hk : k ≤ 67108840) (hk' : k' ≤ 67108840) :
    Calls Tryz.prog 103 #[.agg #[.bool s, .slice A n c, .slice B m d], .agg #[.bool t, .slice A' n' c', .slice B' m' d']] w (RetQ w (p - q)) := by
  have hsz : Sz (-q) (k' + 1) := h'.sz.neg
  rw [Rat.sub_eq_add_neg p q]
  go_enter Tryz.func103, Tryz.ntmps103
  go_wp2_with fail
  have HX := BL.three w #[.bool s, .slice A n c, .slice B m d] #[.bool t, .slice A' n' c', .slice B' m' d'] #[.bool false, .slice none 0 0, .slice none 0 0] 37 37 37
  replace h := h.ext HX.below
  replace h' := h'.ext HX.below
  generalize ((w.alloc (.cells #[.bool s, .slice A n c, .slice B m d] 37)).alloc (.cells #[.bool t, .slice A' n' c', .slice B' m' d'] 37)).alloc (.cells #[.bool false, .slice none 0 0, .slice none 0 0] 37) = W0 at *
  refine wp_region_x (al := []) (late := [4]) (dst := fun i => 0) (zt := fun _ => (#[], 0)) (B := W0.heap.size) (n := 4) (r := 1) (by kernel_rfl) (by kernel_rfl) (by decide) ?_ (by kernel_rfl) (by kernel_rfl) (by intro _ _ _ d _ h; cases d <;> exact h) (sz := 5) (by rfl) (by rfl) (Nat.le_refl _) ?_
  · intro i hi; cases hi
  have hE : Ext W0 W0.drew := drew_ext W0
  replace HX := HX.ext hE
  replace h := h.ext hE
  replace h' := h'.ext hE
  clear hE
  refine wpX_take (i := 0) (v := .agg #[.bool s, .slice A n c, .slice B m d]) rfl (by kernel_rfl) (by kernel_rfl) (by kernel_rfl) (fun _ _ _ h => h) (Or.inl ⟨by rfl, fun W hW => ?_⟩) ?_
  · have h0 := (HX.ext hW).cell 0 0 rfl rfl
    have h1 := (HX.ext hW).cell 0 1 rfl rfl
    have h2 := (HX.ext hW).cell 0 2 rfl rfl
    simp only [] at h0 h1 h2
    go_simp
    try rfl
  try simp only [Act.put, List.setIfInBounds_toArray]
  refine wpX_take (i := 1) (v := .agg #[.bool t, .slice A' n' c', .slice B' m' d']) rfl (by kernel_rfl) (by kernel_rfl) (by kernel_rfl) (fun _ _ _ h => h) (Or.inl ⟨by rfl, fun W hW => ?_⟩) ?_
  · have h0 := (HX.ext hW).cell 1 0 rfl rfl
    have h1 := (HX.ext hW).cell 1 1 rfl rfl
    have h2 := (HX.ext hW).cell 1 2 rfl rfl
    simp only [] at h0 h1 h2
    go_simp
    try rfl
  try simp only [Act.put]
  refine wpX_step (i := 2) (by kernel_rfl) rfl (fun W1 K hE hK => ?_)
  replace HX := HX.ext hE
  replace h := h.ext hE
  replace h' := h'.ext hE
  clear hE
  go_simp
  refine (qneg_any _ h' (by omega)).mono ?_
  rintro e W2 ⟨A1, c1, B1, d1, rfl, N1, D1, hb⟩
  go_wp2_with fail
  refine hK.out _ _ hb ?_
  clear hK K
  replace HX := HX.ext hb
  replace h := h.ext hb
  replace h' := h'.ext hb
  clear hb
  try simp only [Act.put, List.setIfInBounds_toArray, List.set_cons_zero, List.set_cons_succ]
  skip
  refine wpX_step (i := 3) (by kernel_rfl) rfl (fun W1 K hE hK => ?_)
  replace HX := HX.ext hE
  replace h := h.ext hE
  replace h' := h'.ext hE
  replace N1 := N1.ext hE
  replace D1 := D1.ext hE
  clear hE
  go_simp
  refine (qadd_any _ h (Fr.of N1 D1 hsz) (by omega) (by omega)).mono ?_
  rintro e W2 ⟨A9, c9, B9, d9, rfl, N9, D9, hb⟩
  go_wp2_with fail
  refine hK.out _ _ hb ?_
  clear hK K
  replace HX := HX.ext hb
  replace h := h.ext hb
  replace h' := h'.ext hb
  replace N1 := N1.ext hb
  replace D1 := D1.ext hb
  clear hb
  try simp only [Act.put, List.setIfInBounds_toArray, List.set_cons_zero, List.set_cons_succ]
  skip
  clear h h' N1 D1
  refine wpX_end (by kernel_rfl) (fun W1 ga m hE hg hm => ?_)
  replace HX := HX.ext hE
  replace N9 := N9.ext hE
  replace D9 := D9.ext hE
  clear hE
  clear hg
  simp only [putAll, setAll]
  clear ga
  have hc20 := HX.cell 2 0 rfl rfl
  have hf20 := HX.free 2 0 rfl
  have hc21 := HX.cell 2 1 rfl rfl
  have hf21 := HX.free 2 1 rfl
  have hc22 := HX.cell 2 2 rfl rfl
  have hf22 := HX.free 2 2 rfl
  try simp only [List.getElem_toArray, List.getElem_cons_zero, List.getElem_cons_succ] at hc20 hf20 hc21 hf21 hc22 hf22
  refine wpAny_step (i := 4) (by kernel_rfl) rfl (by omega) (fun K hK => ?_)
  go_simp
  refine hK.out _ _ ?_
  clear hK K
  clear hc20 hf20 hc21 hf21 hc22 hf22
  have hk := HX.keep3 2 rfl rfl rfl rfl (by omega) (.bool (sg (p + -q))) (.slice A9 (dig (nu (p + -q))).length c9) (.slice B9 (dig (p + -q).den).length d9)
  replace HX := HX.put3 2 rfl (by omega) (by intro k q hk hne; match k, hk with | 0, hk => (simp at hk; subst hk; simp at hne ⊢; try omega) | 1, hk => (simp at hk; subst hk; simp at hne ⊢; try omega) | 2, hk => (simp at hk; subst hk; simp at hne ⊢; try omega) | k + 3, hk => simp at hk) (.bool (sg (p + -q))) (.slice A9 (dig (nu (p + -q))).length c9) (.slice B9 (dig (p + -q).den).length d9)
  replace N9 := N9.stay hk
  replace D9 := D9.stay hk
  clear hk
  simp only [List.set_cons_zero, List.set_cons_succ] at HX
  refine wpAny_done (by kernel_rfl) ?_ _
  have hc20 := HX.cell 2 0 rfl rfl
  have hc21 := HX.cell 2 1 rfl rfl
  have hc22 := HX.cell 2 2 rfl rfl
  try simp only [List.getElem_toArray, List.getElem_cons_zero, List.getElem_cons_succ] at hc20 hc21 hc22
  go_wp2
  exact bodyPost_ret (v := .agg #[.bool (sg (p + -q)), .slice A9 (dig (nu (p + -q))).length c9, .slice B9 (dig (p + -q).den).length d9]) (by simp [results, Tryz.results103, go_sem, hc20, hc21, hc22]) rfl ⟨A9, c9, B9, d9, rfl, N9, D9, HX.below⟩

set_option maxHeartbeats 4000000 in
set_option maxRecDepth 1000000 in
theorem qcmp_any {s t : Bool} {A B A' B' : Option Addr} {n c m d n' c' m' d' : Nat} {p q : Rat} {k k' : Nat} (w : World) (h : Fr w s A n c B m d p k) (h' : Fr w t A' n' c' B' m' d' q k') (hk : k ≤ 16777216) (hk' : k' ≤ 16777216) :
    Calls Tryz.prog 40 #[.agg #[.bool s, .slice A n c, .slice B m d], .agg #[.bool t, .slice A' n' c', .slice B' m' d']] w fun e w' => e = .returned (.int .i64 (cmpQ p q)) ∧ Below w.heap.size w w' := by
  rw [cmpQ_sub]
  have hsz : Sz (p - q) (k + 1 + (k' + 1) + 1) := by rw [Rat.sub_eq_add_neg]; exact h.sz.add h'.sz.neg
  go_enter Tryz.func40, Tryz.ntmps40
  go_wp2_with fail
  have HX := BL.two w #[.bool s, .slice A n c, .slice B m d] #[.bool t, .slice A' n' c', .slice B' m' d'] 37 37
  refine (qsub_any _ (h.ext HX.below) (h'.ext HX.below) (by omega) (by omega)).mono ?_
  rintro e w1 ⟨A1, c1, B1, d1, rfl, N1, D1, hb⟩
  replace HX := HX.ext hb
  clear hb
  go_wp2_with fail
  refine (qsign_any _ (Fr.of N1 D1 hsz) (by omega)).mono ?_
  rintro e w2 ⟨rfl, hb⟩
  replace HX := HX.ext hb
  go_wp2
  go_ret
  exact ⟨rfl, HX.below⟩

end Go.Proofs.YteleohgalknkiaaGreatDoor

namespace Go.Proofs.YteleohgalknkiaaGreatDoor
open Go.RowKit Go.Proofs Go

def RetM (w : World) (a n E : Int) (e : Ending) (w' : World) : Prop := e = .returned (.tuple #[.int .i64 a, .int .i64 n, .int .i64 E]) ∧ Below w.heap.size w w'
/-- what Mode returns -/
def ModeR (l : List Int) (step a n E : Int) : Prop :=
  (someE l = E ∧ E ≠ 0 ∧ a = 0 ∧ n = 0) ∨ (someE l = 0 ∧ (step < 1 ∨ 10000 < step) ∧ a = 0 ∧ n = 0 ∧ E = 2) ∨ (someE l = 0 ∧ (1 ≤ step ∧ step ≤ 10000) ∧ ModeIs l step a ∧ n = (cnt l a (a + step) : Int) ∧ E = 0)
theorem ModeR.unique {l : List Int} {step a n E a' n' E' : Int} (h : ModeR l step a n E) (k : ModeR l step a' n' E') : a = a' ∧ n = n' ∧ E = E' := by
  rcases h with ⟨h1, h2, h3, h4⟩ | ⟨h1, h2, h3, h4, h5⟩ | ⟨h1, h2, h3, h4, h5⟩ <;> rcases k with ⟨k1, k2, k3, k4⟩ | ⟨k1, k2, k3, k4, k5⟩ | ⟨k1, k2, k3, k4, k5⟩
  · exact ⟨by omega, by omega, by omega⟩
  · omega
  · omega
  · omega
  · exact ⟨by omega, by omega, by omega⟩
  · omega
  · omega
  · omega
  · have e := h3.unique k3
    subst e
    exact ⟨rfl, by omega, by omega⟩
/-- what Trim returns -/
def trimR (l : List Int) (k : Int) : List Int × Int := if chkE l = 0 then (if k < 0 ∨ (l.length : Int) < 2 * k then ([], 2) else (((srt l).drop k.toNat).take (l.length - 2 * k.toNat), 0)) else ([], chkE l)
theorem trim_len {l : List Int} {k : Nat} (h : 2 * k ≤ l.length) : (((srt l).drop k).take (l.length - 2 * k)).length = l.length - 2 * k := by
  rw [List.length_take, List.length_drop, srt_len]; omega
set_option maxHeartbeats 1000000 in
set_option maxRecDepth 100000 in
theorem wmode_err {step E : Int} (A : Option Addr) (c : Nat) (l : List Int) (w : World) (H : IEs w A l) (HL : l.length ≤ 9223372036854775807) (hE : Hid (someE l = E)) (hn : (E != 0) = true) :
    Calls Tryz.prog 35 #[.slice A l.length c, .int .i64 step] w (RetM w 0 0 E) := by
  go_enter Tryz.func35, Tryz.ntmps35
  go_wp2_with fail
  refine (wsome_any A c l w H HL hE).mono ?_
  rintro e u2 ⟨rfl, hb⟩
  go_wp2
  go_ret3
  exact ⟨by first | rfl | simp, hb⟩
set_option maxHeartbeats 1000000 in
set_option maxRecDepth 100000 in
theorem wmode_bad {step : Int} (A : Option Addr) (c : Nat) (l : List Int) (w : World) (H : IEs w A l) (HL : l.length ≤ 9223372036854775807) (hE : Hid (someE l = 0)) (hbad : step < 1 ∨ 10000 < step) :
    Calls Tryz.prog 35 #[.slice A l.length c, .int .i64 step] w (RetM w 0 0 2) := by
  by_cases h0 : step < 1
  · have d0 : decide (step < 1) = true := decide_eq_true h0
    clear hbad
    go_enter Tryz.func35, Tryz.ntmps35
    go_wp2_with fail
    refine (wsome_any A c l w H HL hE).mono ?_
    rintro e u2 ⟨rfl, hb⟩
    go_wp2
    go_ret3
    exact ⟨by first | rfl | simp, hb⟩
  · have d0 : decide (step < 1) = false := decide_eq_false h0
    have d1 : decide (10000 < step) = true := decide_eq_true (by omega)
    have h1 : 10000 < step := by omega
    clear hbad
    go_enter Tryz.func35, Tryz.ntmps35
    go_wp2_with fail
    refine (wsome_any A c l w H HL hE).mono ?_
    rintro e u2 ⟨rfl, hb⟩
    go_wp2
    go_ret3
    exact ⟨by first | rfl | simp, hb⟩
set_option maxHeartbeats 1000000 in
set_option maxRecDepth 100000 in
theorem wmode_go {step : Int} (A : Option Addr) (c : Nat) (l : List Int) (w : World) (H : IEs w A l) (HL : l.length ≤ 9223372036854775807) (hE : Hid (someE l = 0)) (s0 : 1 ≤ step) (s1 : step ≤ 10000) :
    Calls Tryz.prog 35 #[.slice A l.length c, .int .i64 step] w fun e w' => ∃ a n : Int, RetM w a n 0 e w' ∧ ModeIs l step a ∧ n = (cnt l a (a + step) : Int) := by
  have hV := Lib.hid (someE_zero.1 hE.out)
  have HL2 : l.length ≤ 1000000 := by have := hV.out; omega
  have d0 : decide (step < 1) = false := decide_eq_false (by omega)
  have d1 : decide (10000 < step) = false := decide_eq_false (by omega)
  have hsl := Lib.hid (srt_len l)
  go_enter Tryz.func35, Tryz.ntmps35
  go_wp2_with fail
  refine (wsome_any A c l w H HL hE).mono ?_
  rintro e u2 ⟨rfl, hb⟩
  go_wp2_with fail
  refine (values_h A l.length c _).mono ?_
  rintro e u3 ⟨rfl, rfl⟩
  have hb3 := bel_trans hb (below_alloc u2 (.cells #[.slice A l.length c] 46))
  go_wp2_with fail
  refine (sorted_h _ (al_new rfl _ _) (H.ext hb3) HL2).mono ?_
  rintro e u4 ⟨A4, c4, rfl, HS, hcap, hb4⟩
  replace hb := bel_trans hb3 hb4
  clear hb3 hb4
  rw [hsl.out]
  clear d0 d1
  obtain ⟨f, hf⟩ : ∃ f : Int → Nat, Hid ((fun x => cnt l x (x + step)) = f) := ⟨_, Lib.hid rfl⟩
  have hms : Hid (MoS f (srt l) 0 0 0) := Lib.hid (.inl ⟨rfl, rfl, rfl⟩)
  go_wp2
  go_loopg [8, 9, 28] l.length (fun g b m i wr => ∃ (j : Nat) (x y : Int), j + g = l.length ∧ b = .int .i64 x ∧ m = .int .i64 y ∧ i = .int .i64 (j : Int) ∧ Hid (MoS f (srt l) j x y) ∧ Below u4.heap.size u4 wr)
  case atStart => exact ⟨0, 0, 0, by omega, rfl, rfl, rfl, hms, Below.refl _ _⟩
  case round =>
    clear hms
    obtain ⟨j, x, y, hj, rfl, rfl, rfl, hms, hbw⟩ := hrel
    by_cases hj0 : j < l.length
    · have hjs : j < (srt l).length := by rw [hsl.out]; exact hj0
      obtain ⟨ad, rfl, hbk, c0⟩ := (HS.ext hbw).at_ (at0_get hjs)
      have hz := hV.out.2.1.srt _ (at0_mem hjs)
      have hup := Lib.hid (fun h => MoS.up hms.out hjs h)
      have hst := Lib.hid (fun h => MoS.stay hms.out (srt_asc l) (by rw [← hf.out]; exact mode_pos s0) hjs h)
      have hcn := Lib.hid (show cnt l (at0 (srt l) j) (at0 (srt l) j + step) = f (at0 (srt l) j) by rw [← hf.out])
      generalize at0 (srt l) j = z at *
      obtain ⟨z1, z2⟩ := hz
      obtain ⟨k, hk⟩ : ∃ k : Nat, f z = k := ⟨_, rfl⟩
      rw [hk] at hup hst hcn
      have hcn2 := Lib.hid (congrArg (Int.ofNat) hcn.out)
      clear hk hjs hms
      go_wp2_with fail
      refine (wwithin_any A c l _ ((H.ext hb).ext hbw) HL2 hcn2).mono ?_
      rintro e u6 ⟨rfl, hb6⟩
      replace hbw := bel_trans hbw hb6
      clear hb6 c0 hbk
      by_cases hlt : y < (k : Int)
      · have hnx := Lib.hid (hup.out (by omega))
        clear hup hst
        go_wp2
        go_roundg (l.length - (j + 1))
        case measure => omega
        case rel => exact ⟨j + 1, z, k, by omega, rfl, rfl, by go_num, hnx, hbw⟩
      · have hnx := Lib.hid (hst.out (by omega))
        clear hup hst
        have hd : decide (y < (k : Int)) = false := decide_eq_false hlt
        go_wp2
        go_roundg (l.length - (j + 1))
        case measure => omega
        case rel => exact ⟨j + 1, x, y, by omega, rfl, rfl, by go_num, hnx, hbw⟩
    · have hfin := Lib.hid (show ModeIs l step x ∧ y = (cnt l x (x + step) : Int) from MoS.mode hV.out.2.2 (by
        have := hms.out
        rw [← hf.out, show j = l.length by omega] at this
        exact this))
      clear hms
      go_wp2
      go_ret3
      exact ⟨x, y, ⟨rfl, bel_trans hb hbw⟩, hfin.out⟩
theorem wmode_any {step : Int} (A : Option Addr) (c : Nat) (l : List Int) (w : World) (H : IEs w A l) (HL : l.length ≤ 9223372036854775807) :
    Calls Tryz.prog 35 #[.slice A l.length c, .int .i64 step] w fun e w' => ∃ a n E : Int, RetM w a n E e w' ∧ ModeR l step a n E := by
  by_cases h1 : someE l = 0
  · by_cases h2 : 1 ≤ step ∧ step ≤ 10000
    · refine (wmode_go A c l w H HL (Lib.hid h1) h2.1 h2.2).mono ?_
      rintro e w' ⟨a, n, h3, h4, h5⟩
      exact ⟨a, n, 0, h3, .inr (.inr ⟨h1, h2, h4, h5, rfl⟩)⟩
    · refine (wmode_bad A c l w H HL (Lib.hid h1) (by omega)).mono ?_
      intro e w' h3
      exact ⟨0, 0, 2, h3, .inr (.inl ⟨h1, by omega, rfl, rfl, rfl⟩)⟩
  · refine (wmode_err A c l w H HL (Lib.hid rfl) (bne_iff_ne.2 h1)).mono ?_
    intro e w' h3
    exact ⟨0, 0, _, h3, .inl ⟨rfl, h1, rfl, rfl⟩⟩
set_option maxHeartbeats 1000000 in
set_option maxRecDepth 100000 in
theorem rmode_err {step E : Int} (A : Option Addr) (c : Nat) (l : List Int) (w : World) (H : IEs w A l) (HL : l.length ≤ 9223372036854775807) (hE : Hid (someE l = E)) (hn : (E != 0) = true) :
    Calls Tryz.prog 36 #[.slice A l.length c, .int .i64 step] w (RetM w 0 0 E) := by
  go_enter Tryz.func36, Tryz.ntmps36
  go_wp2_with fail
  refine (rsome_any A c l w H HL hE).mono ?_
  rintro e u2 ⟨rfl, hb⟩
  go_wp2
  go_ret3
  exact ⟨by first | rfl | simp, hb⟩
set_option maxHeartbeats 1000000 in
set_option maxRecDepth 100000 in
theorem rmode_bad {step : Int} (A : Option Addr) (c : Nat) (l : List Int) (w : World) (H : IEs w A l) (HL : l.length ≤ 9223372036854775807) (hE : Hid (someE l = 0)) (hbad : step < 1 ∨ 10000 < step) :
    Calls Tryz.prog 36 #[.slice A l.length c, .int .i64 step] w (RetM w 0 0 2) := by
  by_cases h0 : step < 1
  · have d0 : decide (step < 1) = true := decide_eq_true h0
    clear hbad
    go_enter Tryz.func36, Tryz.ntmps36
    go_wp2_with fail
    refine (rsome_any A c l w H HL hE).mono ?_
    rintro e u2 ⟨rfl, hb⟩
    go_wp2
    go_ret3
    exact ⟨by first | rfl | simp, hb⟩
  · have d0 : decide (step < 1) = false := decide_eq_false h0
    have d1 : decide (10000 < step) = true := decide_eq_true (by omega)
    have h1 : 10000 < step := by omega
    clear hbad
    go_enter Tryz.func36, Tryz.ntmps36
    go_wp2_with fail
    refine (rsome_any A c l w H HL hE).mono ?_
    rintro e u2 ⟨rfl, hb⟩
    go_wp2
    go_ret3
    exact ⟨by first | rfl | simp, hb⟩
set_option maxHeartbeats 1000000 in
set_option maxRecDepth 100000 in
theorem rmode_go {step a n : Int} (A : Option Addr) (c : Nat) (l : List Int) (w : World) (H : IEs w A l) (HL : l.length ≤ 9223372036854775807) (hE : Hid (someE l = 0)) (s0 : 1 ≤ step) (s1 : step ≤ 10000) (hM : Hid (ModeIs l step a)) (hn : Hid ((cnt l a (a + step) : Int) = n)) :
    Calls Tryz.prog 36 #[.slice A l.length c, .int .i64 step] w (RetM w a n 0) := by
  have hV := Lib.hid (someE_zero.1 hE.out)
  have HL2 : l.length ≤ 1000000 := by have := hV.out; omega
  have hpos : 0 < l.length := hV.out.2.2
  have d0 : decide (step < 1) = false := decide_eq_false (by omega)
  have d1 : decide (10000 < step) = false := decide_eq_false (by omega)
  obtain ⟨f, hf⟩ : ∃ f : Int → Nat, Hid ((fun x => cnt l x (x + step)) = f) := ⟨_, Lib.hid rfl⟩
  have hms : Hid (MoR f l 0 (at0 l 0)) := Lib.hid ⟨at0_mem hpos, fun x hx => by simp at hx⟩
  go_enter Tryz.func36, Tryz.ntmps36
  go_wp2_with fail
  refine (rsome_any A c l w H HL hE).mono ?_
  rintro e u2 ⟨rfl, hb⟩
  obtain ⟨ad, rfl, hbk, c0⟩ := (H.ext hb).at_ (at0_get hpos)
  generalize at0 l 0 = x0 at *
  have c00 : u2.cell? (ad.add 0) = some (.int .i64 x0) := c0
  replace c0 : u2.cell? ad = some (.int .i64 x0) := c0
  have hp2 : (0 : Int) < (l.length : Int) := by omega
  clear hbk
  go_upto_block 3 with fail
  clear d0 d1 c0 c00
  go_loopg [8, 9] l.length (fun g b i wr => ∃ (j : Nat) (x : Int), j + g = l.length ∧ b = .int .i64 x ∧ i = .int .i64 (j : Int) ∧ Hid (MoR f l j x) ∧ Below u2.heap.size u2 wr)
  case atStart => exact ⟨0, x0, by omega, rfl, rfl, hms, Below.refl _ _⟩
  case round =>
    clear hms
    obtain ⟨j, x, hj, rfl, rfl, hms, hbw⟩ := hrel
    by_cases hj0 : j < l.length
    · obtain ⟨ad2, he2, hbk, c0⟩ := ((H.ext hb).ext hbw).at_ (at0_get hj0)
      obtain rfl := Option.some.inj he2
      have hz := hV.out.2.1 _ (at0_mem hj0)
      have hx := hV.out.2.1 _ hms.out.1
      have hup := Lib.hid (fun h => MoR.up hms.out hj0 h)
      have hst := Lib.hid (fun h => MoR.stay hms.out hj0 h)
      have hcn := Lib.hid (show cnt l (at0 l j) (at0 l j + step) = f (at0 l j) by rw [← hf.out])
      have hcx := Lib.hid (show cnt l x (x + step) = f x by rw [← hf.out])
      generalize at0 l j = z at *
      obtain ⟨z1, z2⟩ := hz
      obtain ⟨x1, x2⟩ := hx
      obtain ⟨k, hk⟩ : ∃ k : Nat, f z = k := ⟨_, rfl⟩
      obtain ⟨m, hm⟩ : ∃ m : Nat, f x = m := ⟨_, rfl⟩
      rw [hk, hm] at hup hst
      rw [hk] at hcn
      rw [hm] at hcx
      have hcn2 := Lib.hid (congrArg (Int.ofNat) hcn.out)
      have hcx2 := Lib.hid (congrArg (Int.ofNat) hcx.out)
      clear hk hm hms
      have hH : ∀ W', Below wr.heap.size wr W' → W'.cell? (ad.add j) = some (.int .i64 z) := fun W' h => by rw [h.cell (cell_lt c0)]; exact c0
      have wz : IntKind.i64.wrap (z + step) = z + step := Go.IntWalk.i64_in _ (by omega)
      have j1 : (0 : Int) ≤ (j : Int) := by omega
      have j2 : (j : Int) < (l.length : Int) := by omega
      go_upto_region 10 with fail
      have hbd : Below u2.heap.size u2 wr.drew := drew_below hbw 1
      have hHd : ∀ W', Below wr.drew.heap.size wr.drew W' → W'.cell? (ad.add j) = some (.int .i64 z) := fun W' h => hH W' (bel_trans (drew_below (Below.refl _ _) 1) h)
      have c0d := hHd _ (Below.refl _ _)
      clear c0
      go_region_held3 (fun W' => W'.cell? (ad.add j) = some (.int .i64 z))
        (first | exact c0d | exact hHd _ (by assumption))
        (first
          | (go_at_call 95; refine (rbetween_any (some ad) c l _ ((H.ext hb).ext hbd) HL2 hcn2).mono ?_; rintro e u6 ⟨rfl, hb6⟩))
      have c6 := hHd _ hb6
      clear wz
      go_wp2_with fail
      refine (rbetween_any (some ad) c l _ (((H.ext hb).ext hbd).ext hb6) HL2 hcx2).mono ?_
      rintro e u7 ⟨rfl, hb7⟩
      have c7 := hHd _ (bel_trans hb6 hb7)
      replace hbw := bel_trans hbd (bel_trans hb6 hb7)
      clear hb6 hb7 hH hHd c6 hbk c0d hbd
      by_cases hlt : m < k
      · have hnx := Lib.hid (hup.out (by omega))
        have e1 : decide ((m : Int) < (k : Int)) = true := decide_eq_true (by omega)
        clear hup hst
        go_wp2
        go_roundg (l.length - (j + 1))
        case measure => omega
        case rel => exact ⟨j + 1, z, by omega, rfl, by go_num, hnx, hbw⟩
      · have e1 : decide ((m : Int) < (k : Int)) = false := decide_eq_false (by omega)
        have e1n : decide (m < k) = false := decide_eq_false hlt
        by_cases hkm : k = m
        · subst hkm
          have e2 : ((k : Int) == (k : Int)) = true := beq_iff_eq.2 rfl
          by_cases hzx : z < x
          · have hnx := Lib.hid (hup.out (by omega))
            have e3 : decide (z < x) = true := decide_eq_true hzx
            clear hup hst
            go_wp2
            go_roundg (l.length - (j + 1))
            case measure => omega
            case rel => exact ⟨j + 1, z, by omega, rfl, by go_num, hnx, hbw⟩
          · have hnx := Lib.hid (hst.out (by omega))
            have e3 : decide (z < x) = false := decide_eq_false hzx
            clear hup hst
            go_wp2
            go_roundg (l.length - (j + 1))
            case measure => omega
            case rel => exact ⟨j + 1, x, by omega, rfl, by go_num, hnx, hbw⟩
        · have hnx := Lib.hid (hst.out (by omega))
          have e2 : ((k : Int) == (m : Int)) = false := beq_eq_false_iff_ne.2 (by omega)
          have e2n : (k == m) = false := beq_eq_false_iff_ne.2 hkm
          clear hup hst
          go_wp2
          go_roundg (l.length - (j + 1))
          case measure => omega
          case rel => exact ⟨j + 1, x, by omega, rfl, by go_num, hnx, hbw⟩
    · have hfin : ModeIs l step x := MoR.mode (by
        have := hms.out
        rw [← hf.out, show j = l.length by omega] at this
        exact this)
      have hxa := hfin.unique hM.out
      subst hxa
      have hx := hV.out.2.1 _ hM.out.1
      obtain ⟨x1, x2⟩ := hx
      clear hms hfin
      go_wp2_with fail
      refine (rbetween_any (some ad) c l _ ((H.ext hb).ext hbw) HL2 hn).mono ?_
      rintro e u6 ⟨rfl, hb6⟩
      replace hbw := bel_trans hbw hb6
      go_wp2
      go_ret3
      exact ⟨rfl, bel_trans hb hbw⟩
theorem rmode_any {step a n E : Int} (A : Option Addr) (c : Nat) (l : List Int) (w : World) (H : IEs w A l) (HL : l.length ≤ 9223372036854775807) (h : ModeR l step a n E) :
    Calls Tryz.prog 36 #[.slice A l.length c, .int .i64 step] w (RetM w a n E) := by
  rcases h with ⟨h1, h2, rfl, rfl⟩ | ⟨h1, h2, rfl, rfl, rfl⟩ | ⟨h1, h2, h3, h4, rfl⟩
  · exact rmode_err A c l w H HL (Lib.hid h1) (bne_iff_ne.2 h2)
  · exact rmode_bad A c l w H HL (Lib.hid h1) h2
  · exact rmode_go A c l w H HL (Lib.hid h1) h2.1 h2.2 (Lib.hid h3) (Lib.hid h4.symm)
set_option maxHeartbeats 1000000 in
set_option maxRecDepth 100000 in
theorem wtrim_err {k E : Int} (A : Option Addr) (c : Nat) (l : List Int) (w : World) (H : IEs w A l) (HL : l.length ≤ 9223372036854775807) (hE : Hid (chkE l = E)) (hn : (E != 0) = true) :
    Calls Tryz.prog 52 #[.slice A l.length c, .int .i64 k] w (RetL w [] E) := by
  go_enter Tryz.func52, Tryz.ntmps52
  go_wp2_with fail
  refine (wcheck_any A c l w H HL hE).mono ?_
  rintro e u2 ⟨rfl, hb⟩
  go_wp2
  go_ret2
  exact ⟨none, 0, rfl, IEs.nil _ _, hb⟩
set_option maxHeartbeats 2000000 in
set_option maxRecDepth 100000 in
theorem wtrim_bad {k : Int} (A : Option Addr) (c : Nat) (l : List Int) (w : World) (H : IEs w A l) (HL : l.length ≤ 9223372036854775807) (k1 : -9223372036854775808 ≤ k) (k2 : k ≤ 9223372036854775807) (hE : Hid (chkE l = 0)) (hbad : k < 0 ∨ (l.length : Int) < 2 * k) :
    Calls Tryz.prog 52 #[.slice A l.length c, .int .i64 k] w (RetL w [] 2) := by
  have h64 := (chkE_zero.1 hE.out).1
  by_cases h0 : k < 0
  · have d0 : decide (k < 0) = true := decide_eq_true h0
    clear hbad
    go_enter Tryz.func52, Tryz.ntmps52
    go_wp2_with fail
    refine (wcheck_any A c l w H HL hE).mono ?_
    rintro e u2 ⟨rfl, hb⟩
    go_wp2
    go_ret2
    exact ⟨none, 0, rfl, IEs.nil _ _, hb⟩
  · have d0 : decide (k < 0) = false := decide_eq_false h0
    obtain ⟨m, hm⟩ : ∃ m : Nat, l.length / 2 = m := ⟨_, rfl⟩
    have q1 : (l.length : Int).tdiv 2 = (m : Int) := by rw [Int.tdiv_eq_ediv_of_nonneg (by omega)]; omega
    have q2 : (l.length : Int) / 2 = (m : Int) := by omega
    have d1 : decide ((m : Int) < k) = true := decide_eq_true (by omega)
    clear hbad
    go_enter Tryz.func52, Tryz.ntmps52
    go_wp2_with fail
    refine (wcheck_any A c l w H HL hE).mono ?_
    rintro e u2 ⟨rfl, hb⟩
    go_wp2
    go_ret2
    exact ⟨none, 0, rfl, IEs.nil _ _, hb⟩
set_option maxHeartbeats 1000000 in
set_option maxRecDepth 100000 in
theorem wtrim_go {k : Nat} (A : Option Addr) (c : Nat) (l : List Int) (w : World) (H : IEs w A l) (HL : l.length ≤ 9223372036854775807) (hE : Hid (chkE l = 0)) (hok : 2 * k ≤ l.length) :
    Calls Tryz.prog 52 #[.slice A l.length c, .int .i64 (k : Int)] w (RetL w (((srt l).drop k).take (l.length - 2 * k)) 0) := by
  have h64 := (chkE_zero.1 hE.out).1
  have HL2 : l.length ≤ 1000000 := by omega
  have hsl := Lib.hid (srt_len l)
  have d0 : decide ((k : Int) < 0) = false := decide_eq_false (by omega)
  obtain ⟨m, hm⟩ : ∃ m : Nat, l.length / 2 = m := ⟨_, rfl⟩
  have q1 : (l.length : Int).tdiv 2 = (m : Int) := by rw [Int.tdiv_eq_ediv_of_nonneg (by omega)]; omega
  have q2 : (l.length : Int) / 2 = (m : Int) := by omega
  have d1 : decide ((m : Int) < (k : Int)) = false := decide_eq_false (by omega)
  have d1n : decide (m < k) = false := decide_eq_false (by omega)
  have d2 : decide ((32 : Int) < (k : Int)) = false := decide_eq_false (by omega)
  have d3 : decide ((l.length : Int) < 2 * (k : Int)) = false := decide_eq_false (by omega)
  obtain ⟨r, hr⟩ : ∃ r : Nat, l.length - k = r := ⟨_, rfl⟩
  have q3 : (l.length : Int) - (k : Int) = (r : Int) := by omega
  have q4 : (0 : Int) ≤ (k : Int) := by omega
  have q5 : (k : Int) ≤ (r : Int) := by omega
  have q6 : r ≤ l.length := by omega
  go_enter Tryz.func52, Tryz.ntmps52
  go_wp2_with fail
  refine (wcheck_any A c l w H HL hE).mono ?_
  rintro e u2 ⟨rfl, hb⟩
  go_wp2_with fail
  refine (values_h A l.length c _).mono ?_
  rintro e u3 ⟨rfl, rfl⟩
  have hb3 := bel_trans hb (below_alloc u2 (.cells #[.slice A l.length c] 46))
  go_wp2_with fail
  refine (sorted_h _ (al_new rfl _ _) (H.ext hb3) HL2).mono ?_
  rintro e u4 ⟨A4, c4, rfl, HS, hcap, hb4⟩
  replace hb := bel_trans hb3 hb4
  clear hb3 hb4
  rw [hsl.out] at hcap ⊢
  have q7 : (r : Int) ≤ (c4 : Int) := by omega
  have q8 : r ≤ c4 := by omega
  have q9 : k ≤ r := by omega
  have e0 : r - k = l.length - 2 * k := by omega
  by_cases hck : c4 = k
  · have e1 : l.length - 2 * k = 0 := by omega
    have e2 : r - k = 0 := by omega
    go_wp2
    go_ret2
    refine ⟨A4, 0, ?_, by rw [e1, List.take_zero]; exact IEs.nil _ _, hb⟩
    rw [trim_len hok, e1]
    simp
  · have hI := HS.sub (c := c4) (k := k) (m := l.length - 2 * k) (by rw [hsl.out]; exact hcap) (by rw [hsl.out]; omega)
    rw [if_neg hck] at hI
    go_wp2
    go_ret2
    refine ⟨_, c4 - k, ?_, hI, hb⟩
    rw [trim_len hok, ← e0]; rfl
theorem wtrim_any {k E : Int} {L : List Int} (A : Option Addr) (c : Nat) (l : List Int) (w : World) (H : IEs w A l) (HL : l.length ≤ 9223372036854775807) (k1 : -9223372036854775808 ≤ k) (k2 : k ≤ 9223372036854775807) (h : Hid (trimR l k = (L, E))) :
    Calls Tryz.prog 52 #[.slice A l.length c, .int .i64 k] w (RetL w L E) := by
  have h1 := h.out
  unfold trimR at h1
  by_cases h2 : chkE l = 0
  · rw [if_pos h2] at h1
    by_cases h3 : k < 0 ∨ (l.length : Int) < 2 * k
    · rw [if_pos h3] at h1
      injection h1 with h4 h5
      subst h4 h5
      exact wtrim_bad A c l w H HL k1 k2 (Lib.hid h2) h3
    · rw [if_neg h3] at h1
      injection h1 with h4 h5
      subst h4 h5
      obtain ⟨m, rfl⟩ : ∃ m : Nat, k = (m : Int) := ⟨k.toNat, by omega⟩
      exact wtrim_go A c l w H HL (Lib.hid h2) (by omega)
  · rw [if_neg h2] at h1
    injection h1 with h4 h5
    subst h4
    exact wtrim_err A c l w H HL (Lib.hid h5) (by rw [bne_iff_ne, ← h5]; exact h2)
set_option maxHeartbeats 1000000 in
set_option maxRecDepth 100000 in
theorem rtrim_err {k E : Int} (A : Option Addr) (c : Nat) (l : List Int) (w : World) (H : IEs w A l) (HL : l.length ≤ 9223372036854775807) (hE : Hid (chkE l = E)) (hn : (E != 0) = true) :
    Calls Tryz.prog 53 #[.slice A l.length c, .int .i64 k] w (RetL w [] E) := by
  go_enter Tryz.func53, Tryz.ntmps53
  go_wp2_with fail
  refine (rcheck_any A c l w H HL hE).mono ?_
  rintro e u2 ⟨rfl, hb⟩
  go_wp2
  go_ret2
  exact ⟨none, 0, rfl, IEs.nil _ _, hb⟩
set_option maxHeartbeats 2000000 in
set_option maxRecDepth 100000 in
theorem rtrim_bad {k : Int} (A : Option Addr) (c : Nat) (l : List Int) (w : World) (H : IEs w A l) (HL : l.length ≤ 9223372036854775807) (k1 : -9223372036854775808 ≤ k) (k2 : k ≤ 9223372036854775807) (hE : Hid (chkE l = 0)) (hbad : k < 0 ∨ (l.length : Int) < 2 * k) :
    Calls Tryz.prog 53 #[.slice A l.length c, .int .i64 k] w (RetL w [] 2) := by
  have h64 := (chkE_zero.1 hE.out).1
  by_cases h0 : k < 0
  · have d0 : decide (k < 0) = true := decide_eq_true h0
    clear hbad
    go_enter Tryz.func53, Tryz.ntmps53
    go_wp2_with fail
    refine (rcheck_any A c l w H HL hE).mono ?_
    rintro e u2 ⟨rfl, hb⟩
    go_wp2
    go_ret2
    exact ⟨none, 0, rfl, IEs.nil _ _, hb⟩
  · have d0 : decide (k < 0) = false := decide_eq_false h0
    by_cases h32 : 32 < k
    · have d1 : decide (32 < k) = true := decide_eq_true h32
      clear hbad
      go_enter Tryz.func53, Tryz.ntmps53
      go_wp2_with fail
      refine (rcheck_any A c l w H HL hE).mono ?_
      rintro e u2 ⟨rfl, hb⟩
      go_wp2
      go_ret2
      exact ⟨none, 0, rfl, IEs.nil _ _, hb⟩
    · have d1 : decide (32 < k) = false := decide_eq_false h32
      have d2 : decide ((l.length : Int) < 2 * k) = true := decide_eq_true (by omega)
      clear hbad
      go_enter Tryz.func53, Tryz.ntmps53
      go_wp2_with fail
      refine (rcheck_any A c l w H HL hE).mono ?_
      rintro e u2 ⟨rfl, hb⟩
      go_wp2
      go_ret2
      exact ⟨none, 0, rfl, IEs.nil _ _, hb⟩
set_option maxHeartbeats 1000000 in
set_option maxRecDepth 100000 in
theorem rtrim_go {k : Nat} (A : Option Addr) (c : Nat) (l : List Int) (w : World) (H : IEs w A l) (HL : l.length ≤ 9223372036854775807) (hE : Hid (chkE l = 0)) (hok : 2 * k ≤ l.length) :
    Calls Tryz.prog 53 #[.slice A l.length c, .int .i64 (k : Int)] w (RetL w (((srt l).drop k).take (l.length - 2 * k)) 0) := by
  have h64 := (chkE_zero.1 hE.out).1
  have HL2 : l.length ≤ 1000000 := by omega
  have hsl := Lib.hid (srt_len l)
  have d0 : decide ((k : Int) < 0) = false := decide_eq_false (by omega)
  obtain ⟨m, hm⟩ : ∃ m : Nat, l.length / 2 = m := ⟨_, rfl⟩
  have q1 : (l.length : Int).tdiv 2 = (m : Int) := by rw [Int.tdiv_eq_ediv_of_nonneg (by omega)]; omega
  have q2 : (l.length : Int) / 2 = (m : Int) := by omega
  have d1 : decide ((m : Int) < (k : Int)) = false := decide_eq_false (by omega)
  have d1n : decide (m < k) = false := decide_eq_false (by omega)
  have d2 : decide ((32 : Int) < (k : Int)) = false := decide_eq_false (by omega)
  have d3 : decide ((l.length : Int) < 2 * (k : Int)) = false := decide_eq_false (by omega)
  obtain ⟨r, hr⟩ : ∃ r : Nat, l.length - k = r := ⟨_, rfl⟩
  have q3 : (l.length : Int) - (k : Int) = (r : Int) := by omega
  have q4 : (0 : Int) ≤ (k : Int) := by omega
  have q5 : (k : Int) ≤ (r : Int) := by omega
  have q6 : r ≤ l.length := by omega
  go_enter Tryz.func53, Tryz.ntmps53
  go_wp2_with fail
  refine (rcheck_any A c l w H HL hE).mono ?_
  rintro e u2 ⟨rfl, hb⟩
  go_wp2_with fail
  refine (rsorted_any A c l _ (H.ext hb) HL2).mono ?_
  rintro e u4 ⟨A4, c4, rfl, HS, hcap, hb4⟩
  replace hb := bel_trans hb hb4
  clear hb4
  rw [hsl.out] at hcap ⊢
  have q7 : (r : Int) ≤ (c4 : Int) := by omega
  have q8 : r ≤ c4 := by omega
  have q9 : k ≤ r := by omega
  have e0 : r - k = l.length - 2 * k := by omega
  by_cases hck : c4 = k
  · have e1 : l.length - 2 * k = 0 := by omega
    have e2 : r - k = 0 := by omega
    go_wp2
    go_ret2
    refine ⟨A4, 0, ?_, by rw [e1, List.take_zero]; exact IEs.nil _ _, hb⟩
    rw [trim_len hok, e1]
    simp
  · have hI := HS.sub (c := c4) (k := k) (m := l.length - 2 * k) (by rw [hsl.out]; exact hcap) (by rw [hsl.out]; omega)
    rw [if_neg hck] at hI
    go_wp2
    go_ret2
    refine ⟨_, c4 - k, ?_, hI, hb⟩
    rw [trim_len hok, ← e0]; rfl
theorem rtrim_any {k E : Int} {L : List Int} (A : Option Addr) (c : Nat) (l : List Int) (w : World) (H : IEs w A l) (HL : l.length ≤ 9223372036854775807) (k1 : -9223372036854775808 ≤ k) (k2 : k ≤ 9223372036854775807) (h : Hid (trimR l k = (L, E))) :
    Calls Tryz.prog 53 #[.slice A l.length c, .int .i64 k] w (RetL w L E) := by
  have h1 := h.out
  unfold trimR at h1
  by_cases h2 : chkE l = 0
  · rw [if_pos h2] at h1
    by_cases h3 : k < 0 ∨ (l.length : Int) < 2 * k
    · rw [if_pos h3] at h1
      injection h1 with h4 h5
      subst h4 h5
      exact rtrim_bad A c l w H HL k1 k2 (Lib.hid h2) h3
    · rw [if_neg h3] at h1
      injection h1 with h4 h5
      subst h4 h5
      obtain ⟨m, rfl⟩ : ∃ m : Nat, k = (m : Int) := ⟨k.toNat, by omega⟩
      exact rtrim_go A c l w H HL (Lib.hid h2) (by omega)
  · rw [if_neg h2] at h1
    injection h1 with h4 h5
    subst h4
    exact rtrim_err A c l w H HL (Lib.hid h5) (by rw [bne_iff_ne, ← h5]; exact h2)
end Go.Proofs.YteleohgalknkiaaGreatDoor

namespace Go.Proofs.YteleohgalknkiaaGreatDoor
open Go.RowKit Go.Proofs Go

def Ret2 (w : World) (a E : Int) (e : Ending) (w' : World) : Prop := e = .returned (.tuple #[.int .i64 a, .int .i64 E]) ∧ Below w.heap.size w w'
/-- what Quantile returns -/
def QuanR (l : List Int) (q : Rat) (r E : Int) : Prop :=
  (someE l = E ∧ E ≠ 0 ∧ r = 0) ∨ (someE l = 0 ∧ ¬ (0 < q ∧ q ≤ quo 1 1) ∧ r = 0 ∧ E = 2) ∨ (someE l = 0 ∧ (0 < q ∧ q ≤ quo 1 1) ∧ (∃ i, QAt q l.length i ∧ r = at0 (srt l) i) ∧ E = 0)
theorem QuanR.unique {l : List Int} {q : Rat} {r E r' E' : Int} (h : QuanR l q r E) (k : QuanR l q r' E') : r = r' ∧ E = E' := by
  rcases h with ⟨h1, h2, h3⟩ | ⟨h1, h2, h3, h4⟩ | ⟨h1, h2, ⟨i, h3, h4⟩, h5⟩ <;> rcases k with ⟨k1, k2, k3⟩ | ⟨k1, k2, k3, k4⟩ | ⟨k1, k2, ⟨j, k3, k4⟩, k5⟩
  · exact ⟨by omega, by omega⟩
  · omega
  · omega
  · omega
  · exact ⟨by omega, by omega⟩
  · exact absurd k2 h2
  · omega
  · exact absurd h2 k2
  · have := h3.unique k3
    subst this
    exact ⟨by omega, by omega⟩
theorem QuanR.ex (l : List Int) (q : Rat) : ∃ r E, QuanR l q r E := by
  by_cases h1 : someE l = 0
  · by_cases h2 : 0 < q ∧ q ≤ quo 1 1
    · obtain ⟨i, hi⟩ := QAt.ex h2.2 (someE_zero.1 h1).2.2
      exact ⟨_, 0, .inr (.inr ⟨h1, h2, ⟨i, hi, rfl⟩, rfl⟩)⟩
    · exact ⟨0, 2, .inr (.inl ⟨h1, h2, rfl, rfl⟩)⟩
  · exact ⟨0, _, .inl ⟨rfl, h1, rfl⟩⟩
theorem qcmp_h {w : World} {s t : Bool} {A B A' B' : Option Addr} {n c m d n' c' m' d' : Nat} {p q : Rat} {k k' : Nat} {x : Int} (hu : Hid (cmpQ p q = x)) (h : Fr w s A n c B m d p k) (h' : Fr w t A' n' c' B' m' d' q k') (hk : k ≤ 16777216) (hk' : k' ≤ 16777216) :
    Calls Tryz.prog 40 #[.agg #[.bool s, .slice A n c, .slice B m d], .agg #[.bool t, .slice A' n' c', .slice B' m' d']] w (RetI w x) := (qcmp_any w h h' (by omega) (by omega)).mono fun _ _ h => ⟨by rw [h.1, hu.out], h.2⟩
theorem qsign_h {w : World} {s : Bool} {A B : Option Addr} {n c m d : Nat} {p : Rat} {k : Nat} {x : Int} (hu : Hid (sgn p = x)) (h : Fr w s A n c B m d p k) (hk : k ≤ 16777216) :
    Calls Tryz.prog 102 #[.agg #[.bool s, .slice A n c, .slice B m d]] w (RetI w x) := (qsign_any w h (by omega)).mono fun _ _ h => ⟨by rw [h.1, hu.out], h.2⟩
theorem qmul_h {w : World} {s t : Bool} {A B A' B' : Option Addr} {n c m d n' c' m' d' : Nat} {p q u : Rat} {k k' j : Nat} (hu : Hid (p * q = u)) (hs : Sz u j) (h : Fr w s A n c B m d p k) (h' : Fr w t A' n' c' B' m' d' q k') (hk : k ≤ 16777216) (hk' : k' ≤ 16777216) :
    Calls Tryz.prog 44 #[.agg #[.bool s, .slice A n c, .slice B m d], .agg #[.bool t, .slice A' n' c', .slice B' m' d']] w (RetG w u j) := (qmul_any w h h' (by omega) (by omega)).mono fun _ _ h => h.toF hu hs
set_option maxHeartbeats 1000000 in
set_option maxRecDepth 100000 in
theorem wquant_err {E : Int} {s : Bool} {A' B' : Option Addr} {n' c' m' d' k : Nat} {q : Rat} (A : Option Addr) (c : Nat) (l : List Int) (w : World) (H : IEs w A l) (HL : l.length ≤ 9223372036854775807) (P : Fr w s A' n' c' B' m' d' q k) (_ : k ≤ 1000) (hE : Hid (someE l = E)) (hn : (E != 0) = true) :
    Calls Tryz.prog 42 #[.slice A l.length c, .agg #[.bool s, .slice A' n' c', .slice B' m' d']] w (Ret2 w 0 E) := by
  go_enter Tryz.func42, Tryz.ntmps42
  go_wp2_with fail
  have HX := BL.one w #[.bool s, .slice A' n' c', .slice B' m' d'] 37
  replace H := H.ext HX.below
  replace P := P.ext HX.below
  refine (wsome_any A c l _ H HL hE).mono ?_
  rintro e u2 ⟨rfl, hb⟩
  replace HX := HX.ext hb
  replace H := H.ext hb
  replace P := P.ext hb
  clear hb
  go_wp2
  go_ret2
  exact ⟨by first | rfl | simp, HX.below⟩
set_option maxHeartbeats 2000000 in
set_option maxRecDepth 100000 in
theorem wquant_low {s : Bool} {A' B' : Option Addr} {n' c' m' d' k : Nat} {q : Rat} (A : Option Addr) (c : Nat) (l : List Int) (w : World) (H : IEs w A l) (HL : l.length ≤ 9223372036854775807) (P : Fr w s A' n' c' B' m' d' q k) (hkk : k ≤ 1000) (hE : Hid (someE l = 0)) (hq : ¬ 0 < q) :
    Calls Tryz.prog 42 #[.slice A l.length c, .agg #[.bool s, .slice A' n' c', .slice B' m' d']] w (Ret2 w 0 2) := by
  obtain ⟨x, hx⟩ : ∃ x, Hid (sgn q = x) := ⟨_, Lib.hid rfl⟩
  have hx0 : x ≤ 0 := by rw [← hx.out]; rcases sgn_cases q with ⟨_, e⟩ | ⟨_, e⟩ | ⟨e1, e⟩ <;> first | omega | exact absurd e1 hq
  have hd : decide (x ≤ 0) = true := decide_eq_true hx0
  clear hq
  go_enter Tryz.func42, Tryz.ntmps42
  go_wp2_with fail
  have HX := BL.one w #[.bool s, .slice A' n' c', .slice B' m' d'] 37
  replace H := H.ext HX.below
  replace P := P.ext HX.below
  refine (wsome_any A c l _ H HL hE).mono ?_
  rintro e u2 ⟨rfl, hb⟩
  replace HX := HX.ext hb
  replace H := H.ext hb
  replace P := P.ext hb
  clear hb
  go_upto_region 4 with fail
  have held : ∀ {W' : World}, BL w W' [(w.heap.size, #[.bool s, .slice A' n' c', .slice B' m' d'], 37)] → W'.cell? ⟨w.heap.size, 0, none⟩ = some (.bool s) ∧ W'.cell? ⟨w.heap.size, 1, none⟩ = some (.slice A' n' c') ∧ W'.cell? ⟨w.heap.size, 2, none⟩ = some (.slice B' m' d') := fun h => ⟨h.cell 0 0 rfl rfl, h.cell 0 1 rfl rfl, h.cell 0 2 rfl rfl⟩
  replace HX := HX.ext (drew_ext _)
  replace H := H.ext (drew_ext _)
  replace P := P.ext (drew_ext _)
  refine wp_region_held_drew (S := fun W' => W'.cell? ⟨w.heap.size, 0, none⟩ = some (.bool s) ∧ W'.cell? ⟨w.heap.size, 1, none⟩ = some (.slice A' n' c') ∧ W'.cell? ⟨w.heap.size, 2, none⟩ = some (.slice B' m' d')) (by kernel_rfl) (held HX) (fun hHeld => ?_)
  refine wpAnyH_take (i := 0) (v := ?_) (by simp only [List.getElem?_toArray, List.getElem?_cons_zero]; rfl) (by kernel_rfl) (by kernel_rfl) (by kernel_rfl) (by exact fun _ _ _ h => h) (Or.inl ⟨by kernel_rfl, ?_⟩) (by assumption) ?_
  rotate_left
  · intro w hSw; (try dsimp only at hSw); go_simp <;> (try with_reducible rfl)
  try simp only [Act.put, List.setIfInBounds_toArray, List.set_cons_zero, List.set_cons_succ]
  refine wpAnyH_ready (rs := [1]) (by kernel_rfl) (by simp) ?_
  refine AllReadyH.cons (by simp only [List.getElem?_toArray, List.getElem?_cons_succ, List.getElem?_cons_zero]; rfl) (fun K hK => ?_) AllReadyH.nil
  go_simp
  go_at_call 19
  refine (fsign_h hx P (by omega)).mono ?_
  rintro e wz ⟨rfl, hb⟩
  replace HX := HX.ext hb
  replace H := H.ext hb
  replace P := P.ext hb
  clear hb
  clear hHeld
  refine hK.out _ _ (held HX) (fun hHeld => ?_)
  clear hK K
  try simp only [Act.put, List.setIfInBounds_toArray, List.set_cons_zero, List.set_cons_succ]
  refine wpAnyH_take (i := 2) (v := ?_) (by simp only [List.getElem?_toArray, List.getElem?_cons_succ, List.getElem?_cons_zero]; rfl) (by kernel_rfl) (by kernel_rfl) (by kernel_rfl) (by exact fun _ _ _ h => h) (Or.inl ⟨by kernel_rfl, ?_⟩) (by assumption) ?_
  rotate_left
  · intro w hSw; (try dsimp only at hSw); go_simp <;> (try with_reducible rfl)
  try simp only [Act.put, List.setIfInBounds_toArray, List.set_cons_zero, List.set_cons_succ]
  refine wpAnyH_take (i := 3) (v := ?_) (by simp only [List.getElem?_toArray, List.getElem?_cons_succ, List.getElem?_cons_zero]; rfl) (by kernel_rfl) (by kernel_rfl) (by kernel_rfl) (by exact fun _ _ _ h => h) (Or.inl ⟨by kernel_rfl, ?_⟩) (by assumption) ?_
  rotate_left
  · intro w hSw; (try dsimp only at hSw); go_simp <;> (try with_reducible rfl)
  try simp only [Act.put, List.setIfInBounds_toArray, List.set_cons_zero, List.set_cons_succ]
  refine wpAnyH_take (i := 4) (v := undef) (by simp only [List.getElem?_toArray, List.getElem?_cons_succ, List.getElem?_cons_zero]; rfl) (by kernel_rfl) (by kernel_rfl) (by kernel_rfl) (by exact fun _ _ _ h => h) (Or.inr ⟨by kernel_rfl, rfl⟩) (by assumption) ?_
  try simp only [Act.put, List.setIfInBounds_toArray, List.set_cons_zero, List.set_cons_succ]
  refine wpAnyH_take (i := 5) (v := undef) (by simp only [List.getElem?_toArray, List.getElem?_cons_succ, List.getElem?_cons_zero]; rfl) (by kernel_rfl) (by kernel_rfl) (by kernel_rfl) (by exact fun _ _ _ h => h) (Or.inr ⟨by kernel_rfl, rfl⟩) (by assumption) ?_
  try simp only [Act.put, List.setIfInBounds_toArray, List.set_cons_zero, List.set_cons_succ]
  refine wpAnyH_take (i := 6) (v := undef) (by simp only [List.getElem?_toArray, List.getElem?_cons_succ, List.getElem?_cons_zero]; rfl) (by kernel_rfl) (by kernel_rfl) (by kernel_rfl) (by exact fun _ _ _ h => h) (Or.inr ⟨by kernel_rfl, rfl⟩) (by assumption) ?_
  try simp only [Act.put, List.setIfInBounds_toArray, List.set_cons_zero, List.set_cons_succ]
  refine wpAnyH_take (i := 7) (v := undef) (by simp only [List.getElem?_toArray, List.getElem?_cons_succ, List.getElem?_cons_zero]; rfl) (by kernel_rfl) (by kernel_rfl) (by kernel_rfl) (by exact fun _ _ _ h => h) (Or.inr ⟨by kernel_rfl, rfl⟩) (by assumption) ?_
  try simp only [Act.put, List.setIfInBounds_toArray, List.set_cons_zero, List.set_cons_succ]
  refine wpAnyH_take (i := 8) (v := ?_) (by simp only [List.getElem?_toArray, List.getElem?_cons_succ, List.getElem?_cons_zero]; rfl) (by kernel_rfl) (by kernel_rfl) (by kernel_rfl) (by exact fun _ _ _ h => h) (Or.inl ⟨by kernel_rfl, ?_⟩) (by assumption) ?_
  rotate_left
  · intro w hSw; (try dsimp only at hSw); go_simp <;> (try with_reducible rfl)
  try simp only [Act.put, List.setIfInBounds_toArray, List.set_cons_zero, List.set_cons_succ]
  refine wpAnyH_done (by kernel_rfl) ?_ _
  go_wp2
  go_ret2
  exact ⟨by first | rfl | simp, HX.below⟩
set_option maxHeartbeats 2000000 in
set_option maxRecDepth 100000 in
theorem wquant_high {s : Bool} {A' B' : Option Addr} {n' c' m' d' k : Nat} {q : Rat} (A : Option Addr) (c : Nat) (l : List Int) (w : World) (H : IEs w A l) (HL : l.length ≤ 9223372036854775807) (P : Fr w s A' n' c' B' m' d' q k) (hkk : k ≤ 1000) (hE : Hid (someE l = 0)) (hq : 0 < q) (hq1 : ¬ q ≤ quo 1 1) :
    Calls Tryz.prog 42 #[.slice A l.length c, .agg #[.bool s, .slice A' n' c', .slice B' m' d']] w (Ret2 w 0 2) := by
  have hx : Hid (sgn q = 1) := Lib.hid (by rcases sgn_cases q with ⟨e1, e⟩ | ⟨e1, e⟩ | ⟨e1, e⟩ <;> grind)
  have hy : Hid (cmpQ q (quo 1 1) = 1) := Lib.hid (cmpQ_gt (Rat.not_le.1 hq1))
  have h11 : Hid (quo 1 1 = quo 1 1) := Lib.hid rfl
  obtain ⟨o1, ho1⟩ : ∃ o1, quo 1 1 = o1 := ⟨_, rfl⟩
  have HO : Hid (quo 1 1 = o1) := Lib.hid ho1
  rw [ho1] at hy
  clear hq hq1 h11 ho1
  go_enter Tryz.func42, Tryz.ntmps42
  go_wp2_with fail
  have HX := BL.one w #[.bool s, .slice A' n' c', .slice B' m' d'] 37
  replace H := H.ext HX.below
  replace P := P.ext HX.below
  refine (wsome_any A c l _ H HL hE).mono ?_
  rintro e u2 ⟨rfl, hb⟩
  replace HX := HX.ext hb
  replace H := H.ext hb
  replace P := P.ext hb
  clear hb
  go_upto_region 4 with fail
  have held : ∀ {W' : World}, BL w W' [(w.heap.size, #[.bool s, .slice A' n' c', .slice B' m' d'], 37)] → W'.cell? ⟨w.heap.size, 0, none⟩ = some (.bool s) ∧ W'.cell? ⟨w.heap.size, 1, none⟩ = some (.slice A' n' c') ∧ W'.cell? ⟨w.heap.size, 2, none⟩ = some (.slice B' m' d') := fun h => ⟨h.cell 0 0 rfl rfl, h.cell 0 1 rfl rfl, h.cell 0 2 rfl rfl⟩
  replace HX := HX.ext (drew_ext _)
  replace H := H.ext (drew_ext _)
  replace P := P.ext (drew_ext _)
  go_region_held3 (fun W' => W'.cell? ⟨w.heap.size, 0, none⟩ = some (.bool s) ∧ W'.cell? ⟨w.heap.size, 1, none⟩ = some (.slice A' n' c') ∧ W'.cell? ⟨w.heap.size, 2, none⟩ = some (.slice B' m' d'))
    (exact held HX)
    (first
      | (go_at_call 19; refine (fsign_h hx P (by omega)).mono ?_; rintro e w6 ⟨rfl, hb⟩; (try replace F7 := F7.ext hb); replace HX := HX.ext hb; replace H := H.ext hb; replace P := P.ext hb; clear hb)
      | (go_at_call 24; refine (fof_q (x := 1) (y := 1) (by decide) HO (by decide) (by decide) (by decide) rfl).mono ?_; rintro e w7 ⟨A7, c7, B7, d7, rfl, F7, hb⟩; replace HX := HX.ext hb; replace H := H.ext hb; replace P := P.ext hb; clear hb)
      | (go_at_call 22; refine (fcmp_h hy P F7.fr (by omega) (by omega)).mono ?_; rintro e w8 ⟨rfl, hb⟩; (try replace F7 := F7.ext hb); replace HX := HX.ext hb; replace H := H.ext hb; replace P := P.ext hb; clear hb))
  all_goals (
    go_wp2
    go_ret2
    exact ⟨by first | rfl | simp, HX.below⟩)
set_option maxHeartbeats 4000000 in
set_option maxRecDepth 100000 in
theorem wquant_go {i0 : Nat} {s : Bool} {A' B' : Option Addr} {n' c' m' d' k : Nat} {q : Rat} (A : Option Addr) (c : Nat) (l : List Int) (w : World) (H : IEs w A l) (HL : l.length ≤ 9223372036854775807) (P : Fr w s A' n' c' B' m' d' q k) (hkk : k ≤ 1000) (hE : Hid (someE l = 0)) (hq : 0 < q) (hq1 : q ≤ quo 1 1) (hi : Hid (QAt q l.length i0)) :
    Calls Tryz.prog 42 #[.slice A l.length c, .agg #[.bool s, .slice A' n' c', .slice B' m' d']] w (Ret2 w (at0 (srt l) i0) 0) := by
  have hV := Lib.hid (someE_zero.1 hE.out)
  have HL2 : l.length ≤ 1000000 := by have := hV.out; omega
  have h64 : l.length ≤ 64 := hV.out.1
  have hpos : 0 < l.length := hV.out.2.2
  have hsl := Lib.hid (srt_len l)
  have hx : Hid (sgn q = 1) := Lib.hid (by rcases sgn_cases q with ⟨e1, e⟩ | ⟨e1, e⟩ | ⟨e1, e⟩ <;> grind)
  obtain ⟨y, hy⟩ : ∃ y, Hid (cmpQ q (quo 1 1) = y) := ⟨_, Lib.hid rfl⟩
  have hy0 : y ≤ 0 := by rw [← hy.out]; exact cmpQ_le.2 hq1
  have hd : decide (0 < y) = false := decide_eq_false (by omega)
  obtain ⟨o1, ho1⟩ : ∃ o1, quo 1 1 = o1 := ⟨_, rfl⟩
  have HO : Hid (quo 1 1 = o1) := Lib.hid ho1
  rw [ho1] at hy
  have hql := Lib.hid hq1
  clear hq hq1 ho1
  go_enter Tryz.func42, Tryz.ntmps42
  go_wp2_with fail
  have HX := BL.one w #[.bool s, .slice A' n' c', .slice B' m' d'] 37
  replace H := H.ext HX.below
  replace P := P.ext HX.below
  refine (wsome_any A c l _ H HL hE).mono ?_
  rintro e u2 ⟨rfl, hb⟩
  replace HX := HX.ext hb
  replace H := H.ext hb
  replace P := P.ext hb
  clear hb
  have Hu := H
  have Pu := P
  go_upto_region 4 with fail
  have held : ∀ {W' : World}, BL w W' [(w.heap.size, #[.bool s, .slice A' n' c', .slice B' m' d'], 37)] → W'.cell? ⟨w.heap.size, 0, none⟩ = some (.bool s) ∧ W'.cell? ⟨w.heap.size, 1, none⟩ = some (.slice A' n' c') ∧ W'.cell? ⟨w.heap.size, 2, none⟩ = some (.slice B' m' d') := fun h => ⟨h.cell 0 0 rfl rfl, h.cell 0 1 rfl rfl, h.cell 0 2 rfl rfl⟩
  replace HX := HX.ext (drew_ext _)
  replace H := H.ext (drew_ext _)
  replace P := P.ext (drew_ext _)
  go_cut [24] (fun x wx => x = .bool false ∧ BL w wx [(w.heap.size, #[.bool s, .slice A' n' c', .slice B' m' d'], 37)] ∧ Below u2.heap.size u2 wx)
  case first =>
    have hbx : Below u2.heap.size u2 u2.drew := drew_below (Below.refl _ _) 1
    go_region_held3 (fun W' => W'.cell? ⟨w.heap.size, 0, none⟩ = some (.bool s) ∧ W'.cell? ⟨w.heap.size, 1, none⟩ = some (.slice A' n' c') ∧ W'.cell? ⟨w.heap.size, 2, none⟩ = some (.slice B' m' d'))
      (exact held HX)
      (first
        | (go_at_call 19; refine (fsign_h hx P (by omega)).mono ?_; rintro e w6 ⟨rfl, hb⟩; (try replace F7 := F7.ext hb); replace hbx := bel_trans hbx hb; replace HX := HX.ext hb; replace H := H.ext hb; replace P := P.ext hb; clear hb)
        | (go_at_call 24; refine (fof_q (x := 1) (y := 1) (by decide) HO (by decide) (by decide) (by decide) rfl).mono ?_; rintro e w7 ⟨A7, c7, B7, d7, rfl, F7, hb⟩; replace hbx := bel_trans hbx hb; replace HX := HX.ext hb; replace H := H.ext hb; replace P := P.ext hb; clear hb)
        | (go_at_call 22; refine (fcmp_h hy P F7.fr (by omega) (by omega)).mono ?_; rintro e w8 ⟨rfl, hb⟩; (try replace F7 := F7.ext hb); replace hbx := bel_trans hbx hb; replace HX := HX.ext hb; replace H := H.ext hb; replace P := P.ext hb; clear hb))
    all_goals (
      go_wp2_with fail
      go_meet
      case rel => exact ⟨by first | rfl | simp, HX, hbx⟩)
  case rest =>
    obtain ⟨rfl, h1, hb⟩ := hcut
    clear HX
    have HX := h1
    clear h1
    replace H := Hu.ext hb
    replace P := Pu.ext hb
    clear hb Hu Pu hy hx hd HO
    go_wp2_with fail
    refine (values_h A l.length c _).mono ?_
    rintro e u3 ⟨rfl, rfl⟩
    have hb3 := below_alloc wc (.cells #[.slice A l.length c] 46)
    replace HX := HX.ext hb3
    replace H := H.ext hb3
    replace P := P.ext hb3
    clear hb3
    go_wp2_with fail
    refine (sorted_h _ (al_new rfl _ _) H HL2).mono ?_
    rintro e u4 ⟨A4, c4, rfl, HS, hcap, hb⟩
    clear H held
    replace HX := HX.ext hb
    replace P := P.ext hb
    clear hb
    rw [hsl.out]
    have hlt0 := HX.lt 0 rfl
    simp only [] at hlt0
    obtain ⟨N, hN⟩ : ∃ N, q * quo (l.length : Int) 1 = N := ⟨_, rfl⟩
    have HN := Lib.hid hN
    obtain ⟨o2, ho2⟩ : ∃ o2, quo (l.length : Int) 1 = o2 := ⟨_, rfl⟩
    have HO2 := Lib.hid ho2
    have hN2 : Hid (q * o2 = N) := Lib.hid (by rw [← ho2]; exact hN)
    have zN : Sz N (k + 1 + 1) := by
      rw [← hN2.out, ← HO2.out]
      exact P.sz.mul (quo_sz1 (x := (l.length : Int)) (d := 1) (by omega) (by omega) (by decide) (by decide)) (by omega)
    clear hN ho2
    go_upto_region 7 with fail
    refine wp_region_x (al := [5]) (late := []) (dst := fun i => 8) (zt := fun _ => (#[.bool false, .slice none 0 0, .slice none 0 0], 37)) (B := u4.heap.size) (n := 5) (r := 1) (by kernel_rfl) (by kernel_rfl) (by decide) ?_ (by kernel_rfl) (by kernel_rfl) (by intro _ _ _ d _ h; cases d <;> exact h) (sz := 7) (by rfl) (by rfl) (Nat.le_refl _) ?_
    · intro i hi
      simp only [List.mem_cons, List.not_mem_nil, or_false] at hi
      subst hi
      exact ⟨_, rfl, rfl, rfl, rfl, fun _ _ => by kernel_rfl⟩
    have hE : Ext u4 u4.drew := drew_ext u4
    replace HX := HX.ext hE
    replace HS := HS.ext hE
    replace P := P.ext hE
    clear hE
    refine wpX_take (i := 0) (v := .agg #[.bool s, .slice A' n' c', .slice B' m' d']) rfl (by kernel_rfl) (by kernel_rfl) (by kernel_rfl) (fun _ _ _ h => h) (Or.inl ⟨by rfl, fun W hW => ?_⟩) ?_
    · have h0 := (HX.ext hW).cell 0 0 rfl rfl
      have h1 := (HX.ext hW).cell 0 1 rfl rfl
      have h2 := (HX.ext hW).cell 0 2 rfl rfl
      simp only [] at h0 h1 h2
      go_simp
      try rfl
    try simp only [Act.put, List.setIfInBounds_toArray]
    refine wpX_take (i := 1) (v := .slice A l.length c) rfl (by kernel_rfl) (by kernel_rfl) (by kernel_rfl) (fun _ _ _ h => h) (Or.inl ⟨by rfl, fun W hW => ?_⟩) ?_
    · go_simp
      try rfl
    try simp only [Act.put]
    refine wpX_take (i := 2) (v := .int .i64 (l.length : Int)) rfl (by kernel_rfl) (by kernel_rfl) (by kernel_rfl) (fun _ _ _ h => h) (Or.inl ⟨by rfl, fun W hW => ?_⟩) ?_
    · go_simp
      try rfl
    try simp only [Act.put]
    refine wpX_step (i := 3) (by kernel_rfl) rfl (fun W1 K hE hK => ?_)
    replace HX := HX.ext hE
    replace HS := HS.ext hE
    replace P := P.ext hE
    clear hE
    go_simp
    refine (fof_q (y := 1) (by decide) HO2 (by omega) (by omega) (by decide) rfl).mono ?_
    rintro e W2 ⟨A6, c6, B6, d6, rfl, F6, hb⟩
    go_wp2_with fail
    refine hK.out _ _ hb ?_
    clear hK K
    replace HX := HX.ext hb
    replace HS := HS.ext hb
    replace P := P.ext hb
    clear hb
    try simp only [Act.put, List.setIfInBounds_toArray, List.set_cons_zero, List.set_cons_succ]
    skip
    refine wpX_step (i := 4) (by kernel_rfl) rfl (fun W1 K hE hK => ?_)
    replace HX := HX.ext hE
    replace HS := HS.ext hE
    replace P := P.ext hE
    replace F6 := F6.ext hE
    clear hE
    go_simp
    refine (fmul_h hN2 zN P F6.fr (by omega) (by omega)).mono ?_
    rintro e W2 ⟨A7, c7, B7, d7, rfl, FN, hb⟩
    go_wp2_with fail
    refine hK.out _ _ hb ?_
    clear hK K
    replace HX := HX.ext hb
    replace HS := HS.ext hb
    replace P := P.ext hb
    replace F6 := F6.ext hb
    clear hb
    try simp only [Act.put, List.setIfInBounds_toArray, List.set_cons_zero, List.set_cons_succ]
    skip
    refine wpX_end (by kernel_rfl) (fun W7 ga m hE hg hm => ?_)
    replace HX := HX.ext hE
    replace HS := HS.ext hE
    replace P := P.ext hE
    replace F6 := F6.ext hE
    replace FN := FN.ext hE
    clear hE
    obtain ⟨hlg8, hkg8⟩ := hg.1 5 (by simp)
    clear hg
    simp only [putAll]
    try simp only [Act.put, List.setIfInBounds_toArray, List.set_cons_zero, List.set_cons_succ]
    generalize ga 5 = g8 at *
    clear ga
    replace HX := HX.add hkg8
    clear hkg8
    simp only [List.cons_append, List.nil_append] at HX
    have hc10 := HX.cell 1 0 rfl rfl
    have hf10 := HX.free 1 0 rfl
    have hc11 := HX.cell 1 1 rfl rfl
    have hf11 := HX.free 1 1 rfl
    have hc12 := HX.cell 1 2 rfl rfl
    have hf12 := HX.free 1 2 rfl
    try simp only [List.getElem_toArray, List.getElem_cons_zero, List.getElem_cons_succ] at hc10 hf10 hc11 hf11 hc12 hf12
    refine wpAny_step (i := 6) (by kernel_rfl) rfl (by omega) (fun K hK => ?_)
    go_simp
    refine hK.out _ _ ?_
    clear hK K
    clear hc10 hf10 hc11 hf11 hc12 hf12
    have hk := HX.keep3 1 rfl rfl rfl rfl (by omega) (.bool (sg N)) (.slice A7 (dig (nu N)).length c7) (.slice B7 (dig N.den).length d7)
    replace HX := HX.put3 1 rfl (by omega) (by intro k q hk hne; match k, hk with | 0, hk => (simp at hk; subst hk; simp at hne ⊢; try omega) | 1, hk => (simp at hk; subst hk; simp at hne ⊢; try omega) | k + 2, hk => simp at hk) (.bool (sg N)) (.slice A7 (dig (nu N)).length c7) (.slice B7 (dig N.den).length d7)
    replace HS := HS.stay hk
    replace P := P.stay hk
    replace F6 := F6.stay hk
    replace FN := FN.stay hk
    clear hk
    simp only [List.set_cons_zero, List.set_cons_succ] at HX
    refine wpAny_done (by kernel_rfl) ?_ _
    clear P F6 HO2 hN2
    generalize ((W7.setCell ⟨g8, 0, none⟩ (.bool (sg N))).setCell ⟨g8, 1, none⟩ (.slice A7 (dig (nu N)).length c7)).setCell ⟨g8, 2, none⟩ (.slice B7 (dig N.den).length d7) = W8 at *
    have hlow : Hid (∀ i, i < 0 → lowQ q l.length i = true) := Lib.hid (fun i h => by omega)
    go_wp2
    go_loopg [35] l.length (fun g i wr => ∃ j : Nat, j + g = l.length ∧ i = .int .i64 (j : Int) ∧ Hid (∀ i, i < j → lowQ q l.length i = true) ∧ Below W8.heap.size W8 wr)
    case atStart => exact ⟨0, by omega, rfl, hlow, Below.refl _ _⟩
    case round =>
      clear hlow
      obtain ⟨j, hj, rfl, hlow, hbw⟩ := hrel
      replace HX := HX.ext hbw
      replace FN := FN.ext hbw
      by_cases hj0 : j < l.length
      · have hjs : j < (srt l).length := by rw [hsl.out]; exact hj0
        obtain ⟨ad, rfl, hbk, c0⟩ := (HS.ext hbw).at_ (at0_get hjs)
        have heq := Lib.hid (fun (h : lowQ q l.length j = false) => (QAt.unique hi.out (show QAt q l.length j from ⟨hj0, h, hlow.out⟩)))
        have hli := Lib.hid (low_iff q l.length j)
        obtain ⟨oj, hoj⟩ : ∃ o, Hid (quo ((j : Int) + 1) 1 = o) := ⟨_, Lib.hid rfl⟩
        obtain ⟨x, hxc⟩ : ∃ x, Hid (cmpQ oj N = x) := ⟨_, Lib.hid rfl⟩
        have hwj : IntKind.i64.wrap ((j : Int) + 1) = (j : Int) + 1 := Go.IntWalk.i64_in _ (by omega)
        have hxl : lowQ q l.length j = true ↔ x < 0 := by rw [hli.out, hoj.out, HN.out, hxc.out]
        have hA : IEs wr (some ad) (srt l) := HS.ext hbw
        obtain ⟨z, hz⟩ : ∃ z, Hid (at0 (srt l) j = z) := ⟨_, Lib.hid rfl⟩
        rw [hz.out] at c0
        clear hli hbk
        go_upto_region 11 with fail
        have held : ∀ {W' : World}, BL w W' [(w.heap.size, #[.bool s, .slice A' n' c', .slice B' m' d'], 37), (g8, #[.bool (sg N), .slice A7 (dig (nu N)).length c7, .slice B7 (dig N.den).length d7], 37)] → W'.cell? ⟨g8, 0, none⟩ = some (.bool (sg N)) ∧ W'.cell? ⟨g8, 1, none⟩ = some (.slice A7 (dig (nu N)).length c7) ∧ W'.cell? ⟨g8, 2, none⟩ = some (.slice B7 (dig N.den).length d7) := fun h => ⟨h.cell 1 0 rfl rfl, h.cell 1 1 rfl rfl, h.cell 1 2 rfl rfl⟩
        replace HX := HX.ext (drew_ext _)
        replace FN := FN.ext (drew_ext _)
        replace hbw : Below W8.heap.size W8 wr.drew := drew_below hbw 1
        by_cases hx0 : x < 0
        · have hdx : decide (0 ≤ x) = false := decide_eq_false (by omega)
          have hnx : Hid (∀ i, i < j + 1 → lowQ q l.length i = true) := Lib.hid (fun i h => by
            by_cases e : i < j
            · exact hlow.out i e
            · obtain rfl : i = j := by omega
              exact hxl.2 hx0)
          clear hxl heq hlow
          go_region_held3 (fun W' => W'.cell? ⟨g8, 0, none⟩ = some (.bool (sg N)) ∧ W'.cell? ⟨g8, 1, none⟩ = some (.slice A7 (dig (nu N)).length c7) ∧ W'.cell? ⟨g8, 2, none⟩ = some (.slice B7 (dig N.den).length d7))
            (exact held HX)
            (first
              | (go_at_call 24; refine (fof_q (y := 1) (by decide) hoj (by omega) (by omega) (by decide) (by with_reducible rfl)).mono ?_; rintro e w7 ⟨A9, c9, B9, d9, rfl, F9, hb⟩; replace HX := HX.ext hb; replace FN := FN.ext hb; replace hbw := bel_trans hbw hb; clear hb)
              | (go_at_call 22; refine (fcmp_h hxc F9.fr FN.fr (by omega) (by omega)).mono ?_; rintro e w8 ⟨rfl, hb⟩; replace HX := HX.ext hb; replace FN := FN.ext hb; replace hbw := bel_trans hbw hb; clear hb))
          all_goals (
            go_wp2
            go_roundg (l.length - (j + 1))
            case measure => omega
            case rel => exact ⟨j + 1, by omega, by go_num, hnx, hbw⟩)
        · have hdx : decide (0 ≤ x) = true := decide_eq_true (by omega)
          have hx0' : 0 ≤ x := by omega
          have hzz : i0 = j := heq.out (by
            cases e : lowQ q l.length j with
            | false => rfl
            | true => exact absurd (hxl.1 e) hx0)
          clear hxl heq hlow
          go_region_held3 (fun W' => W'.cell? ⟨g8, 0, none⟩ = some (.bool (sg N)) ∧ W'.cell? ⟨g8, 1, none⟩ = some (.slice A7 (dig (nu N)).length c7) ∧ W'.cell? ⟨g8, 2, none⟩ = some (.slice B7 (dig N.den).length d7))
            (exact held HX)
            (first
              | (go_at_call 24; refine (fof_q (y := 1) (by decide) hoj (by omega) (by omega) (by decide) (by with_reducible rfl)).mono ?_; rintro e w7 ⟨A9, c9, B9, d9, rfl, F9, hb⟩; replace HX := HX.ext hb; replace FN := FN.ext hb; replace hbw := bel_trans hbw hb; clear hb)
              | (go_at_call 22; refine (fcmp_h hxc F9.fr FN.fr (by omega) (by omega)).mono ?_; rintro e w8 ⟨rfl, hb⟩; replace HX := HX.ext hb; replace FN := FN.ext hb; replace hbw := bel_trans hbw hb; clear hb))
          all_goals (
            go_wp2
            go_ret2
            exact ⟨by rw [hzz, hz.out]; rfl, HX.below⟩)
      · exfalso
        have h1 := hi.out.1
        have h2 := hlow.out i0 (by omega)
        rw [hi.out.2.1] at h2
        cases h2
set_option maxHeartbeats 1000000 in
set_option maxRecDepth 100000 in
theorem rquant_err {E : Int} {s : Bool} {A' B' : Option Addr} {n' c' m' d' k : Nat} {q : Rat} (A : Option Addr) (c : Nat) (l : List Int) (w : World) (H : IEs w A l) (HL : l.length ≤ 9223372036854775807) (P : Fr w s A' n' c' B' m' d' q k) (_ : k ≤ 1000) (hE : Hid (someE l = E)) (hn : (E != 0) = true) :
    Calls Tryz.prog 43 #[.slice A l.length c, .agg #[.bool s, .slice A' n' c', .slice B' m' d']] w (Ret2 w 0 E) := by
  go_enter Tryz.func43, Tryz.ntmps43
  go_wp2_with fail
  have HX := BL.one w #[.bool s, .slice A' n' c', .slice B' m' d'] 37
  replace H := H.ext HX.below
  replace P := P.ext HX.below
  refine (rsome_any A c l _ H HL hE).mono ?_
  rintro e u2 ⟨rfl, hb⟩
  replace HX := HX.ext hb
  replace H := H.ext hb
  replace P := P.ext hb
  clear hb
  go_wp2
  go_ret2
  exact ⟨by first | rfl | simp, HX.below⟩
set_option maxHeartbeats 2000000 in
set_option maxRecDepth 100000 in
theorem rquant_low {s : Bool} {A' B' : Option Addr} {n' c' m' d' k : Nat} {q : Rat} (A : Option Addr) (c : Nat) (l : List Int) (w : World) (H : IEs w A l) (HL : l.length ≤ 9223372036854775807) (P : Fr w s A' n' c' B' m' d' q k) (hkk : k ≤ 1000) (hE : Hid (someE l = 0)) (hq : ¬ 0 < q) :
    Calls Tryz.prog 43 #[.slice A l.length c, .agg #[.bool s, .slice A' n' c', .slice B' m' d']] w (Ret2 w 0 2) := by
  obtain ⟨x, hx⟩ : ∃ x, Hid (sgn q = x) := ⟨_, Lib.hid rfl⟩
  have hx0 : x ≤ 0 := by rw [← hx.out]; rcases sgn_cases q with ⟨_, e⟩ | ⟨_, e⟩ | ⟨e1, e⟩ <;> first | omega | exact absurd e1 hq
  have hd : decide (x ≤ 0) = true := decide_eq_true hx0
  clear hq
  go_enter Tryz.func43, Tryz.ntmps43
  go_wp2_with fail
  have HX := BL.one w #[.bool s, .slice A' n' c', .slice B' m' d'] 37
  replace H := H.ext HX.below
  replace P := P.ext HX.below
  refine (rsome_any A c l _ H HL hE).mono ?_
  rintro e u2 ⟨rfl, hb⟩
  replace HX := HX.ext hb
  replace H := H.ext hb
  replace P := P.ext hb
  clear hb
  go_upto_region 4 with fail
  have held : ∀ {W' : World}, BL w W' [(w.heap.size, #[.bool s, .slice A' n' c', .slice B' m' d'], 37)] → W'.cell? ⟨w.heap.size, 0, none⟩ = some (.bool s) ∧ W'.cell? ⟨w.heap.size, 1, none⟩ = some (.slice A' n' c') ∧ W'.cell? ⟨w.heap.size, 2, none⟩ = some (.slice B' m' d') := fun h => ⟨h.cell 0 0 rfl rfl, h.cell 0 1 rfl rfl, h.cell 0 2 rfl rfl⟩
  replace HX := HX.ext (drew_ext _)
  replace H := H.ext (drew_ext _)
  replace P := P.ext (drew_ext _)
  refine wp_region_held_drew (S := fun W' => W'.cell? ⟨w.heap.size, 0, none⟩ = some (.bool s) ∧ W'.cell? ⟨w.heap.size, 1, none⟩ = some (.slice A' n' c') ∧ W'.cell? ⟨w.heap.size, 2, none⟩ = some (.slice B' m' d')) (by kernel_rfl) (held HX) (fun hHeld => ?_)
  refine wpAnyH_take (i := 0) (v := ?_) (by simp only [List.getElem?_toArray, List.getElem?_cons_zero]; rfl) (by kernel_rfl) (by kernel_rfl) (by kernel_rfl) (by exact fun _ _ _ h => h) (Or.inl ⟨by kernel_rfl, ?_⟩) (by assumption) ?_
  rotate_left
  · intro w hSw; (try dsimp only at hSw); go_simp <;> (try with_reducible rfl)
  try simp only [Act.put, List.setIfInBounds_toArray, List.set_cons_zero, List.set_cons_succ]
  refine wpAnyH_ready (rs := [1]) (by kernel_rfl) (by simp) ?_
  refine AllReadyH.cons (by simp only [List.getElem?_toArray, List.getElem?_cons_succ, List.getElem?_cons_zero]; rfl) (fun K hK => ?_) AllReadyH.nil
  go_simp
  go_at_call 102
  refine (qsign_h hx P (by omega)).mono ?_
  rintro e wz ⟨rfl, hb⟩
  replace HX := HX.ext hb
  replace H := H.ext hb
  replace P := P.ext hb
  clear hb
  clear hHeld
  refine hK.out _ _ (held HX) (fun hHeld => ?_)
  clear hK K
  try simp only [Act.put, List.setIfInBounds_toArray, List.set_cons_zero, List.set_cons_succ]
  refine wpAnyH_take (i := 2) (v := ?_) (by simp only [List.getElem?_toArray, List.getElem?_cons_succ, List.getElem?_cons_zero]; rfl) (by kernel_rfl) (by kernel_rfl) (by kernel_rfl) (by exact fun _ _ _ h => h) (Or.inl ⟨by kernel_rfl, ?_⟩) (by assumption) ?_
  rotate_left
  · intro w hSw; (try dsimp only at hSw); go_simp <;> (try with_reducible rfl)
  try simp only [Act.put, List.setIfInBounds_toArray, List.set_cons_zero, List.set_cons_succ]
  refine wpAnyH_take (i := 3) (v := ?_) (by simp only [List.getElem?_toArray, List.getElem?_cons_succ, List.getElem?_cons_zero]; rfl) (by kernel_rfl) (by kernel_rfl) (by kernel_rfl) (by exact fun _ _ _ h => h) (Or.inl ⟨by kernel_rfl, ?_⟩) (by assumption) ?_
  rotate_left
  · intro w hSw; (try dsimp only at hSw); go_simp <;> (try with_reducible rfl)
  try simp only [Act.put, List.setIfInBounds_toArray, List.set_cons_zero, List.set_cons_succ]
  refine wpAnyH_take (i := 4) (v := undef) (by simp only [List.getElem?_toArray, List.getElem?_cons_succ, List.getElem?_cons_zero]; rfl) (by kernel_rfl) (by kernel_rfl) (by kernel_rfl) (by exact fun _ _ _ h => h) (Or.inr ⟨by kernel_rfl, rfl⟩) (by assumption) ?_
  try simp only [Act.put, List.setIfInBounds_toArray, List.set_cons_zero, List.set_cons_succ]
  refine wpAnyH_take (i := 5) (v := undef) (by simp only [List.getElem?_toArray, List.getElem?_cons_succ, List.getElem?_cons_zero]; rfl) (by kernel_rfl) (by kernel_rfl) (by kernel_rfl) (by exact fun _ _ _ h => h) (Or.inr ⟨by kernel_rfl, rfl⟩) (by assumption) ?_
  try simp only [Act.put, List.setIfInBounds_toArray, List.set_cons_zero, List.set_cons_succ]
  refine wpAnyH_take (i := 6) (v := undef) (by simp only [List.getElem?_toArray, List.getElem?_cons_succ, List.getElem?_cons_zero]; rfl) (by kernel_rfl) (by kernel_rfl) (by kernel_rfl) (by exact fun _ _ _ h => h) (Or.inr ⟨by kernel_rfl, rfl⟩) (by assumption) ?_
  try simp only [Act.put, List.setIfInBounds_toArray, List.set_cons_zero, List.set_cons_succ]
  refine wpAnyH_take (i := 7) (v := undef) (by simp only [List.getElem?_toArray, List.getElem?_cons_succ, List.getElem?_cons_zero]; rfl) (by kernel_rfl) (by kernel_rfl) (by kernel_rfl) (by exact fun _ _ _ h => h) (Or.inr ⟨by kernel_rfl, rfl⟩) (by assumption) ?_
  try simp only [Act.put, List.setIfInBounds_toArray, List.set_cons_zero, List.set_cons_succ]
  refine wpAnyH_take (i := 8) (v := ?_) (by simp only [List.getElem?_toArray, List.getElem?_cons_succ, List.getElem?_cons_zero]; rfl) (by kernel_rfl) (by kernel_rfl) (by kernel_rfl) (by exact fun _ _ _ h => h) (Or.inl ⟨by kernel_rfl, ?_⟩) (by assumption) ?_
  rotate_left
  · intro w hSw; (try dsimp only at hSw); go_simp <;> (try with_reducible rfl)
  try simp only [Act.put, List.setIfInBounds_toArray, List.set_cons_zero, List.set_cons_succ]
  refine wpAnyH_done (by kernel_rfl) ?_ _
  go_wp2
  go_ret2
  exact ⟨by first | rfl | simp, HX.below⟩
set_option maxHeartbeats 2000000 in
set_option maxRecDepth 100000 in
theorem rquant_high {s : Bool} {A' B' : Option Addr} {n' c' m' d' k : Nat} {q : Rat} (A : Option Addr) (c : Nat) (l : List Int) (w : World) (H : IEs w A l) (HL : l.length ≤ 9223372036854775807) (P : Fr w s A' n' c' B' m' d' q k) (hkk : k ≤ 1000) (hE : Hid (someE l = 0)) (hq : 0 < q) (hq1 : ¬ q ≤ quo 1 1) :
    Calls Tryz.prog 43 #[.slice A l.length c, .agg #[.bool s, .slice A' n' c', .slice B' m' d']] w (Ret2 w 0 2) := by
  have hx : Hid (sgn q = 1) := Lib.hid (by rcases sgn_cases q with ⟨e1, e⟩ | ⟨e1, e⟩ | ⟨e1, e⟩ <;> grind)
  have hy : Hid (cmpQ q (quo 1 1) = 1) := Lib.hid (cmpQ_gt (Rat.not_le.1 hq1))
  have h11 : Hid (quo 1 1 = quo 1 1) := Lib.hid rfl
  obtain ⟨o1, ho1⟩ : ∃ o1, quo 1 1 = o1 := ⟨_, rfl⟩
  have HO : Hid (quo 1 1 = o1) := Lib.hid ho1
  rw [ho1] at hy
  clear hq hq1 h11 ho1
  go_enter Tryz.func43, Tryz.ntmps43
  go_wp2_with fail
  have HX := BL.one w #[.bool s, .slice A' n' c', .slice B' m' d'] 37
  replace H := H.ext HX.below
  replace P := P.ext HX.below
  refine (rsome_any A c l _ H HL hE).mono ?_
  rintro e u2 ⟨rfl, hb⟩
  replace HX := HX.ext hb
  replace H := H.ext hb
  replace P := P.ext hb
  clear hb
  go_upto_region 4 with fail
  have held : ∀ {W' : World}, BL w W' [(w.heap.size, #[.bool s, .slice A' n' c', .slice B' m' d'], 37)] → W'.cell? ⟨w.heap.size, 0, none⟩ = some (.bool s) ∧ W'.cell? ⟨w.heap.size, 1, none⟩ = some (.slice A' n' c') ∧ W'.cell? ⟨w.heap.size, 2, none⟩ = some (.slice B' m' d') := fun h => ⟨h.cell 0 0 rfl rfl, h.cell 0 1 rfl rfl, h.cell 0 2 rfl rfl⟩
  replace HX := HX.ext (drew_ext _)
  replace H := H.ext (drew_ext _)
  replace P := P.ext (drew_ext _)
  go_region_held3 (fun W' => W'.cell? ⟨w.heap.size, 0, none⟩ = some (.bool s) ∧ W'.cell? ⟨w.heap.size, 1, none⟩ = some (.slice A' n' c') ∧ W'.cell? ⟨w.heap.size, 2, none⟩ = some (.slice B' m' d'))
    (exact held HX)
    (first
      | (go_at_call 102; refine (qsign_h hx P (by omega)).mono ?_; rintro e w6 ⟨rfl, hb⟩; (try replace F7 := F7.ext hb); replace HX := HX.ext hb; replace H := H.ext hb; replace P := P.ext hb; clear hb)
      | (go_at_call 41; refine (qof_q (x := 1) (y := 1) (by decide) HO (by decide) (by decide) (by decide) rfl).mono ?_; rintro e w7 ⟨A7, c7, B7, d7, rfl, F7, hb⟩; replace HX := HX.ext hb; replace H := H.ext hb; replace P := P.ext hb; clear hb)
      | (go_at_call 40; refine (qcmp_h hy P F7.fr (by omega) (by omega)).mono ?_; rintro e w8 ⟨rfl, hb⟩; (try replace F7 := F7.ext hb); replace HX := HX.ext hb; replace H := H.ext hb; replace P := P.ext hb; clear hb))
  all_goals (
    go_wp2
    go_ret2
    exact ⟨by first | rfl | simp, HX.below⟩)
set_option maxHeartbeats 4000000 in
set_option maxRecDepth 100000 in
theorem rquant_go {i0 : Nat} {s : Bool} {A' B' : Option Addr} {n' c' m' d' k : Nat} {q : Rat} (A : Option Addr) (c : Nat) (l : List Int) (w : World) (H : IEs w A l) (HL : l.length ≤ 9223372036854775807) (P : Fr w s A' n' c' B' m' d' q k) (hkk : k ≤ 1000) (hE : Hid (someE l = 0)) (hq : 0 < q) (hq1 : q ≤ quo 1 1) (hi : Hid (QAt q l.length i0)) :
    Calls Tryz.prog 43 #[.slice A l.length c, .agg #[.bool s, .slice A' n' c', .slice B' m' d']] w (Ret2 w (at0 (srt l) i0) 0) := by
  have hV := Lib.hid (someE_zero.1 hE.out)
  have HL2 : l.length ≤ 1000000 := by have := hV.out; omega
  have h64 : l.length ≤ 64 := hV.out.1
  have hpos : 0 < l.length := hV.out.2.2
  have hsl := Lib.hid (srt_len l)
  have hx : Hid (sgn q = 1) := Lib.hid (by rcases sgn_cases q with ⟨e1, e⟩ | ⟨e1, e⟩ | ⟨e1, e⟩ <;> grind)
  obtain ⟨y, hy⟩ : ∃ y, Hid (cmpQ q (quo 1 1) = y) := ⟨_, Lib.hid rfl⟩
  have hy0 : y ≤ 0 := by rw [← hy.out]; exact cmpQ_le.2 hq1
  have hd : decide (0 < y) = false := decide_eq_false (by omega)
  obtain ⟨o1, ho1⟩ : ∃ o1, quo 1 1 = o1 := ⟨_, rfl⟩
  have HO : Hid (quo 1 1 = o1) := Lib.hid ho1
  rw [ho1] at hy
  have hql := Lib.hid hq1
  clear hq hq1 ho1
  go_enter Tryz.func43, Tryz.ntmps43
  go_wp2_with fail
  have HX := BL.one w #[.bool s, .slice A' n' c', .slice B' m' d'] 37
  replace H := H.ext HX.below
  replace P := P.ext HX.below
  refine (rsome_any A c l _ H HL hE).mono ?_
  rintro e u2 ⟨rfl, hb⟩
  replace HX := HX.ext hb
  replace H := H.ext hb
  replace P := P.ext hb
  clear hb
  have Hu := H
  have Pu := P
  go_upto_region 4 with fail
  have held : ∀ {W' : World}, BL w W' [(w.heap.size, #[.bool s, .slice A' n' c', .slice B' m' d'], 37)] → W'.cell? ⟨w.heap.size, 0, none⟩ = some (.bool s) ∧ W'.cell? ⟨w.heap.size, 1, none⟩ = some (.slice A' n' c') ∧ W'.cell? ⟨w.heap.size, 2, none⟩ = some (.slice B' m' d') := fun h => ⟨h.cell 0 0 rfl rfl, h.cell 0 1 rfl rfl, h.cell 0 2 rfl rfl⟩
  replace HX := HX.ext (drew_ext _)
  replace H := H.ext (drew_ext _)
  replace P := P.ext (drew_ext _)
  go_cut [22] (fun x wx => x = .bool false ∧ BL w wx [(w.heap.size, #[.bool s, .slice A' n' c', .slice B' m' d'], 37)] ∧ Below u2.heap.size u2 wx)
  case first =>
    have hbx : Below u2.heap.size u2 u2.drew := drew_below (Below.refl _ _) 1
    go_region_held3 (fun W' => W'.cell? ⟨w.heap.size, 0, none⟩ = some (.bool s) ∧ W'.cell? ⟨w.heap.size, 1, none⟩ = some (.slice A' n' c') ∧ W'.cell? ⟨w.heap.size, 2, none⟩ = some (.slice B' m' d'))
      (exact held HX)
      (first
        | (go_at_call 102; refine (qsign_h hx P (by omega)).mono ?_; rintro e w6 ⟨rfl, hb⟩; (try replace F7 := F7.ext hb); replace hbx := bel_trans hbx hb; replace HX := HX.ext hb; replace H := H.ext hb; replace P := P.ext hb; clear hb)
        | (go_at_call 41; refine (qof_q (x := 1) (y := 1) (by decide) HO (by decide) (by decide) (by decide) rfl).mono ?_; rintro e w7 ⟨A7, c7, B7, d7, rfl, F7, hb⟩; replace hbx := bel_trans hbx hb; replace HX := HX.ext hb; replace H := H.ext hb; replace P := P.ext hb; clear hb)
        | (go_at_call 40; refine (qcmp_h hy P F7.fr (by omega) (by omega)).mono ?_; rintro e w8 ⟨rfl, hb⟩; (try replace F7 := F7.ext hb); replace hbx := bel_trans hbx hb; replace HX := HX.ext hb; replace H := H.ext hb; replace P := P.ext hb; clear hb))
    all_goals (
      go_wp2_with fail
      go_meet
      case rel => exact ⟨by first | rfl | simp, HX, hbx⟩)
  case rest =>
    obtain ⟨rfl, h1, hb⟩ := hcut
    clear HX
    have HX := h1
    clear h1
    replace H := Hu.ext hb
    replace P := Pu.ext hb
    clear hb Hu Pu hy hx hd HO
    go_wp2_with fail
    refine (rsorted_any A c l _ H HL2).mono ?_
    rintro e u4 ⟨A4, c4, rfl, HS, hcap, hb⟩
    clear H
    replace HX := HX.ext hb
    replace P := P.ext hb
    clear hb
    rw [hsl.out]
    have hlow : Hid (∀ i, i < 0 → lowQ q l.length i = true) := Lib.hid (fun i h => by omega)
    obtain ⟨n1, hn1⟩ : ∃ n1, l.length - 1 = n1 := ⟨_, rfl⟩
    have hwl : IntKind.i64.wrap ((l.length : Int) - 1) = (n1 : Int) := by rw [show (l.length : Int) - 1 = (n1 : Int) by omega]; exact Go.IntWalk.i64_in _ (by omega)
    have hln : (l.length : Int) - 1 = (n1 : Int) := by omega
    have hwn : IntKind.i64.wrap (n1 : Int) = (n1 : Int) := Go.IntWalk.i64_in _ (by omega)
    have hll : Hid (l.length = n1 + 1) := Lib.hid (by omega)
    go_wp2
    go_loopg [8] n1 (fun g i wr => ∃ j : Nat, j + g = n1 ∧ i = .int .i64 (j : Int) ∧ Hid (∀ i, i < j → lowQ q l.length i = true) ∧ Below u4.heap.size u4 wr)
    case atStart => exact ⟨0, by omega, rfl, hlow, Below.refl _ _⟩
    case round =>
      clear hlow
      obtain ⟨j, hj, rfl, hlow, hbw⟩ := hrel
      replace HX := HX.ext hbw
      replace P := P.ext hbw
      have hjs : j < (srt l).length := by rw [hsl.out]; omega
      obtain ⟨ad, rfl, hbk, c0⟩ := (HS.ext hbw).at_ (at0_get hjs)
      have hA : IEs wr (some ad) (srt l) := HS.ext hbw
      have hbl : ad.block < u4.heap.size := by
        obtain ⟨ad2, e2, h2, _⟩ := HS (by omega)
        obtain rfl := Option.some.inj e2
        exact h2
      have hcc : ∀ W', Below u4.heap.size u4 W' → W'.cell? (ad.add j) = some (.int .i64 (at0 (srt l) j)) := fun W' h => by
        obtain ⟨ad2, e2, _, h2⟩ := (HS.ext h).at_ (at0_get hjs)
        obtain rfl := Option.some.inj e2
        exact h2
      have j1 : (0 : Int) ≤ (j : Int) := by omega
      have j2 : (j : Int) < (l.length : Int) := by omega
      have heq := Lib.hid (fun (h : lowQ q l.length j = false) => (QAt.unique hi.out (show QAt q l.length j from ⟨by omega, h, hlow.out⟩)))
      obtain ⟨z, hz⟩ : ∃ z, Hid (at0 (srt l) j = z) := ⟨_, Lib.hid rfl⟩
      rw [hz.out] at c0 hcc
      clear hbk hbl
      by_cases hj0 : j < n1
      · have hdj : decide ((j : Int) < (n1 : Int)) = true := decide_eq_true (by omega)
        obtain ⟨oj, hoj⟩ : ∃ o, Hid (quo ((j : Int) + 1) (l.length : Int) = o) := ⟨_, Lib.hid rfl⟩
        obtain ⟨x, hxc⟩ : ∃ x, Hid (cmpQ oj q = x) := ⟨_, Lib.hid rfl⟩
        have hwj : IntKind.i64.wrap ((j : Int) + 1) = (j : Int) + 1 := Go.IntWalk.i64_in _ (by omega)
        have hxl : lowQ q l.length j = true ↔ x < 0 := by rw [low_iff, ← low_ref q hpos j, hoj.out, hxc.out]
        go_upto_region 8 with fail
        have held : ∀ {W' : World}, BL w W' [(w.heap.size, #[.bool s, .slice A' n' c', .slice B' m' d'], 37)] → W'.cell? ⟨w.heap.size, 0, none⟩ = some (.bool s) ∧ W'.cell? ⟨w.heap.size, 1, none⟩ = some (.slice A' n' c') ∧ W'.cell? ⟨w.heap.size, 2, none⟩ = some (.slice B' m' d') := fun h => ⟨h.cell 0 0 rfl rfl, h.cell 0 1 rfl rfl, h.cell 0 2 rfl rfl⟩
        replace HX := HX.ext (drew_ext _)
        replace P := P.ext (drew_ext _)
        replace hbw : Below u4.heap.size u4 wr.drew := drew_below hbw 1
        by_cases hx0 : x < 0
        · have hdx : decide (x < 0) = true := decide_eq_true hx0
          have hnx : Hid (∀ i, i < j + 1 → lowQ q l.length i = true) := Lib.hid (fun i h => by
            by_cases e : i < j
            · exact hlow.out i e
            · obtain rfl : i = j := by omega
              exact hxl.2 hx0)
          clear hxl heq hlow c0
          go_region_held3 (fun W' => W'.cell? ⟨w.heap.size, 0, none⟩ = some (.bool s) ∧ W'.cell? ⟨w.heap.size, 1, none⟩ = some (.slice A' n' c') ∧ W'.cell? ⟨w.heap.size, 2, none⟩ = some (.slice B' m' d'))
            (exact held HX)
            (first
              | (go_at_call 41; refine (qof_q (y := (l.length : Int)) (by omega) hoj (by omega) (by omega) (by omega) (by with_reducible rfl)).mono ?_; rintro e w7 ⟨A9, c9, B9, d9, rfl, F9, hb⟩; replace HX := HX.ext hb; replace P := P.ext hb; replace hbw := bel_trans hbw hb; clear hb)
              | (go_at_call 40; refine (qcmp_h hxc F9.fr P (by omega) (by omega)).mono ?_; rintro e w8 ⟨rfl, hb⟩; replace HX := HX.ext hb; replace P := P.ext hb; replace hbw := bel_trans hbw hb; clear hb))
          all_goals (
            go_wp2
            go_roundg (n1 - (j + 1))
            case measure => omega
            case rel => exact ⟨j + 1, by omega, by go_num, hnx, hbw⟩)
        · have hdx : decide (x < 0) = false := decide_eq_false (by omega)
          have hzz : i0 = j := heq.out (by
            cases e : lowQ q l.length j with
            | false => rfl
            | true => exact absurd (hxl.1 e) hx0)
          clear hxl heq hlow c0
          go_region_held3 (fun W' => W'.cell? ⟨w.heap.size, 0, none⟩ = some (.bool s) ∧ W'.cell? ⟨w.heap.size, 1, none⟩ = some (.slice A' n' c') ∧ W'.cell? ⟨w.heap.size, 2, none⟩ = some (.slice B' m' d'))
            (exact held HX)
            (first
              | (go_at_call 41; refine (qof_q (y := (l.length : Int)) (by omega) hoj (by omega) (by omega) (by omega) (by with_reducible rfl)).mono ?_; rintro e w7 ⟨A9, c9, B9, d9, rfl, F9, hb⟩; replace HX := HX.ext hb; replace P := P.ext hb; replace hbw := bel_trans hbw hb; clear hb)
              | (go_at_call 40; refine (qcmp_h hxc F9.fr P (by omega) (by omega)).mono ?_; rintro e w8 ⟨rfl, hb⟩; replace HX := HX.ext hb; replace P := P.ext hb; replace hbw := bel_trans hbw hb; clear hb))
          all_goals (
            have c0 := hcc _ hbw
            go_wp2
            go_ret2
            exact ⟨by rw [hzz, hz.out]; rfl, HX.below⟩)
      · have hdj : decide ((j : Int) < (n1 : Int)) = false := decide_eq_false (by omega)
        have hdj2 : decide (j < n1) = false := decide_eq_false hj0
        have hzz : i0 = j := heq.out (by
          have h := low_last hql.out hpos
          rw [show l.length - 1 = j by omega] at h
          exact h)
        clear heq hlow
        go_upto_region 8 with fail
        go_quiet (fail)
        go_wp2
        go_ret2
        exact ⟨by rw [hzz, hz.out]; rfl, drew_below HX.below nq⟩
theorem wquant_any {s : Bool} {A' B' : Option Addr} {n' c' m' d' k : Nat} {q : Rat} {r E : Int} (A : Option Addr) (c : Nat) (l : List Int) (w : World) (H : IEs w A l) (HL : l.length ≤ 9223372036854775807) (P : Fr w s A' n' c' B' m' d' q k) (hkk : k ≤ 1000) (h : QuanR l q r E) :
    Calls Tryz.prog 42 #[.slice A l.length c, .agg #[.bool s, .slice A' n' c', .slice B' m' d']] w (Ret2 w r E) := by
  rcases h with ⟨h1, h2, rfl⟩ | ⟨h1, h2, rfl, rfl⟩ | ⟨h1, h2, ⟨i, h3, rfl⟩, rfl⟩
  · exact wquant_err A c l w H HL P hkk (Lib.hid h1) (bne_iff_ne.2 h2)
  · by_cases hp : 0 < q
    · exact wquant_high A c l w H HL P hkk (Lib.hid h1) hp (fun e => h2 ⟨hp, e⟩)
    · exact wquant_low A c l w H HL P hkk (Lib.hid h1) hp
  · exact wquant_go A c l w H HL P hkk (Lib.hid h1) h2.1 h2.2 (Lib.hid h3)
theorem rquant_any {s : Bool} {A' B' : Option Addr} {n' c' m' d' k : Nat} {q : Rat} {r E : Int} (A : Option Addr) (c : Nat) (l : List Int) (w : World) (H : IEs w A l) (HL : l.length ≤ 9223372036854775807) (P : Fr w s A' n' c' B' m' d' q k) (hkk : k ≤ 1000) (h : QuanR l q r E) :
    Calls Tryz.prog 43 #[.slice A l.length c, .agg #[.bool s, .slice A' n' c', .slice B' m' d']] w (Ret2 w r E) := by
  rcases h with ⟨h1, h2, rfl⟩ | ⟨h1, h2, rfl, rfl⟩ | ⟨h1, h2, ⟨i, h3, rfl⟩, rfl⟩
  · exact rquant_err A c l w H HL P hkk (Lib.hid h1) (bne_iff_ne.2 h2)
  · by_cases hp : 0 < q
    · exact rquant_high A c l w H HL P hkk (Lib.hid h1) hp (fun e => h2 ⟨hp, e⟩)
    · exact rquant_low A c l w H HL P hkk (Lib.hid h1) hp
  · exact rquant_go A c l w H HL P hkk (Lib.hid h1) h2.1 h2.2 (Lib.hid h3)
end Go.Proofs.YteleohgalknkiaaGreatDoor
