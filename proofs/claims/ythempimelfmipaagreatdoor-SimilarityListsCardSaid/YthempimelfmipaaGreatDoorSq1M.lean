/- The reference's coefficient and distance. -/
import Derived.Test.YthempimelfmipaaGreatDoorRef2
import Derived.Test.YthempimelfmipaaGreatDoorRfr1
import Derived.Test.YthempimelfmipaaGreatDoorFrac5
import Derived.Test.YthempimelfmipaaGreatDoorHops
import Derived.Test.YthempimelfmipaaGreatDoorSxdM
namespace Go.Proofs.YthempimelfmipaaGreatDoor
open Go.RowKit Go.Proofs

structure SumAt (l m : List Nat) (k : Nat) (o : List Nat) : Prop where
  len : o.length = k
  sm : ∀ j, at_ o j < 4294967296
  eq : val o = val (l.take k) + val (m.take k)

theorem SumAt.next {l m : List Nat} {k : Nat} {o : List Nat} {s : Nat} (h : SumAt l m k o) (hs : s = at_ l k + at_ m k) (hb : s < 4294967296) : SumAt l m (k + 1) (o ++ [s]) := by
  refine ⟨by rw [List.length_append, h.len]; rfl, small_snoc h.sm hb, ?_⟩
  rw [val_snoc, val_take_at l, val_take_at m, h.len, h.eq, hs, Nat.mul_add]
  omega


set_option maxHeartbeats 1000000 in
set_option maxRecDepth 1000000 in
theorem radd_any (A B : Option Addr) (n m c d : Nat) (l r : List Nat) (w : World) (HA : Lim w A c l) (HB : Lim w B d r) (hn : n = l.length) (hm : m = r.length) (hl : n ≤ 1073741824) (hl2 : m ≤ 1073741824) :
    Calls Tryz.prog 120 #[.agg #[.slice A n c], .agg #[.slice B m d]] w (RetN w (val l + val r)) := by
  have hdl := dig_len_of HA.small hn
  have hdr := dig_len_of HB.small hm
  have HN := Lib.hid hn
  have HM := Lib.hid hm
  clear hn hm
  go_enter Tryz.func120, Tryz.ntmps120
  go_wp2_with fail
  have HX := Bx.three w #[.slice A n c] #[.slice B m d] #[.slice none 0 0] 31 31 31
  refine (rnorm_any A n c l _ (HA.ext HX.below) HN.out (by omega)).mono ?_
  rintro e w1 ⟨A1, c1, rfl, H1, hb1⟩
  have HX1 := HX.ext hb1
  have hc0 := HX1.cell0 0 rfl rfl
  have hf0 := HX1.free0 0 rfl
  have hav1 := H1.avoid_blk (HX1.blk0 rfl) (by simp [Value.noInt])
  have H1' := H1.setCell (p := ⟨w.heap.size, 0, none⟩) hav1 (.slice A1 (dig (val l)).length c1)
  have HX2 : Bx w (w1.setCell ⟨w.heap.size, 0, none⟩ (.slice A1 (dig (val l)).length c1)) _ := HX1.set 0 0 rfl (.slice A1 (dig (val l)).length c1)
  have hc1 := HX2.cell 1 0 rfl rfl
  go_wp2_with fail
  refine (rnorm_any B m d r _ (HB.ext HX2.below) HM.out (by omega)).mono ?_
  rintro e w2 ⟨A2, c2, rfl, H2, hb2⟩
  have HX3 := HX2.ext hb2
  have H1 := H1'.ext hb2
  clear H1' hav1 hc0 hf0 hc1
  have hc1 := HX3.cell 1 0 rfl rfl
  have hf1 := HX3.free 1 0 rfl
  have hav1 := H1.avoid_blk (HX3.blk 1 rfl) (by simp [Value.noInt])
  have hav2 := H2.avoid_blk (HX3.blk 1 rfl) (by simp [Value.noInt])
  have H1' := H1.setCell (p := ⟨w.heap.size + 1, 0, none⟩) hav1 (.slice A2 (dig (val r)).length c2)
  have H2' := H2.setCell (p := ⟨w.heap.size + 1, 0, none⟩) hav2 (.slice A2 (dig (val r)).length c2)
  have HX4 := HX3.set 1 0 rfl (.slice A2 (dig (val r)).length c2)
  obtain ⟨W, hW⟩ : ∃ W, W = w2.setCell ⟨w.heap.size + 1, 0, none⟩ (.slice A2 (dig (val r)).length c2) := ⟨_, rfl⟩
  rw [← hW] at H1' H2' HX4
  go_upto_region 3 with fail
  rw [← hW]
  clear hW H1 H2 hav1 hav2 hc1 hf1 HX HX1 HX2 HX3 hb1 hb2
  have hx0 := HX4.cell0 0 rfl rfl
  have hx1 := HX4.cell 1 0 rfl rfl
  have hsz0 := HX4.size
  simp at hsz0
  go_wp2
  go_loopw [5, 6] (fun s i wr => ∃ (k : Nat) (o : List Nat) (A' : Option Addr) (c' : Nat), k ≤ (dig (val l)).length + (dig (val r)).length ∧ SumAt (dig (val l)) (dig (val r)) k o ∧ s = .slice A' k c' ∧ i = .int .i64 k ∧ Own wr W.heap.size 97 A' k c' (ints .u32 o) ∧ Below W.heap.size W wr)
    (fun _ i _ => (dig (val l)).length + (dig (val r)).length - (intOf i).toNat)
  case atStart => exact ⟨0, [], none, 0, by omega, ⟨rfl, fun j => by rw [at_nil]; omega, rfl⟩, rfl, rfl, World.ownsRow_nil _ _ _ _, Below.refl _ _⟩
  case round =>
    obtain ⟨k, o, A', c', hk, hL, rfl, rfl, hown, hb⟩ := hrel
    have hsz := hb.size
    have HXr := HX4.ext hb
    clear hx0 hx1
    have hx0 := HXr.cell0 0 rfl rfl
    have hx1 := HXr.cell 1 0 rfl rfl
    have hd1 := dig_Dig (val l) k
    have hd2 := dig_Dig (val r) k
    by_cases hka : k < (dig (val l)).length
    · obtain ⟨ad, rfl, _, hc⟩ := (H1'.ext hb).cellAt hka
      by_cases hkb : k < (dig (val r)).length
      · obtain ⟨bd, rfl, _, hc2⟩ := (H2'.ext hb).cellAt hkb
        go_wp2_with (at_builtin; refine wp_push EU _ rfl _ _ rfl rfl rfl hown (by rfl) (by omega) (by omega) (by omega) ?_)
        intro A5 c5 w5 hown5 hgr5 hb5 hlt5
        go_wp2
        go_roundw
        case rel => exact ⟨k + 1, _, A5, c5, by omega, hL.next (s := at_ (dig (val l)) k + at_ (dig (val r)) k) rfl (by omega), rfl, by go_num, own_snoc hown5 (by omega), hb.trans hb5⟩
        case measure => simp [intOf]; omega
      · have hz : at_ (dig (val r)) k = 0 := at_ge (by omega)
        have HZ := Lib.hid hz
        clear hz
        go_wp2_with (at_builtin; refine wp_push EU _ rfl _ _ rfl rfl rfl hown (by rfl) (by omega) (by omega) (by omega) ?_)
        intro A5 c5 w5 hown5 hgr5 hb5 hlt5
        go_wp2
        go_roundw
        case rel => exact ⟨k + 1, _, A5, c5, by omega, hL.next (s := at_ (dig (val l)) k) (by rw [HZ.out]; rfl) (by omega), rfl, by go_num, own_snoc hown5 (by omega), hb.trans hb5⟩
        case measure => simp [intOf]; omega
    · have hz : at_ (dig (val l)) k = 0 := at_ge (by omega)
      have HZ := Lib.hid hz
      clear hz
      by_cases hkb : k < (dig (val r)).length
      · obtain ⟨bd, rfl, _, hc2⟩ := (H2'.ext hb).cellAt hkb
        go_wp2_with (at_builtin; refine wp_push EU _ rfl _ _ rfl rfl rfl hown (by rfl) (by omega) (by omega) (by omega) ?_)
        intro A5 c5 w5 hown5 hgr5 hb5 hlt5
        go_wp2
        go_roundw
        case rel => exact ⟨k + 1, _, A5, c5, by omega, hL.next (s := at_ (dig (val r)) k) (by rw [HZ.out, Nat.zero_add]) (by omega), rfl, by go_num, own_snoc hown5 (by omega), hb.trans hb5⟩
        case measure => simp [intOf]; omega
      · have hlen := hL.len
        have hvx : val o = val l + val r := by
          have := hL.eq
          rw [List.take_of_length_le (by omega), List.take_of_length_le (by omega), val_dig, val_dig] at this
          exact this
        have HVX := Lib.hid hvx
        have hown3 : Own wr W.heap.size 97 A' o.length c' (ints .u32 o) := by rw [hlen]; exact hown
        have HLX := Own.lim hown3 hL.sm
        have HLN := Lib.hid hlen.symm
        clear hlen hvx hown3
        go_wp2_with fail
        refine (rnorm_any A' k c' o _ HLX HLN.out (by omega)).mono ?_
        rintro e w4 ⟨A4, c4, rfl, H4, hb4⟩
        rw [HVX.out] at H4
        rw [HVX.out]
        have HX5 := HXr.ext hb4
        have hc4 := HX5.cell 2 0 rfl rfl
        have hf4 := HX5.free 2 0 rfl
        go_wp2
        have hav := H4.avoid_blk (HX5.blk 2 rfl) (by simp [Value.noInt])
        have hq := set_same (v := .slice A4 (dig (val l + val r)).length c4) hc4
        exact bodyPost_ret (v := .agg #[.slice A4 (dig (val l + val r)).length c4]) (by simp [results, Tryz.results120, go_sem, hq]) rfl ⟨A4, c4, rfl, H4.setCell hav _, HX5.below.setCell (by simp; omega) _⟩
end Go.Proofs.YthempimelfmipaaGreatDoor

namespace Go.Proofs.YthempimelfmipaaGreatDoor
open Go.RowKit Go.Proofs Go


theorem qzero_d {A : Option Addr} {c a : Nat} (w : World) (H : Lim w A c (dig a)) (hl : (dig a).length ≤ 536870000) :
    Calls Tryz.prog 100 #[.agg #[.slice A (dig a).length c]] w fun e w' => e = .returned (.bool (decide (a = 0))) ∧ Below w.heap.size w w' := by
  have := qzero_any A _ c (dig a) w H rfl (by omega)
  rwa [val_dig] at this
end Go.Proofs.YthempimelfmipaaGreatDoor

namespace Go.Proofs.YthempimelfmipaaGreatDoor
open Go.RowKit Go.Proofs Go

theorem qneg_any {s : Bool} {A B : Option Addr} {n c m d : Nat} {q : Rat} {k : Nat} (w : World) (h : Fr w s A n c B m d q k) (hk : k ≤ 268435456) :
    Calls Tryz.prog 67 #[.agg #[.bool s, .slice A n c, .slice B m d]] w (RetQ w (-q)) := by
  go_enter Tryz.func67, Tryz.ntmps67
  go_wp2_with fail
  have HX := Bx.two w #[.bool s, .slice A n c, .slice B m d] #[.bool false, .slice none 0 0, .slice none 0 0] 33 33
  refine (qmade_fr (h.ext HX.below).neg hk).mono ?_
  rintro e w1 ⟨A1, c1, B1, d1, rfl, H1, H2, hb⟩
  generalize -q = q at *
  have HX := HX.ext hb
  have hc10 := HX.cell 1 0 rfl rfl
  have hf10 := HX.free 1 0 rfl
  have hc11 := HX.cell 1 1 rfl rfl
  have hf11 := HX.free 1 1 rfl
  have hc12 := HX.cell 1 2 rfl rfl
  have hf12 := HX.free 1 2 rfl
  go_wp2
  obtain ⟨hq0, hq1, hq2, hq, hkeep, hbel⟩ := set3 (w := w) (HX.blk 1 rfl) rfl rfl rfl HX.below (by omega) (.bool (sg q)) (.slice A1 (dig (nu q)).length c1) (.slice B1 (dig q.den).length d1)
  exact bodyPost_ret (v := .agg #[.bool (sg q), .slice A1 (dig (nu q)).length c1, .slice B1 (dig q.den).length d1]) (by simp [results, Tryz.results67, go_sem, hq0, hq1, hq2]) rfl ⟨A1, c1, B1, d1, rfl, H1.stay hkeep, H2.stay hkeep, hbel⟩


end Go.Proofs.YthempimelfmipaaGreatDoor

namespace Go.Proofs.YthempimelfmipaaGreatDoor
open Go.RowKit Go.Proofs Go
theorem radd_d {A B : Option Addr} {c d : Nat} {a b : Nat} (w : World) (HA : Lim w A c (dig a)) (HB : Lim w B d (dig b)) (ha : (dig a).length ≤ 1073741824) (hb : (dig b).length ≤ 1073741824) :
    Calls Tryz.prog 120 #[.agg #[.slice A (dig a).length c], .agg #[.slice B (dig b).length d]] w (RetN w (a + b)) := by
  have := radd_any A B _ _ c d (dig a) (dig b) w HA HB rfl rfl ha hb
  rwa [val_dig, val_dig] at this
theorem sgn_terms (q : Rat) : sgn q = if nu q = 0 then 0 else if sg q then -1 else 1 := by
  have h := sgn_rv (sg q) (nu q) q.den
  rw [rv_self] at h
  rw [h]
  have := q.den_pos
  by_cases h0 : nu q = 0
  · rw [if_pos (.inl h0), if_pos h0]
  · rw [if_neg (by omega), if_neg h0]

set_option maxHeartbeats 4000000 in
set_option maxRecDepth 1000000 in
theorem qsign_any {s : Bool} {A B : Option Addr} {n c m d : Nat} {q : Rat} {k : Nat} (w : World) (h : Fr w s A n c B m d q k) (hk : k ≤ 67108850) :
    Calls Tryz.prog 66 #[.agg #[.bool s, .slice A n c, .slice B m d]] w fun e w' => e = .returned (.int .i64 (sgn q)) ∧ Below w.heap.size w w' := by
  have hsz := h.sz
  have hsz1 := hsz.1
  rw [sgn_terms]
  by_cases h0 : nu q = 0
  · rw [if_pos h0]
    have hz := decide_eq_true h0
    clear h0
    go_enter Tryz.func66, Tryz.ntmps66
    go_wp2_with fail
    have HX := BL.one w #[.bool s, .slice A n c, .slice B m d] 33
    refine (qnorm_any _ (h.ext HX.below) (by omega)).mono ?_
    rintro e w1 ⟨A1, c1, B1, d1, rfl, N1, D1, hb⟩
    replace HX := HX.ext hb
    clear hb
    have hc00 := HX.cell 0 0 rfl rfl
    have hf00 := HX.free 0 0 rfl
    have hc01 := HX.cell 0 1 rfl rfl
    have hf01 := HX.free 0 1 rfl
    have hc02 := HX.cell 0 2 rfl rfl
    have hf02 := HX.free 0 2 rfl
    try simp only [List.getElem_toArray, List.getElem_cons_zero, List.getElem_cons_succ] at hc00 hf00 hc01 hf01 hc02 hf02
    go_upto_region 2 with fail
    clear hc00 hf00 hc01 hf01 hc02 hf02
    have hk := HX.keep3 0 rfl rfl rfl rfl (by omega) (.bool (sg q)) (.slice A1 (dig (nu q)).length c1) (.slice B1 (dig q.den).length d1)
    replace HX := HX.put3 0 rfl (by omega) (by intro k q hk hne; match k, hk with | 0, hk => (simp at hk; subst hk; simp at hne ⊢; try omega) | k + 1, hk => simp at hk) (.bool (sg q)) (.slice A1 (dig (nu q)).length c1) (.slice B1 (dig q.den).length d1)
    replace N1 := N1.stay hk
    replace D1 := D1.stay hk
    clear hk
    simp only [List.set_cons_zero] at HX
    generalize ((w1.setCell ⟨w.heap.size, 0, none⟩ (.bool (sg q))).setCell ⟨w.heap.size, 1, none⟩ (.slice A1 (dig (nu q)).length c1)).setCell ⟨w.heap.size, 2, none⟩ (.slice B1 (dig q.den).length d1) = V1 at *
    have hc01 := HX.cell 0 1 rfl rfl
    try simp only [List.getElem_toArray, List.getElem_cons_zero, List.getElem_cons_succ] at hc01
    go_wp2_with fail
    refine (qzero_d _ N1 (by omega)).mono ?_
    rintro e w2 ⟨rfl, hb⟩
    rw [hz]
    clear hc01
    replace HX := HX.ext hb
    replace N1 := N1.ext hb
    replace D1 := D1.ext hb
    clear hb
    go_wp2
    go_ret
    exact ⟨rfl, HX.below⟩
  · rw [if_neg h0]
    have hz := decide_eq_false h0
    clear h0
    cases hs : sg q
    · rw [if_neg (by simp)]
      have HS := Lib.hid hs
      clear hs
      go_enter Tryz.func66, Tryz.ntmps66
      go_wp2_with fail
      have HX := BL.one w #[.bool s, .slice A n c, .slice B m d] 33
      refine (qnorm_any _ (h.ext HX.below) (by omega)).mono ?_
      rintro e w1 ⟨A1, c1, B1, d1, rfl, N1, D1, hb⟩
      replace HX := HX.ext hb
      clear hb
      have hc00 := HX.cell 0 0 rfl rfl
      have hf00 := HX.free 0 0 rfl
      have hc01 := HX.cell 0 1 rfl rfl
      have hf01 := HX.free 0 1 rfl
      have hc02 := HX.cell 0 2 rfl rfl
      have hf02 := HX.free 0 2 rfl
      try simp only [List.getElem_toArray, List.getElem_cons_zero, List.getElem_cons_succ] at hc00 hf00 hc01 hf01 hc02 hf02
      go_upto_region 2 with fail
      clear hc00 hf00 hc01 hf01 hc02 hf02
      have hk := HX.keep3 0 rfl rfl rfl rfl (by omega) (.bool (sg q)) (.slice A1 (dig (nu q)).length c1) (.slice B1 (dig q.den).length d1)
      replace HX := HX.put3 0 rfl (by omega) (by intro k q hk hne; match k, hk with | 0, hk => (simp at hk; subst hk; simp at hne ⊢; try omega) | k + 1, hk => simp at hk) (.bool (sg q)) (.slice A1 (dig (nu q)).length c1) (.slice B1 (dig q.den).length d1)
      replace N1 := N1.stay hk
      replace D1 := D1.stay hk
      clear hk
      simp only [List.set_cons_zero] at HX
      generalize ((w1.setCell ⟨w.heap.size, 0, none⟩ (.bool (sg q))).setCell ⟨w.heap.size, 1, none⟩ (.slice A1 (dig (nu q)).length c1)).setCell ⟨w.heap.size, 2, none⟩ (.slice B1 (dig q.den).length d1) = V1 at *
      have hc01 := HX.cell 0 1 rfl rfl
      try simp only [List.getElem_toArray, List.getElem_cons_zero, List.getElem_cons_succ] at hc01
      go_wp2_with fail
      refine (qzero_d _ N1 (by omega)).mono ?_
      rintro e w2 ⟨rfl, hb⟩
      rw [hz]
      clear hc01
      replace HX := HX.ext hb
      replace N1 := N1.ext hb
      replace D1 := D1.ext hb
      clear hb
      have hc00 : w2.cell? ⟨w.heap.size, 0, none⟩ = some (.bool false) := by rw [← HS.out]; exact HX.cell 0 0 rfl rfl
      go_wp2
      go_ret
      exact ⟨rfl, HX.below⟩
    · rw [if_pos rfl]
      have HS := Lib.hid hs
      clear hs
      go_enter Tryz.func66, Tryz.ntmps66
      go_wp2_with fail
      have HX := BL.one w #[.bool s, .slice A n c, .slice B m d] 33
      refine (qnorm_any _ (h.ext HX.below) (by omega)).mono ?_
      rintro e w1 ⟨A1, c1, B1, d1, rfl, N1, D1, hb⟩
      replace HX := HX.ext hb
      clear hb
      have hc00 := HX.cell 0 0 rfl rfl
      have hf00 := HX.free 0 0 rfl
      have hc01 := HX.cell 0 1 rfl rfl
      have hf01 := HX.free 0 1 rfl
      have hc02 := HX.cell 0 2 rfl rfl
      have hf02 := HX.free 0 2 rfl
      try simp only [List.getElem_toArray, List.getElem_cons_zero, List.getElem_cons_succ] at hc00 hf00 hc01 hf01 hc02 hf02
      go_upto_region 2 with fail
      clear hc00 hf00 hc01 hf01 hc02 hf02
      have hk := HX.keep3 0 rfl rfl rfl rfl (by omega) (.bool (sg q)) (.slice A1 (dig (nu q)).length c1) (.slice B1 (dig q.den).length d1)
      replace HX := HX.put3 0 rfl (by omega) (by intro k q hk hne; match k, hk with | 0, hk => (simp at hk; subst hk; simp at hne ⊢; try omega) | k + 1, hk => simp at hk) (.bool (sg q)) (.slice A1 (dig (nu q)).length c1) (.slice B1 (dig q.den).length d1)
      replace N1 := N1.stay hk
      replace D1 := D1.stay hk
      clear hk
      simp only [List.set_cons_zero] at HX
      generalize ((w1.setCell ⟨w.heap.size, 0, none⟩ (.bool (sg q))).setCell ⟨w.heap.size, 1, none⟩ (.slice A1 (dig (nu q)).length c1)).setCell ⟨w.heap.size, 2, none⟩ (.slice B1 (dig q.den).length d1) = V1 at *
      have hc01 := HX.cell 0 1 rfl rfl
      try simp only [List.getElem_toArray, List.getElem_cons_zero, List.getElem_cons_succ] at hc01
      go_wp2_with fail
      refine (qzero_d _ N1 (by omega)).mono ?_
      rintro e w2 ⟨rfl, hb⟩
      rw [hz]
      clear hc01
      replace HX := HX.ext hb
      replace N1 := N1.ext hb
      replace D1 := D1.ext hb
      clear hb
      have hc00 : w2.cell? ⟨w.heap.size, 0, none⟩ = some (.bool true) := by rw [← HS.out]; exact HX.cell 0 0 rfl rfl
      go_wp2
      go_ret
      exact ⟨rfl, HX.below⟩

set_option maxHeartbeats 4000000 in
set_option maxRecDepth 1000000 in
theorem qadd_any {s t : Bool} {A B A' B' : Option Addr} {n c m d n' c' m' d' : Nat} {p q : Rat} {k k' : Nat} (w : World) (h : Fr w s A n c B m d p k) (h' : Fr w t A' n' c' B' m' d' q k') (hk : k ≤ 67108850) (hk' : k' ≤ 67108850) :
    Calls Tryz.prog 98 #[.agg #[.bool s, .slice A n c, .slice B m d], .agg #[.bool t, .slice A' n' c', .slice B' m' d']] w (RetQ w (p + q)) := by
  have hsp := h.sz
  have hsq := h'.sz
  have hsp1 := hsp.1
  have hsp2 := hsp.2
  have hsq1 := hsq.1
  have hsq2 := hsq.2
  obtain ⟨X, hX⟩ : ∃ X, nu p * q.den = X := ⟨_, rfl⟩
  obtain ⟨Y, hY⟩ : ∃ Y, nu q * p.den = Y := ⟨_, rfl⟩
  obtain ⟨Z, hZ⟩ : ∃ Z, p.den * q.den = Z := ⟨_, rfl⟩
  have hlX : (dig X).length ≤ k + k' + 2 := by rw [← hX]; have := len_mul hsp1 hsq2; omega
  have hlY : (dig Y).length ≤ k + k' + 2 := by rw [← hY]; have := len_mul hsq1 hsp2; omega
  have hlZ : (dig Z).length ≤ k + k' + 2 := by rw [← hZ]; have := len_mul hsp2 hsq2; omega
  have hsum : sg p = sg q → p + q = rv (sg p) (X + Y) Z := fun hs => by
    have e := rv_add_same (sg p) (nu p) p.den (nu q) q.den p.den_pos q.den_pos
    rw [hX, hY, hZ, rv_self] at e
    rw [← e, hs, rv_self]
  have hdif1 : sg q = !sg p → Y ≤ X → p + q = rv (sg p) (X - Y) Z := fun hs hle => by
    have e := rv_add_le (sg p) (nu p) p.den (nu q) q.den p.den_pos q.den_pos (by rw [hX, hY]; exact hle)
    rw [hX, hY, hZ, rv_self, ← hs, rv_self] at e
    exact e
  have hdif2 : sg q = !sg p → X ≤ Y → p + q = rv (sg q) (Y - X) Z := fun hs hle => by
    have e := rv_add_le (sg q) (nu q) q.den (nu p) p.den q.den_pos p.den_pos (by rw [hX, hY]; exact hle)
    rw [hX, hY, Nat.mul_comm q.den p.den, hZ, rv_self, hs, Bool.not_not, rv_self] at e
    rw [Rat.add_comm, hs]
    exact e
  have hlx := len_add (k := k + k' + 2) hlX hlY
  have hlxy := dig_mono (Nat.sub_le X Y)
  have hlyx := dig_mono (Nat.sub_le Y X)
  have hbq : sg p = sg q ∨ sg q = !sg p := by cases sg p <;> cases sg q <;> simp
  have HSUM := Lib.hid hsum
  have HD1 := Lib.hid hdif1
  have HD2 := Lib.hid hdif2
  have HXX := Lib.hid hX
  have HYY := Lib.hid hY
  have HZZ := Lib.hid hZ
  have HBQ := Lib.hid hbq
  clear hX hY hZ hsum hdif1 hdif2 hbq
  go_enter Tryz.func98, Tryz.ntmps98
  go_wp2_with fail
  have HX := BL.three w #[.bool s, .slice A n c, .slice B m d] #[.bool t, .slice A' n' c', .slice B' m' d'] #[.bool false, .slice none 0 0, .slice none 0 0] 33 33 33
  replace h := h.ext HX.below
  replace h' := h'.ext HX.below
  generalize ((w.alloc (.cells #[.bool s, .slice A n c, .slice B m d] 33)).alloc (.cells #[.bool t, .slice A' n' c', .slice B' m' d'] 33)).alloc (.cells #[.bool false, .slice none 0 0, .slice none 0 0] 33) = W0 at *
  refine wp_region_x (al := []) (late := [4, 5]) (dst := fun i => 0) (zt := fun _ => (#[], 0)) (B := W0.heap.size) (n := 4) (r := 2) (by kernel_rfl) (by kernel_rfl) (by decide) ?_ (by kernel_rfl) (by kernel_rfl) (by intro _ _ _ d _ h; cases d <;> exact h) (sz := 6) (by rfl) (by rfl) (Nat.le_refl _) ?_
  · intro i hi; cases hi
  have hE : Ext W0 W0.drew := drew_ext W0
  replace HX := HX.ext hE
  replace h := h.ext hE
  replace h' := h'.ext hE
  clear hE
  refine wpX_take (i := 0) (v := .agg #[.bool s, .slice A n c, .slice B m d]) rfl (by kernel_rfl) (by kernel_rfl) (by kernel_rfl) (fun _ _ _ h => h) (Or.inl ⟨by rfl, fun W hW => ?_⟩) ?_
  · have h0 := (HX.ext hW).cell 0 0 rfl rfl
    have h1 := (HX.ext hW).cell 0 1 rfl rfl
    have h2 := (HX.ext hW).cell 0 2 rfl rfl
    simp only [] at h0 h1 h2
    go_simp
    try rfl
  try simp only [Act.put, List.setIfInBounds_toArray]
  refine wpX_take (i := 2) (v := .agg #[.bool t, .slice A' n' c', .slice B' m' d']) rfl (by kernel_rfl) (by kernel_rfl) (by kernel_rfl) (fun _ _ _ h => h) (Or.inl ⟨by rfl, fun W hW => ?_⟩) ?_
  · have h0 := (HX.ext hW).cell 1 0 rfl rfl
    have h1 := (HX.ext hW).cell 1 1 rfl rfl
    have h2 := (HX.ext hW).cell 1 2 rfl rfl
    simp only [] at h0 h1 h2
    go_simp
    try rfl
  try simp only [Act.put]
  refine wpX_step (i := 1) (by kernel_rfl) rfl (fun W1 K hE hK => ?_)
  replace HX := HX.ext hE
  replace h := h.ext hE
  replace h' := h'.ext hE
  clear hE
  go_simp
  refine (qnorm_any _ h (by omega)).mono ?_
  rintro e W2 ⟨A1, c1, B1, d1, rfl, N1, D1, hb⟩
  go_wp2_with fail
  refine hK.out _ _ hb ?_
  clear hK K
  replace HX := HX.ext hb
  replace h := h.ext hb
  replace h' := h'.ext hb
  clear hb
  try simp only [Act.put, List.setIfInBounds_toArray, List.set_cons_zero, List.set_cons_succ]
  skip
  refine wpX_step (i := 3) (by kernel_rfl) rfl (fun W1 K hE hK => ?_)
  replace HX := HX.ext hE
  replace h := h.ext hE
  replace h' := h'.ext hE
  replace N1 := N1.ext hE
  replace D1 := D1.ext hE
  clear hE
  go_simp
  refine (qnorm_any _ h' (by omega)).mono ?_
  rintro e W2 ⟨A2, c2, B2, d2, rfl, N2, D2, hb⟩
  go_wp2_with fail
  refine hK.out _ _ hb ?_
  clear hK K
  replace HX := HX.ext hb
  replace h := h.ext hb
  replace h' := h'.ext hb
  replace N1 := N1.ext hb
  replace D1 := D1.ext hb
  clear hb
  try simp only [Act.put, List.setIfInBounds_toArray, List.set_cons_zero, List.set_cons_succ]
  skip
  clear h h'
  refine wpX_end (by kernel_rfl) (fun W1 ga m hE hg hm => ?_)
  replace HX := HX.ext hE
  replace N1 := N1.ext hE
  replace D1 := D1.ext hE
  replace N2 := N2.ext hE
  replace D2 := D2.ext hE
  clear hE
  clear hg
  simp only [putAll, setAll]
  clear ga
  have hc00 := HX.cell 0 0 rfl rfl
  have hf00 := HX.free 0 0 rfl
  have hc01 := HX.cell 0 1 rfl rfl
  have hf01 := HX.free 0 1 rfl
  have hc02 := HX.cell 0 2 rfl rfl
  have hf02 := HX.free 0 2 rfl
  try simp only [List.getElem_toArray, List.getElem_cons_zero, List.getElem_cons_succ] at hc00 hf00 hc01 hf01 hc02 hf02
  refine wpAny_step (i := 4) (by kernel_rfl) rfl (by omega) (fun K hK => ?_)
  go_simp
  refine hK.out _ _ ?_
  clear hK K
  clear hc00 hf00 hc01 hf01 hc02 hf02
  have hk := HX.keep3 0 rfl rfl rfl rfl (by omega) (.bool (sg p)) (.slice A1 (dig (nu p)).length c1) (.slice B1 (dig p.den).length d1)
  replace HX := HX.put3 0 rfl (by omega) (by intro k q hk hne; match k, hk with | 0, hk => (simp at hk; subst hk; simp at hne ⊢; try omega) | 1, hk => (simp at hk; subst hk; simp at hne ⊢; try omega) | 2, hk => (simp at hk; subst hk; simp at hne ⊢; try omega) | k + 3, hk => simp at hk) (.bool (sg p)) (.slice A1 (dig (nu p)).length c1) (.slice B1 (dig p.den).length d1)
  replace N1 := N1.stay hk
  replace D1 := D1.stay hk
  replace N2 := N2.stay hk
  replace D2 := D2.stay hk
  clear hk
  simp only [List.set_cons_zero] at HX
  have hc10 := HX.cell 1 0 rfl rfl
  have hf10 := HX.free 1 0 rfl
  have hc11 := HX.cell 1 1 rfl rfl
  have hf11 := HX.free 1 1 rfl
  have hc12 := HX.cell 1 2 rfl rfl
  have hf12 := HX.free 1 2 rfl
  try simp only [List.getElem_toArray, List.getElem_cons_zero, List.getElem_cons_succ] at hc10 hf10 hc11 hf11 hc12 hf12
  refine wpAny_step (i := 5) (by kernel_rfl) rfl (by omega) (fun K hK => ?_)
  go_simp
  refine hK.out _ _ ?_
  clear hK K
  clear hc10 hf10 hc11 hf11 hc12 hf12
  have hk := HX.keep3 1 rfl rfl rfl rfl (by omega) (.bool (sg q)) (.slice A2 (dig (nu q)).length c2) (.slice B2 (dig q.den).length d2)
  replace HX := HX.put3 1 rfl (by omega) (by intro k q hk hne; match k, hk with | 0, hk => (simp at hk; subst hk; simp at hne ⊢; try omega) | 1, hk => (simp at hk; subst hk; simp at hne ⊢; try omega) | 2, hk => (simp at hk; subst hk; simp at hne ⊢; try omega) | k + 3, hk => simp at hk) (.bool (sg q)) (.slice A2 (dig (nu q)).length c2) (.slice B2 (dig q.den).length d2)
  replace N1 := N1.stay hk
  replace D1 := D1.stay hk
  replace N2 := N2.stay hk
  replace D2 := D2.stay hk
  clear hk
  simp only [List.set_cons_zero, List.set_cons_succ] at HX
  refine wpAny_done (by kernel_rfl) ?_ _
  generalize hW : ((((((W1.setCell ⟨w.heap.size, 0, none⟩ _).setCell ⟨w.heap.size, 1, none⟩ _).setCell ⟨w.heap.size, 2, none⟩ _).setCell ⟨w.heap.size + 1, 0, none⟩ _).setCell ⟨w.heap.size + 1, 1, none⟩ _).setCell ⟨w.heap.size + 1, 2, none⟩ _) = W2 at *
  clear hW
  have hc01 := HX.cell 0 1 rfl rfl
  have hc12 := HX.cell 1 2 rfl rfl
  try simp only [List.getElem_toArray, List.getElem_cons_zero, List.getElem_cons_succ] at hc01 hc12
  go_wp2_with fail
  refine (rmul_d _ N1 D2 (by omega) (by omega)).mono ?_
  rintro e w3 ⟨AX, cX, rfl, LX, hb⟩
  rw [HXX.out] at LX
  rw [HXX.out]
  clear hc01 hc12
  replace HX := HX.ext hb
  replace N1 := N1.ext hb
  replace D1 := D1.ext hb
  replace N2 := N2.ext hb
  replace D2 := D2.ext hb
  clear hb
  go_upto_region 3 with fail
  have ltX := HX.lt 2 rfl
  simp only [] at ltX
  have hb := below_alloc w3 (.cells #[.slice AX (dig X).length cX] 31)
  replace HX := HX.new #[.slice AX (dig X).length cX] 31
  simp only [List.cons_append, List.nil_append] at HX
  replace N1 := N1.ext hb
  replace D1 := D1.ext hb
  replace N2 := N2.ext hb
  replace D2 := D2.ext hb
  replace LX := LX.ext hb
  clear hb
  generalize w3.alloc (.cells #[.slice AX (dig X).length cX] 31) = V3 at *
  generalize w3.heap.size = gx at *
  have hc11 := HX.cell 1 1 rfl rfl
  have hc02 := HX.cell 0 2 rfl rfl
  try simp only [List.getElem_toArray, List.getElem_cons_zero, List.getElem_cons_succ] at hc11 hc02
  go_wp2_with fail
  refine (rmul_d _ N2 D1 (by omega) (by omega)).mono ?_
  rintro e w4 ⟨AY, cY, rfl, LY, hb⟩
  rw [HYY.out] at LY
  rw [HYY.out]
  clear hc11 hc02
  replace HX := HX.ext hb
  replace N1 := N1.ext hb
  replace D1 := D1.ext hb
  replace N2 := N2.ext hb
  replace D2 := D2.ext hb
  replace LX := LX.ext hb
  clear hb
  go_upto_region 4 with fail
  have ltY := HX.lt 3 rfl
  simp only [] at ltY
  have hb := below_alloc w4 (.cells #[.slice AY (dig Y).length cY] 31)
  replace HX := HX.new #[.slice AY (dig Y).length cY] 31
  simp only [List.cons_append, List.nil_append] at HX
  replace N1 := N1.ext hb
  replace D1 := D1.ext hb
  replace N2 := N2.ext hb
  replace D2 := D2.ext hb
  replace LX := LX.ext hb
  replace LY := LY.ext hb
  clear hb
  generalize w4.alloc (.cells #[.slice AY (dig Y).length cY] 31) = V4 at *
  generalize w4.heap.size = gy at *
  have hc02 := HX.cell 0 2 rfl rfl
  have hc12 := HX.cell 1 2 rfl rfl
  try simp only [List.getElem_toArray, List.getElem_cons_zero, List.getElem_cons_succ] at hc02 hc12
  go_wp2_with fail
  refine (rmul_d _ D1 D2 (by omega) (by omega)).mono ?_
  rintro e w5 ⟨AZ, cZ, rfl, LZ, hb⟩
  rw [HZZ.out] at LZ
  rw [HZZ.out]
  clear hc02 hc12
  replace HX := HX.ext hb
  replace N1 := N1.ext hb
  replace D1 := D1.ext hb
  replace N2 := N2.ext hb
  replace D2 := D2.ext hb
  replace LX := LX.ext hb
  replace LY := LY.ext hb
  clear hb
  go_upto_region 5 with fail
  have ltZ := HX.lt 4 rfl
  simp only [] at ltZ
  have hb := below_alloc w5 (.cells #[.slice AZ (dig Z).length cZ] 31)
  replace HX := HX.new #[.slice AZ (dig Z).length cZ] 31
  simp only [List.cons_append, List.nil_append] at HX
  replace N1 := N1.ext hb
  replace D1 := D1.ext hb
  replace N2 := N2.ext hb
  replace D2 := D2.ext hb
  replace LX := LX.ext hb
  replace LY := LY.ext hb
  replace LZ := LZ.ext hb
  clear hb
  generalize w5.alloc (.cells #[.slice AZ (dig Z).length cZ] 31) = V5 at *
  generalize w5.heap.size = gz at *
  clear N1 D1 N2 D2
  by_cases hsg : sg p = sg q
  · have hsb : (sg p == sg q) = true := by simp [hsg]
    have hpq := Lib.hid (HSUM.out hsg)
    clear hsg
    have hc00 := HX.cell 0 0 rfl rfl
    have hc10 := HX.cell 1 0 rfl rfl
    try simp only [List.getElem_toArray, List.getElem_cons_zero] at hc00 hc10
    go_upto_region 6 with fail
    clear hc00 hc10
    refine wp_region_x (al := []) (late := [7]) (dst := fun i => 0) (zt := fun _ => (#[], 0)) (B := V5.heap.size) (n := 7) (r := 1) (by kernel_rfl) (by kernel_rfl) (by decide) ?_ (by kernel_rfl) (by kernel_rfl) (by intro _ _ _ d _ h; cases d <;> exact h) (sz := 8) (by rfl) (by rfl) (Nat.le_refl _) ?_
    · intro i hi; cases hi
    have hE : Ext V5 V5.drew := drew_ext V5
    replace HX := HX.ext hE
    replace LX := LX.ext hE
    replace LY := LY.ext hE
    replace LZ := LZ.ext hE
    clear hE
    refine wpX_take (i := 0) (v := .pointer (some ⟨w.heap.size, 0, none⟩)) rfl (by kernel_rfl) (by kernel_rfl) (by kernel_rfl) (fun _ _ _ h => h) (Or.inl ⟨by rfl, fun W hW => ?_⟩) ?_
    · go_simp
      try rfl
    try simp only [Act.put, List.setIfInBounds_toArray]
    refine wpX_take (i := 1) (v := .bool (sg p)) rfl (by kernel_rfl) (by kernel_rfl) (by kernel_rfl) (fun _ _ _ h => h) (Or.inl ⟨by rfl, fun W hW => ?_⟩) ?_
    · have h0 := (HX.ext hW).cell 0 0 rfl rfl
      simp only [] at h0
      go_simp
      try rfl
    try simp only [Act.put]
    refine wpX_take (i := 2) (v := .agg #[.slice AX (dig X).length cX]) rfl (by kernel_rfl) (by kernel_rfl) (by kernel_rfl) (fun _ _ _ h => h) (Or.inl ⟨by rfl, fun W hW => ?_⟩) ?_
    · have h0 := (HX.ext hW).cell 3 0 rfl rfl
      simp only [] at h0
      go_simp
      try rfl
    try simp only [Act.put]
    refine wpX_take (i := 3) (v := .agg #[.slice AY (dig Y).length cY]) rfl (by kernel_rfl) (by kernel_rfl) (by kernel_rfl) (fun _ _ _ h => h) (Or.inl ⟨by rfl, fun W hW => ?_⟩) ?_
    · have h0 := (HX.ext hW).cell 4 0 rfl rfl
      simp only [] at h0
      go_simp
      try rfl
    try simp only [Act.put]
    refine wpX_take (i := 5) (v := .agg #[.slice AZ (dig Z).length cZ]) rfl (by kernel_rfl) (by kernel_rfl) (by kernel_rfl) (fun _ _ _ h => h) (Or.inl ⟨by rfl, fun W hW => ?_⟩) ?_
    · have h0 := (HX.ext hW).cell 5 0 rfl rfl
      simp only [] at h0
      go_simp
      try rfl
    try simp only [Act.put]
    refine wpX_step (i := 4) (by kernel_rfl) rfl (fun W1 K hE hK => ?_)
    replace HX := HX.ext hE
    replace LX := LX.ext hE
    replace LY := LY.ext hE
    replace LZ := LZ.ext hE
    clear hE
    go_simp
    refine (radd_d _ LX LY (by omega) (by omega)).mono ?_
    rintro e W2 ⟨AS, cS, rfl, LS, hb⟩
    go_wp2_with fail
    refine hK.out _ _ hb ?_
    clear hK K
    replace HX := HX.ext hb
    replace LX := LX.ext hb
    replace LY := LY.ext hb
    replace LZ := LZ.ext hb
    clear hb
    try simp only [Act.put, List.setIfInBounds_toArray, List.set_cons_zero, List.set_cons_succ]
    skip
    refine wpX_step (i := 6) (by kernel_rfl) rfl (fun W1 K hE hK => ?_)
    replace HX := HX.ext hE
    replace LX := LX.ext hE
    replace LY := LY.ext hE
    replace LZ := LZ.ext hE
    replace LS := LS.ext hE
    clear hE
    go_simp
    refine (qmade_fr (s := sg p) (Fr.of2 (k := 268435456) LS LZ (by omega) (by omega)) (Nat.le_refl _)).mono ?_
    rintro e W2 ⟨A9, c9, B9, d9, rfl, N9, D9, hb⟩
    rw [← hpq.out] at N9 D9
    rw [← hpq.out]
    go_wp2_with fail
    refine hK.out _ _ hb ?_
    clear hK K
    replace HX := HX.ext hb
    replace LX := LX.ext hb
    replace LY := LY.ext hb
    replace LZ := LZ.ext hb
    replace LS := LS.ext hb
    clear hb
    try simp only [Act.put, List.setIfInBounds_toArray, List.set_cons_zero, List.set_cons_succ]
    skip
    clear LS LX LY LZ
    refine wpX_end (by kernel_rfl) (fun W7 ga m hE hg hm => ?_)
    replace HX := HX.ext hE
    replace N9 := N9.ext hE
    replace D9 := D9.ext hE
    clear hE
    clear hg
    simp only [putAll, setAll]
    clear ga
    have hc20 := HX.cell 2 0 rfl rfl
    have hf20 := HX.free 2 0 rfl
    have hc21 := HX.cell 2 1 rfl rfl
    have hf21 := HX.free 2 1 rfl
    have hc22 := HX.cell 2 2 rfl rfl
    have hf22 := HX.free 2 2 rfl
    try simp only [List.getElem_toArray, List.getElem_cons_zero, List.getElem_cons_succ] at hc20 hf20 hc21 hf21 hc22 hf22
    refine wpAny_step (i := 7) (by kernel_rfl) rfl (by omega) (fun K hK => ?_)
    go_simp
    refine hK.out _ _ ?_
    clear hK K
    clear hc20 hf20 hc21 hf21 hc22 hf22
    have hk := HX.keep3 2 rfl rfl rfl rfl (by omega) (.bool (sg (p + q))) (.slice A9 (dig (nu (p + q))).length c9) (.slice B9 (dig (p + q).den).length d9)
    replace HX := HX.put3 2 rfl (by omega) (by intro k q hk hne; match k, hk with | 0, hk => (simp at hk; subst hk; simp at hne ⊢; try omega) | 1, hk => (simp at hk; subst hk; simp at hne ⊢; try omega) | 2, hk => (simp at hk; subst hk; simp at hne ⊢; try omega) | 3, hk => (simp at hk; subst hk; simp at hne ⊢; try omega) | 4, hk => (simp at hk; subst hk; simp at hne ⊢; try omega) | 5, hk => (simp at hk; subst hk; simp at hne ⊢; try omega) | k + 6, hk => simp at hk) (.bool (sg (p + q))) (.slice A9 (dig (nu (p + q))).length c9) (.slice B9 (dig (p + q).den).length d9)
    replace N9 := N9.stay hk
    replace D9 := D9.stay hk
    clear hk
    simp only [List.set_cons_zero, List.set_cons_succ] at HX
    refine wpAny_done (by kernel_rfl) ?_ _
    have hc20 := HX.cell 2 0 rfl rfl
    have hc21 := HX.cell 2 1 rfl rfl
    have hc22 := HX.cell 2 2 rfl rfl
    try simp only [List.getElem_toArray, List.getElem_cons_zero, List.getElem_cons_succ] at hc20 hc21 hc22
    go_wp2
    exact bodyPost_ret (v := .agg #[.bool (sg (p + q)), .slice A9 (dig (nu (p + q))).length c9, .slice B9 (dig (p + q).den).length d9]) (by simp [results, Tryz.results98, go_sem, hc20, hc21, hc22]) rfl ⟨A9, c9, B9, d9, rfl, N9, D9, HX.below⟩
  · have hsb : (sg p == sg q) = false := by simp [hsg]
    have hns : sg q = !sg p := HBQ.out.resolve_left hsg
    clear hsg
    by_cases hle : Y ≤ X
    · have hcc : decide (0 ≤ cmpI X Y) = true := decide_eq_true (by
        rcases Nat.lt_or_ge Y X with h | h
        · rw [cmpI_gt h]; omega
        · rw [cmpI_eq (by omega)]; omega)
      have hpq := Lib.hid (HD1.out hns hle)
      clear hns
      have hc00 := HX.cell 0 0 rfl rfl
      have hc10 := HX.cell 1 0 rfl rfl
      have hc30 := HX.cell 3 0 rfl rfl
      have hc40 := HX.cell 4 0 rfl rfl
      try simp only [List.getElem_toArray, List.getElem_cons_zero] at hc00 hc10 hc30 hc40
      go_wp2_with fail
      refine (rcmp_d _ LX LY (by omega) (by omega)).mono ?_
      rintro e w6 ⟨rfl, hb⟩
      clear hc00 hc10 hc30 hc40
      replace HX := HX.ext hb
      replace LX := LX.ext hb
      replace LY := LY.ext hb
      replace LZ := LZ.ext hb
      clear hb
      have hc30 := HX.cell 3 0 rfl rfl
      have hc40 := HX.cell 4 0 rfl rfl
      try simp only [List.getElem_toArray, List.getElem_cons_zero] at hc30 hc40
      go_wp2_with fail
      refine (rsub_d _ LX LY (by omega) (by omega) hle).mono ?_
      rintro e w7 ⟨AS, cS, rfl, LS, hb, _⟩
      clear hc30 hc40
      replace HX := HX.ext hb
      replace LX := LX.ext hb
      replace LY := LY.ext hb
      replace LZ := LZ.ext hb
      clear hb
      go_upto_region 9 with fail
      have ltS := HX.lt 5 rfl
      simp only [] at ltS
      have hb := below_alloc w7 (.cells #[.slice AS (dig (X - Y)).length cS] 31)
      replace HX := HX.new #[.slice AS (dig (X - Y)).length cS] 31
      simp only [List.cons_append, List.nil_append] at HX
      replace LX := LX.ext hb
      replace LY := LY.ext hb
      replace LZ := LZ.ext hb
      replace LS := LS.ext hb
      clear hb
      generalize w7.alloc (.cells #[.slice AS (dig (X - Y)).length cS] 31) = V7 at *
      generalize w7.heap.size = gs at *
      have hc00 := HX.cell 0 0 rfl rfl
      have hc50 := HX.cell 5 0 rfl rfl
      have hc60 := HX.cell 6 0 rfl rfl
      try simp only [List.getElem_toArray, List.getElem_cons_zero] at hc00 hc50 hc60
      go_wp2_with fail
      refine (qmade_fr (s := sg p) (Fr.of2 (k := 268435456) LS LZ (by omega) (by omega)) (Nat.le_refl _)).mono ?_
      rintro e w8 ⟨A9, c9, B9, d9, rfl, N9, D9, hb⟩
      rw [← hpq.out] at N9 D9
      rw [← hpq.out]
      clear LS LX LY LZ
      clear hc00 hc50 hc60
      replace HX := HX.ext hb
      clear hb
      have hc20 := HX.cell 2 0 rfl rfl
      have hf20 := HX.free 2 0 rfl
      have hc21 := HX.cell 2 1 rfl rfl
      have hf21 := HX.free 2 1 rfl
      have hc22 := HX.cell 2 2 rfl rfl
      have hf22 := HX.free 2 2 rfl
      try simp only [List.getElem_toArray, List.getElem_cons_zero, List.getElem_cons_succ] at hc20 hf20 hc21 hf21 hc22 hf22
      go_wp2
      clear hc20 hf20 hc21 hf21 hc22 hf22
      have hk := HX.keep3 2 rfl rfl rfl rfl (by omega) (.bool (sg (p + q))) (.slice A9 (dig (nu (p + q))).length c9) (.slice B9 (dig (p + q).den).length d9)
      replace HX := HX.put3 2 rfl (by omega) (by intro k q hk hne; match k, hk with | 0, hk => (simp at hk; subst hk; simp at hne ⊢; try omega) | 1, hk => (simp at hk; subst hk; simp at hne ⊢; try omega) | 2, hk => (simp at hk; subst hk; simp at hne ⊢; try omega) | 3, hk => (simp at hk; subst hk; simp at hne ⊢; try omega) | 4, hk => (simp at hk; subst hk; simp at hne ⊢; try omega) | 5, hk => (simp at hk; subst hk; simp at hne ⊢; try omega) | 6, hk => (simp at hk; subst hk; simp at hne ⊢; try omega) | k + 7, hk => simp at hk) (.bool (sg (p + q))) (.slice A9 (dig (nu (p + q))).length c9) (.slice B9 (dig (p + q).den).length d9)
      replace N9 := N9.stay hk
      replace D9 := D9.stay hk
      clear hk
      simp only [List.set_cons_zero, List.set_cons_succ] at HX
      have hc20 := HX.cell 2 0 rfl rfl
      have hc21 := HX.cell 2 1 rfl rfl
      have hc22 := HX.cell 2 2 rfl rfl
      try simp only [List.getElem_toArray, List.getElem_cons_zero, List.getElem_cons_succ] at hc20 hc21 hc22
      exact bodyPost_ret (v := .agg #[.bool (sg (p + q)), .slice A9 (dig (nu (p + q))).length c9, .slice B9 (dig (p + q).den).length d9]) (by simp [results, Tryz.results98, go_sem, hc20, hc21, hc22]) rfl ⟨A9, c9, B9, d9, rfl, N9, D9, HX.below⟩
    · have hcc : decide (0 ≤ cmpI X Y) = false := decide_eq_false (by rw [cmpI_lt (by omega)]; omega)
      have hle2 : X ≤ Y := by omega
      have hpq := Lib.hid (HD2.out hns hle2)
      clear hns
      have hc00 := HX.cell 0 0 rfl rfl
      have hc10 := HX.cell 1 0 rfl rfl
      have hc30 := HX.cell 3 0 rfl rfl
      have hc40 := HX.cell 4 0 rfl rfl
      try simp only [List.getElem_toArray, List.getElem_cons_zero] at hc00 hc10 hc30 hc40
      go_wp2_with fail
      refine (rcmp_d _ LX LY (by omega) (by omega)).mono ?_
      rintro e w6 ⟨rfl, hb⟩
      clear hc00 hc10 hc30 hc40
      replace HX := HX.ext hb
      replace LX := LX.ext hb
      replace LY := LY.ext hb
      replace LZ := LZ.ext hb
      clear hb
      have hc30 := HX.cell 3 0 rfl rfl
      have hc40 := HX.cell 4 0 rfl rfl
      try simp only [List.getElem_toArray, List.getElem_cons_zero] at hc30 hc40
      go_wp2_with fail
      refine (rsub_d _ LY LX (by omega) (by omega) hle2).mono ?_
      rintro e w7 ⟨AS, cS, rfl, LS, hb, _⟩
      clear hc30 hc40
      replace HX := HX.ext hb
      replace LX := LX.ext hb
      replace LY := LY.ext hb
      replace LZ := LZ.ext hb
      clear hb
      go_upto_region 11 with fail
      have ltS := HX.lt 5 rfl
      simp only [] at ltS
      have hb := below_alloc w7 (.cells #[.slice AS (dig (Y - X)).length cS] 31)
      replace HX := HX.new #[.slice AS (dig (Y - X)).length cS] 31
      simp only [List.cons_append, List.nil_append] at HX
      replace LX := LX.ext hb
      replace LY := LY.ext hb
      replace LZ := LZ.ext hb
      replace LS := LS.ext hb
      clear hb
      generalize w7.alloc (.cells #[.slice AS (dig (Y - X)).length cS] 31) = V7 at *
      generalize w7.heap.size = gs at *
      have hc10 := HX.cell 1 0 rfl rfl
      have hc50 := HX.cell 5 0 rfl rfl
      have hc60 := HX.cell 6 0 rfl rfl
      try simp only [List.getElem_toArray, List.getElem_cons_zero] at hc10 hc50 hc60
      go_wp2_with fail
      refine (qmade_fr (s := sg q) (Fr.of2 (k := 268435456) LS LZ (by omega) (by omega)) (Nat.le_refl _)).mono ?_
      rintro e w8 ⟨A9, c9, B9, d9, rfl, N9, D9, hb⟩
      rw [← hpq.out] at N9 D9
      rw [← hpq.out]
      clear LS LX LY LZ
      clear hc10 hc50 hc60
      replace HX := HX.ext hb
      clear hb
      have hc20 := HX.cell 2 0 rfl rfl
      have hf20 := HX.free 2 0 rfl
      have hc21 := HX.cell 2 1 rfl rfl
      have hf21 := HX.free 2 1 rfl
      have hc22 := HX.cell 2 2 rfl rfl
      have hf22 := HX.free 2 2 rfl
      try simp only [List.getElem_toArray, List.getElem_cons_zero, List.getElem_cons_succ] at hc20 hf20 hc21 hf21 hc22 hf22
      go_wp2
      clear hc20 hf20 hc21 hf21 hc22 hf22
      have hk := HX.keep3 2 rfl rfl rfl rfl (by omega) (.bool (sg (p + q))) (.slice A9 (dig (nu (p + q))).length c9) (.slice B9 (dig (p + q).den).length d9)
      replace HX := HX.put3 2 rfl (by omega) (by intro k q hk hne; match k, hk with | 0, hk => (simp at hk; subst hk; simp at hne ⊢; try omega) | 1, hk => (simp at hk; subst hk; simp at hne ⊢; try omega) | 2, hk => (simp at hk; subst hk; simp at hne ⊢; try omega) | 3, hk => (simp at hk; subst hk; simp at hne ⊢; try omega) | 4, hk => (simp at hk; subst hk; simp at hne ⊢; try omega) | 5, hk => (simp at hk; subst hk; simp at hne ⊢; try omega) | 6, hk => (simp at hk; subst hk; simp at hne ⊢; try omega) | k + 7, hk => simp at hk) (.bool (sg (p + q))) (.slice A9 (dig (nu (p + q))).length c9) (.slice B9 (dig (p + q).den).length d9)
      replace N9 := N9.stay hk
      replace D9 := D9.stay hk
      clear hk
      simp only [List.set_cons_zero, List.set_cons_succ] at HX
      have hc20 := HX.cell 2 0 rfl rfl
      have hc21 := HX.cell 2 1 rfl rfl
      have hc22 := HX.cell 2 2 rfl rfl
      try simp only [List.getElem_toArray, List.getElem_cons_zero, List.getElem_cons_succ] at hc20 hc21 hc22
      exact bodyPost_ret (v := .agg #[.bool (sg (p + q)), .slice A9 (dig (nu (p + q))).length c9, .slice B9 (dig (p + q).den).length d9]) (by simp [results, Tryz.results98, go_sem, hc20, hc21, hc22]) rfl ⟨A9, c9, B9, d9, rfl, N9, D9, HX.below⟩

set_option maxHeartbeats 4000000 in
set_option maxRecDepth 1000000 in
theorem qsub_any {s t : Bool} {A B A' B' : Option Addr} {n c m d n' c' m' d' : Nat} {p q : Rat} {k k' : Nat} (w : World) (h : Fr w s A n c B m d p k) (h' : Fr w t A' n' c' B' m' d' q k') (hk : k ≤ 67108840) (hk' : k' ≤ 67108840) :
    Calls Tryz.prog 65 #[.agg #[.bool s, .slice A n c, .slice B m d], .agg #[.bool t, .slice A' n' c', .slice B' m' d']] w (RetQ w (p - q)) := by
  have hsz : Sz (-q) (k' + 1) := h'.sz.neg
  rw [Rat.sub_eq_add_neg p q]
  go_enter Tryz.func65, Tryz.ntmps65
  go_wp2_with fail
  have HX := BL.three w #[.bool s, .slice A n c, .slice B m d] #[.bool t, .slice A' n' c', .slice B' m' d'] #[.bool false, .slice none 0 0, .slice none 0 0] 33 33 33
  replace h := h.ext HX.below
  replace h' := h'.ext HX.below
  generalize ((w.alloc (.cells #[.bool s, .slice A n c, .slice B m d] 33)).alloc (.cells #[.bool t, .slice A' n' c', .slice B' m' d'] 33)).alloc (.cells #[.bool false, .slice none 0 0, .slice none 0 0] 33) = W0 at *
  refine wp_region_x (al := []) (late := [4]) (dst := fun i => 0) (zt := fun _ => (#[], 0)) (B := W0.heap.size) (n := 4) (r := 1) (by kernel_rfl) (by kernel_rfl) (by decide) ?_ (by kernel_rfl) (by kernel_rfl) (by intro _ _ _ d _ h; cases d <;> exact h) (sz := 5) (by rfl) (by rfl) (Nat.le_refl _) ?_
  · intro i hi; cases hi
  have hE : Ext W0 W0.drew := drew_ext W0
  replace HX := HX.ext hE
  replace h := h.ext hE
  replace h' := h'.ext hE
  clear hE
  refine wpX_take (i := 0) (v := .agg #[.bool s, .slice A n c, .slice B m d]) rfl (by kernel_rfl) (by kernel_rfl) (by kernel_rfl) (fun _ _ _ h => h) (Or.inl ⟨by rfl, fun W hW => ?_⟩) ?_
  · have h0 := (HX.ext hW).cell 0 0 rfl rfl
    have h1 := (HX.ext hW).cell 0 1 rfl rfl
    have h2 := (HX.ext hW).cell 0 2 rfl rfl
    simp only [] at h0 h1 h2
    go_simp
    try rfl
  try simp only [Act.put, List.setIfInBounds_toArray]
  refine wpX_take (i := 1) (v := .agg #[.bool t, .slice A' n' c', .slice B' m' d']) rfl (by kernel_rfl) (by kernel_rfl) (by kernel_rfl) (fun _ _ _ h => h) (Or.inl ⟨by rfl, fun W hW => ?_⟩) ?_
  · have h0 := (HX.ext hW).cell 1 0 rfl rfl
    have h1 := (HX.ext hW).cell 1 1 rfl rfl
    have h2 := (HX.ext hW).cell 1 2 rfl rfl
    simp only [] at h0 h1 h2
    go_simp
    try rfl
  try simp only [Act.put]
  refine wpX_step (i := 2) (by kernel_rfl) rfl (fun W1 K hE hK => ?_)
  replace HX := HX.ext hE
  replace h := h.ext hE
  replace h' := h'.ext hE
  clear hE
  go_simp
  refine (qneg_any _ h' (by omega)).mono ?_
  rintro e W2 ⟨A1, c1, B1, d1, rfl, N1, D1, hb⟩
  go_wp2_with fail
  refine hK.out _ _ hb ?_
  clear hK K
  replace HX := HX.ext hb
  replace h := h.ext hb
  replace h' := h'.ext hb
  clear hb
  try simp only [Act.put, List.setIfInBounds_toArray, List.set_cons_zero, List.set_cons_succ]
  skip
  refine wpX_step (i := 3) (by kernel_rfl) rfl (fun W1 K hE hK => ?_)
  replace HX := HX.ext hE
  replace h := h.ext hE
  replace h' := h'.ext hE
  replace N1 := N1.ext hE
  replace D1 := D1.ext hE
  clear hE
  go_simp
  refine (qadd_any _ h (Fr.of N1 D1 hsz) (by omega) (by omega)).mono ?_
  rintro e W2 ⟨A9, c9, B9, d9, rfl, N9, D9, hb⟩
  go_wp2_with fail
  refine hK.out _ _ hb ?_
  clear hK K
  replace HX := HX.ext hb
  replace h := h.ext hb
  replace h' := h'.ext hb
  replace N1 := N1.ext hb
  replace D1 := D1.ext hb
  clear hb
  try simp only [Act.put, List.setIfInBounds_toArray, List.set_cons_zero, List.set_cons_succ]
  skip
  clear h h' N1 D1
  refine wpX_end (by kernel_rfl) (fun W1 ga m hE hg hm => ?_)
  replace HX := HX.ext hE
  replace N9 := N9.ext hE
  replace D9 := D9.ext hE
  clear hE
  clear hg
  simp only [putAll, setAll]
  clear ga
  have hc20 := HX.cell 2 0 rfl rfl
  have hf20 := HX.free 2 0 rfl
  have hc21 := HX.cell 2 1 rfl rfl
  have hf21 := HX.free 2 1 rfl
  have hc22 := HX.cell 2 2 rfl rfl
  have hf22 := HX.free 2 2 rfl
  try simp only [List.getElem_toArray, List.getElem_cons_zero, List.getElem_cons_succ] at hc20 hf20 hc21 hf21 hc22 hf22
  refine wpAny_step (i := 4) (by kernel_rfl) rfl (by omega) (fun K hK => ?_)
  go_simp
  refine hK.out _ _ ?_
  clear hK K
  clear hc20 hf20 hc21 hf21 hc22 hf22
  have hk := HX.keep3 2 rfl rfl rfl rfl (by omega) (.bool (sg (p + -q))) (.slice A9 (dig (nu (p + -q))).length c9) (.slice B9 (dig (p + -q).den).length d9)
  replace HX := HX.put3 2 rfl (by omega) (by intro k q hk hne; match k, hk with | 0, hk => (simp at hk; subst hk; simp at hne ⊢; try omega) | 1, hk => (simp at hk; subst hk; simp at hne ⊢; try omega) | 2, hk => (simp at hk; subst hk; simp at hne ⊢; try omega) | k + 3, hk => simp at hk) (.bool (sg (p + -q))) (.slice A9 (dig (nu (p + -q))).length c9) (.slice B9 (dig (p + -q).den).length d9)
  replace N9 := N9.stay hk
  replace D9 := D9.stay hk
  clear hk
  simp only [List.set_cons_zero, List.set_cons_succ] at HX
  refine wpAny_done (by kernel_rfl) ?_ _
  have hc20 := HX.cell 2 0 rfl rfl
  have hc21 := HX.cell 2 1 rfl rfl
  have hc22 := HX.cell 2 2 rfl rfl
  try simp only [List.getElem_toArray, List.getElem_cons_zero, List.getElem_cons_succ] at hc20 hc21 hc22
  go_wp2
  exact bodyPost_ret (v := .agg #[.bool (sg (p + -q)), .slice A9 (dig (nu (p + -q))).length c9, .slice B9 (dig (p + -q).den).length d9]) (by simp [results, Tryz.results65, go_sem, hc20, hc21, hc22]) rfl ⟨A9, c9, B9, d9, rfl, N9, D9, HX.below⟩

set_option maxHeartbeats 4000000 in
set_option maxRecDepth 1000000 in
theorem qcmp_any {s t : Bool} {A B A' B' : Option Addr} {n c m d n' c' m' d' : Nat} {p q : Rat} {k k' : Nat} (w : World) (h : Fr w s A n c B m d p k) (h' : Fr w t A' n' c' B' m' d' q k') (hk : k ≤ 16777216) (hk' : k' ≤ 16777216) :
    Calls Tryz.prog 58 #[.agg #[.bool s, .slice A n c, .slice B m d], .agg #[.bool t, .slice A' n' c', .slice B' m' d']] w fun e w' => e = .returned (.int .i64 (cmpQ p q)) ∧ Below w.heap.size w w' := by
  rw [cmpQ_sub]
  have hsz : Sz (p - q) (k + 1 + (k' + 1) + 1) := by rw [Rat.sub_eq_add_neg]; exact h.sz.add h'.sz.neg
  go_enter Tryz.func58, Tryz.ntmps58
  go_wp2_with fail
  have HX := BL.two w #[.bool s, .slice A n c, .slice B m d] #[.bool t, .slice A' n' c', .slice B' m' d'] 33 33
  refine (qsub_any _ (h.ext HX.below) (h'.ext HX.below) (by omega) (by omega)).mono ?_
  rintro e w1 ⟨A1, c1, B1, d1, rfl, N1, D1, hb⟩
  replace HX := HX.ext hb
  clear hb
  go_wp2_with fail
  refine (qsign_any _ (Fr.of N1 D1 hsz) (by omega)).mono ?_
  rintro e w2 ⟨rfl, hb⟩
  replace HX := HX.ext hb
  go_wp2
  go_ret
  exact ⟨rfl, HX.below⟩

end Go.Proofs.YthempimelfmipaaGreatDoor

namespace Go.Proofs.YthempimelfmipaaGreatDoor
open Go.RowKit Go.Proofs Go

section
variable {w : World} {s t : Bool} {A B A' B' : Option Addr} {n c m d n' c' m' d' : Nat} {p q u : Rat} {k k' j : Nat}
theorem qsub_r (hu : Hid (p - q = u)) (hs : Sz u j) (h : Fr w s A n c B m d p k) (h' : Fr w t A' n' c' B' m' d' q k') (hk : k ≤ 16777216) (hk' : k' ≤ 16777216) :
    Calls Tryz.prog 65 #[.agg #[.bool s, .slice A n c, .slice B m d], .agg #[.bool t, .slice A' n' c', .slice B' m' d']] w (RetG w u j) := (qsub_any w h h' (by omega) (by omega)).mono fun _ _ h => h.toF hu hs
theorem qmul_r (hu : Hid (p * q = u)) (hs : Sz u j) (h : Fr w s A n c B m d p k) (h' : Fr w t A' n' c' B' m' d' q k') (hk : k ≤ 16777216) (hk' : k' ≤ 16777216) :
    Calls Tryz.prog 68 #[.agg #[.bool s, .slice A n c, .slice B m d], .agg #[.bool t, .slice A' n' c', .slice B' m' d']] w (RetG w u j) := (qmul_any w h h' (by omega) (by omega)).mono fun _ _ h => h.toF hu hs
theorem qneg_r (hu : Hid (-p = u)) (hs : Sz u j) (h : Fr w s A n c B m d p k) (hk : k ≤ 16777216) :
    Calls Tryz.prog 67 #[.agg #[.bool s, .slice A n c, .slice B m d]] w (RetG w u j) := (qneg_any w h (by omega)).mono fun _ _ h => h.toF hu hs
theorem qsign_r {x : Int} (hu : Hid (sgn p = x)) (h : Fr w s A n c B m d p k) (hk : k ≤ 16777216) :
    Calls Tryz.prog 66 #[.agg #[.bool s, .slice A n c, .slice B m d]] w (RetI w x) := (qsign_any w h (by omega)).mono fun _ _ h => ⟨by rw [h.1, hu.out], h.2⟩
theorem qcmp_r {x : Int} (hu : Hid (cmpQ p q = x)) (h : Fr w s A n c B m d p k) (h' : Fr w t A' n' c' B' m' d' q k') (hk : k ≤ 16777216) (hk' : k' ≤ 16777216) :
    Calls Tryz.prog 58 #[.agg #[.bool s, .slice A n c, .slice B m d], .agg #[.bool t, .slice A' n' c', .slice B' m' d']] w (RetI w x) := (qcmp_any w h h' (by omega) (by omega)).mono fun _ _ h => ⟨by rw [h.1, hu.out], h.2⟩
end
end Go.Proofs.YthempimelfmipaaGreatDoor

namespace Go.Proofs.YthempimelfmipaaGreatDoor
open Go.RowKit Go.Proofs Go

theorem qofq {w : World} {u : Rat} {x y : Int} (hy : 0 < y) (hu : Hid (quo x y = u)) (hx1 : -1000000000 < x) (hx2 : x < 1000000000) (hy2 : y < 1000000000) : Calls Tryz.prog 63 #[.int .i64 x, .int .i64 y] w (RetG w u 1) :=
  qof_h (Lib.hid ((of_quo x hy).trans hu.out)) (hu.out ▸ quo_sz1 hx1 hx2 hy hy2) (by omega) (by omega) (by omega) (by omega)
set_option maxHeartbeats 2000000 in
set_option maxRecDepth 100000 in
theorem rcoef_no {ia fa ta ib fb tb : Int} (Aa Ab : Option Addr) (ca cb : Nat) (la lb : List (Int × Int)) (w : World) (HA : Es w Aa la) (HB : Es w Ab lb) (hla : la.length ≤ 9223372036854775807) (hlb : lb.length ≤ 9223372036854775807) (hn : ¬ (HV ia la fa ta ∧ HV ib lb fb tb)) :
    Calls Tryz.prog 28 #[.agg #[.int .i64 ia, .slice Aa la.length ca, .int .i64 fa, .int .i64 ta], .agg #[.int .i64 ib, .slice Ab lb.length cb, .int .i64 fb, .int .i64 tb]] w (RetZE w 1) := by
  by_cases va : HV ia la fa ta
  · have vb : ¬ HV ib lb fb tb := fun h => hn ⟨va, h⟩
    have YA := yes va
    have NB := no vb
    clear va vb hn
    go_enter Tryz.func28, Tryz.ntmps28
    go_wp2_with fail
    have HX := BL.three w #[.int .i64 ia, .slice Aa la.length ca, .int .i64 fa, .int .i64 ta] #[.int .i64 ib, .slice Ab lb.length cb, .int .i64 fb, .int .i64 tb] #[.bool false, .slice none 0 0, .slice none 0 0] 26 26 33
    replace HA := HA.ext HX.below
    replace HB := HB.ext HX.below
    refine (bhoard_any (b := true) Aa ca la _ HA hla YA).mono ?_
    rintro e w1 ⟨rfl, hb⟩
    replace HX := HX.ext hb
    replace HB := HB.ext hb
    clear hb
    have hc10 := HX.cell 1 0 rfl rfl
    have hc11 := HX.cell 1 1 rfl rfl
    have hc12 := HX.cell 1 2 rfl rfl
    have hc13 := HX.cell 1 3 rfl rfl
    try simp only [List.getElem_toArray, List.getElem_cons_zero, List.getElem_cons_succ] at hc10 hc11 hc12 hc13
    go_wp2_with fail
    refine (bhoard_any (b := false) Ab cb lb _ HB hlb NB).mono ?_
    rintro e w3 ⟨rfl, hb⟩
    clear hc10 hc11 hc12 hc13
    replace HX := HX.ext hb
    clear hb
    have hc20 := HX.cell 2 0 rfl rfl
    have hf20 := HX.free 2 0 rfl
    have hc21 := HX.cell 2 1 rfl rfl
    have hf21 := HX.free 2 1 rfl
    have hc22 := HX.cell 2 2 rfl rfl
    have hf22 := HX.free 2 2 rfl
    try simp only [List.getElem_toArray, List.getElem_cons_zero, List.getElem_cons_succ] at hc20 hf20 hc21 hf21 hc22 hf22
    go_wp2
    clear hc20 hf20 hc21 hf21 hc22 hf22
    replace HX := HX.put3 2 rfl (by omega) (by intro k q hk hne; match k, hk with | 0, hk => (simp at hk; subst hk; simp at hne ⊢; try omega) | 1, hk => (simp at hk; subst hk; simp at hne ⊢; try omega) | 2, hk => (simp at hk; subst hk; simp at hne ⊢; try omega) | k + 3, hk => simp at hk) (.bool false) (.slice none 0 0) (.slice none 0 0)
    simp only [List.set_cons_zero, List.set_cons_succ] at HX
    have hc20 := HX.cell 2 0 rfl rfl
    have hc21 := HX.cell 2 1 rfl rfl
    have hc22 := HX.cell 2 2 rfl rfl
    try simp only [List.getElem_toArray, List.getElem_cons_zero, List.getElem_cons_succ] at hc20 hc21 hc22
    exact bodyPost_ret (v := .tuple #[.agg #[.bool false, .slice none 0 0, .slice none 0 0], .int .i64 1]) (by simp [results, Tryz.results28, go_sem, hc20, hc21, hc22]) rfl ⟨rfl, HX.below⟩
  · have NA := no va
    clear va hn
    go_enter Tryz.func28, Tryz.ntmps28
    go_wp2_with fail
    have HX := BL.three w #[.int .i64 ia, .slice Aa la.length ca, .int .i64 fa, .int .i64 ta] #[.int .i64 ib, .slice Ab lb.length cb, .int .i64 fb, .int .i64 tb] #[.bool false, .slice none 0 0, .slice none 0 0] 26 26 33
    replace HA := HA.ext HX.below
    refine (bhoard_any (b := false) Aa ca la _ HA hla NA).mono ?_
    rintro e w1 ⟨rfl, hb⟩
    replace HX := HX.ext hb
    clear hb
    have hc20 := HX.cell 2 0 rfl rfl
    have hf20 := HX.free 2 0 rfl
    have hc21 := HX.cell 2 1 rfl rfl
    have hf21 := HX.free 2 1 rfl
    have hc22 := HX.cell 2 2 rfl rfl
    have hf22 := HX.free 2 2 rfl
    try simp only [List.getElem_toArray, List.getElem_cons_zero, List.getElem_cons_succ] at hc20 hf20 hc21 hf21 hc22 hf22
    go_wp2
    clear hc20 hf20 hc21 hf21 hc22 hf22
    replace HX := HX.put3 2 rfl (by omega) (by intro k q hk hne; match k, hk with | 0, hk => (simp at hk; subst hk; simp at hne ⊢; try omega) | 1, hk => (simp at hk; subst hk; simp at hne ⊢; try omega) | 2, hk => (simp at hk; subst hk; simp at hne ⊢; try omega) | k + 3, hk => simp at hk) (.bool false) (.slice none 0 0) (.slice none 0 0)
    simp only [List.set_cons_zero, List.set_cons_succ] at HX
    have hc20 := HX.cell 2 0 rfl rfl
    have hc21 := HX.cell 2 1 rfl rfl
    have hc22 := HX.cell 2 2 rfl rfl
    try simp only [List.getElem_toArray, List.getElem_cons_zero, List.getElem_cons_succ] at hc20 hc21 hc22
    exact bodyPost_ret (v := .tuple #[.agg #[.bool false, .slice none 0 0, .slice none 0 0], .int .i64 1]) (by simp [results, Tryz.results28, go_sem, hc20, hc21, hc22]) rfl ⟨rfl, HX.below⟩
set_option maxHeartbeats 8000000 in
set_option maxRecDepth 100000 in
theorem rcoef_any {ia fa ta ib fb tb : Int} (Aa Ab : Option Addr) (ca cb : Nat) (la lb : List (Int × Int)) (w : World) (HA : Es w Aa la) (HB : Es w Ab lb) (hla : la.length ≤ 9223372036854775807) (hlb : lb.length ≤ 9223372036854775807) (va : HV ia la fa ta) (vb : HV ib lb fb tb) {u : Rat} (hu : Hid (coD la lb 99 = u)) :
    Calls Tryz.prog 28 #[.agg #[.int .i64 ia, .slice Aa la.length ca, .int .i64 fa, .int .i64 ta], .agg #[.int .i64 ib, .slice Ab lb.length cb, .int .i64 fb, .int .i64 tb]] w (RetGE w u 2) := by
  have hpa := va.pos
  have hpb := vb.pos
  have VA := Lib.hid va
  have VB := Lib.hid vb
  have YA := yes va
  have YB := yes vb
  obtain ⟨q0, hq0⟩ : ∃ q, Hid (coD la lb 0 = q) := ⟨_, Lib.hid rfl⟩
  have HO0 : Hid (quo 200 1 = q0) := Lib.hid ((coD_start (by omega) (by omega)).symm.trans hq0.out)
  obtain ⟨o1, HO1⟩ : ∃ o, Hid (quo 100 1 = o) := ⟨_, Lib.hid rfl⟩
  clear va vb
  have HWA := HA
  have HWB := HB
  go_enter Tryz.func28, Tryz.ntmps28
  go_wp2_with fail
  have HX := BL.three w #[.int .i64 ia, .slice Aa la.length ca, .int .i64 fa, .int .i64 ta] #[.int .i64 ib, .slice Ab lb.length cb, .int .i64 fb, .int .i64 tb] #[.bool false, .slice none 0 0, .slice none 0 0] 26 26 33
  replace HA := HA.ext HX.below
  replace HB := HB.ext HX.below
  refine (bhoard_any (b := true) Aa ca la _ HA hla YA).mono ?_
  rintro e w1 ⟨rfl, hb⟩
  replace HX := HX.ext hb
  replace HB := HB.ext hb
  clear hb
  have hc10 := HX.cell 1 0 rfl rfl
  have hc11 := HX.cell 1 1 rfl rfl
  have hc12 := HX.cell 1 2 rfl rfl
  have hc13 := HX.cell 1 3 rfl rfl
  try simp only [List.getElem_toArray, List.getElem_cons_zero, List.getElem_cons_succ] at hc10 hc11 hc12 hc13
  go_wp2_with fail
  refine (bhoard_any (b := true) Ab cb lb _ HB hlb YB).mono ?_
  rintro e w2 ⟨rfl, hb⟩
  clear hc10 hc11 hc12 hc13
  replace HX := HX.ext hb
  clear hb
  clear HA HB
  go_wp2_with fail
  refine (qofq (by decide) HO0 (by decide) (by decide) (by decide)).mono ?_
  rintro e w2 ⟨A3, c3, B3, d3, rfl, F3, hb⟩
  replace HX := HX.ext hb
  clear hb
  replace F3 : Fc w2 A3 c3 B3 d3 q0 2 := ⟨F3.num, F3.den, hq0.out ▸ coD_sz VA.out VB.out (by omega)⟩
  go_upto_region 4 with fail
  have hlg30 := HX.lt 0 rfl
  simp only [] at hlg30
  have hlg31 := HX.lt 1 rfl
  simp only [] at hlg31
  have hlg32 := HX.lt 2 rfl
  simp only [] at hlg32
  have hb := below_alloc w2 (.cells #[.bool (sg q0), .slice A3 (dig (nu q0)).length c3, .slice B3 (dig q0.den).length d3] 33)
  replace HX := HX.new #[.bool (sg q0), .slice A3 (dig (nu q0)).length c3, .slice B3 (dig q0.den).length d3] 33
  simp only [List.cons_append, List.nil_append] at HX
  replace F3 := F3.ext hb
  clear hb
  generalize w2.alloc (.cells #[.bool (sg q0), .slice A3 (dig (nu q0)).length c3, .slice B3 (dig q0.den).length d3] 33) = V3 at *
  generalize w2.heap.size = g3 at *
  go_wp2
  go_loopg [7] 99 (fun kk v wr => ∃ (k : Nat) (q : Rat) (A3 B3 : Option Addr) (c3 d3 : Nat), k + kk = 99 ∧ v = .int .i64 ((k : Int) + 1) ∧ Hid (coD la lb k = q) ∧ Fc wr A3 c3 B3 d3 q 2 ∧ BL w wr [(w.heap.size, #[.int .i64 ia, .slice Aa la.length ca, .int .i64 fa, .int .i64 ta], 26), (w.heap.size + 1, #[.int .i64 ib, .slice Ab lb.length cb, .int .i64 fb, .int .i64 tb], 26), (w.heap.size + 2, #[.bool false, .slice none 0 0, .slice none 0 0], 33), (g3, #[.bool (sg q), .slice A3 (dig (nu q)).length c3, .slice B3 (dig q.den).length d3], 33)])
  case atStart => exact ⟨0, q0, A3, B3, c3, d3, rfl, rfl, hq0, F3, HX⟩
  case round =>
    clear HX F3 hq0 HO0
    obtain ⟨k, q, A3, B3, c3, d3, hk, rfl, HQ, F3, HX⟩ := hrel
    by_cases hk0 : k < 99
    · have HA : Es wr Aa la := HWA.ext HX.below
      have HB : Es wr Ab lb := HWB.ext HX.below
      obtain ⟨q2, HQ2⟩ : ∃ q, Hid (shq la ((k : Int) + 1) = q) := ⟨_, Lib.hid rfl⟩
      obtain ⟨q3, HQ3⟩ : ∃ q, Hid (shq lb ((k : Int) + 1) = q) := ⟨_, Lib.hid rfl⟩
      obtain ⟨q4, HQ4⟩ : ∃ q, Hid (q2 - q3 = q) := ⟨_, Lib.hid rfl⟩
      have hq4 : Hid (quo (numE la ((k : Int) + 1) * totE lb - numE lb ((k : Int) + 1) * totE la) (totE la * totE lb) = q4) := Lib.hid (by rw [← HQ4.out, ← HQ2.out, ← HQ3.out, dif_quo (by omega) (by omega) (VA.out.nn _).1 (VB.out.nn _).1])
      have htt := tots VA.out VB.out
      have hdb := dif_bd VA.out VB.out ((k : Int) + 1)
      have z4 : Sz q4 2 := hq4.out ▸ quo_sz (by omega) (by omega) (by omega) (by omega)
      obtain ⟨q5, hq5⟩ : ∃ q, Hid (quo (difT la lb ((k : Int) + 1)) (totE la * totE lb) = q) := ⟨_, Lib.hid rfl⟩
      have z5 : Sz q5 2 := hq5.out ▸ quo_sz (by omega) (by omega) (by omega) (by omega)
      obtain ⟨q6, HM6⟩ : ∃ q, Hid (o1 * q5 = q) := ⟨_, Lib.hid rfl⟩
      have z6 : Sz q6 2 := by
        rw [← HM6.out, ← hq5.out, ← HO1.out, quo_mul _ _ (by omega) (by omega), Int.one_mul]
        exact quo_sz (by omega) (by omega) (by omega) (by omega)
      obtain ⟨q7, HQ7⟩ : ∃ q, Hid (coD la lb (k + 1) = q) := ⟨_, Lib.hid rfl⟩
      have z7 : Sz q7 2 := HQ7.out ▸ coD_sz VA.out VB.out (by omega)
      have HA7 : Hid (q - q6 = q7) := Lib.hid (by
        have e := coD_step (a := la) (b := lb) (by omega) (by omega) k
        rw [HQ7.out, HQ.out, ← quo_neg, hq5.out, HO1.out] at e
        rw [e, ← HM6.out]; grind)
      obtain ⟨x, HS⟩ : ∃ x, Hid (sgn q4 = x) := ⟨_, Lib.hid rfl⟩
      have hcase : Hid ((x < 0 ∧ -q4 = q5) ∨ (0 ≤ x ∧ q4 = q5)) := Lib.hid (by
        have h1 := HS.out
        rw [← hq4.out, sgn_quo _ (by omega)] at h1
        by_cases hN : numE la ((k : Int) + 1) * totE lb - numE lb ((k : Int) + 1) * totE la < 0
        · rw [if_pos hN] at h1
          refine .inl ⟨by omega, ?_⟩
          rw [← hq4.out, ← hq5.out, quo_neg, difT, mag, if_pos hN]
        · refine .inr ⟨by split at h1 <;> (try split at h1) <;> omega, ?_⟩
          rw [← hq4.out, ← hq5.out, difT, mag, if_neg hN])
      clear htt hdb hq4 hq5 HQ
      have hi1 : (1 : Int) ≤ (k : Int) + 1 := by omega
      have hi2 : (k : Int) + 1 ≤ 99 := by omega
      generalize wr = V5 at *
      have hc00 := HX.cell 0 0 rfl rfl
      have hc01 := HX.cell 0 1 rfl rfl
      have hc02 := HX.cell 0 2 rfl rfl
      have hc03 := HX.cell 0 3 rfl rfl
      try simp only [List.getElem_toArray, List.getElem_cons_zero, List.getElem_cons_succ] at hc00 hc01 hc02 hc03
      go_wp2_with fail
      refine (rshare_yes Aa ca la _ HA hla VA.out HQ2).mono ?_
      rintro e w6 ⟨A6, c6, B6, d6, rfl, F6, hb⟩
      clear hc00 hc01 hc02 hc03
      replace HX := HX.ext hb
      replace HB := HB.ext hb
      replace F3 := F3.ext hb
      clear hb
      go_upto_region 8 with fail
      have hlg60 := HX.lt 0 rfl
      simp only [] at hlg60
      have hlg61 := HX.lt 1 rfl
      simp only [] at hlg61
      have hlg62 := HX.lt 2 rfl
      simp only [] at hlg62
      have hlg63 := HX.lt 3 rfl
      simp only [] at hlg63
      have hb := below_alloc w6 (.cells #[.bool (sg q2), .slice A6 (dig (nu q2)).length c6, .slice B6 (dig q2.den).length d6] 33)
      replace HX := HX.new #[.bool (sg q2), .slice A6 (dig (nu q2)).length c6, .slice B6 (dig q2.den).length d6] 33
      simp only [List.cons_append, List.nil_append] at HX
      replace HB := HB.ext hb
      replace F3 := F3.ext hb
      replace F6 := F6.ext hb
      clear hb
      generalize w6.alloc (.cells #[.bool (sg q2), .slice A6 (dig (nu q2)).length c6, .slice B6 (dig q2.den).length d6] 33) = V6 at *
      generalize w6.heap.size = g6 at *
      have hc10 := HX.cell 1 0 rfl rfl
      have hc11 := HX.cell 1 1 rfl rfl
      have hc12 := HX.cell 1 2 rfl rfl
      have hc13 := HX.cell 1 3 rfl rfl
      try simp only [List.getElem_toArray, List.getElem_cons_zero, List.getElem_cons_succ] at hc10 hc11 hc12 hc13
      go_wp2_with fail
      refine (rshare_yes Ab cb lb _ HB hlb VB.out HQ3).mono ?_
      rintro e w7 ⟨A7, c7, B7, d7, rfl, F7, hb⟩
      clear hc10 hc11 hc12 hc13
      replace HX := HX.ext hb
      replace F3 := F3.ext hb
      replace F6 := F6.ext hb
      clear hb
      go_upto_region 9 with fail
      have hlg70 := HX.lt 0 rfl
      simp only [] at hlg70
      have hlg71 := HX.lt 1 rfl
      simp only [] at hlg71
      have hlg72 := HX.lt 2 rfl
      simp only [] at hlg72
      have hlg73 := HX.lt 3 rfl
      simp only [] at hlg73
      have hlg74 := HX.lt 4 rfl
      simp only [] at hlg74
      have hb := below_alloc w7 (.cells #[.bool (sg q3), .slice A7 (dig (nu q3)).length c7, .slice B7 (dig q3.den).length d7] 33)
      replace HX := HX.new #[.bool (sg q3), .slice A7 (dig (nu q3)).length c7, .slice B7 (dig q3.den).length d7] 33
      simp only [List.cons_append, List.nil_append] at HX
      replace F3 := F3.ext hb
      replace F6 := F6.ext hb
      replace F7 := F7.ext hb
      clear hb
      generalize w7.alloc (.cells #[.bool (sg q3), .slice A7 (dig (nu q3)).length c7, .slice B7 (dig q3.den).length d7] 33) = V7 at *
      generalize w7.heap.size = g7 at *
      have hc40 := HX.cell 4 0 rfl rfl
      have hc41 := HX.cell 4 1 rfl rfl
      have hc42 := HX.cell 4 2 rfl rfl
      try simp only [List.getElem_toArray, List.getElem_cons_zero, List.getElem_cons_succ] at hc40 hc41 hc42
      have hc50 := HX.cell 5 0 rfl rfl
      have hc51 := HX.cell 5 1 rfl rfl
      have hc52 := HX.cell 5 2 rfl rfl
      try simp only [List.getElem_toArray, List.getElem_cons_zero, List.getElem_cons_succ] at hc50 hc51 hc52
      go_wp2_with fail
      refine (qsub_r HQ4 z4 F6.fr F7.fr (by omega) (by omega)).mono ?_
      rintro e w8 ⟨A8, c8, B8, d8, rfl, F8, hb⟩
      clear F6 F7 HA HB
      clear hc40 hc41 hc42
      clear hc50 hc51 hc52
      replace HX := HX.ext hb
      replace F3 := F3.ext hb
      clear hb
      go_upto_region 10 with fail
      have hlg80 := HX.lt 0 rfl
      simp only [] at hlg80
      have hlg81 := HX.lt 1 rfl
      simp only [] at hlg81
      have hlg82 := HX.lt 2 rfl
      simp only [] at hlg82
      have hlg83 := HX.lt 3 rfl
      simp only [] at hlg83
      have hlg84 := HX.lt 4 rfl
      simp only [] at hlg84
      have hlg85 := HX.lt 5 rfl
      simp only [] at hlg85
      have hb := below_alloc w8 (.cells #[.bool (sg q4), .slice A8 (dig (nu q4)).length c8, .slice B8 (dig q4.den).length d8] 33)
      replace HX := HX.new #[.bool (sg q4), .slice A8 (dig (nu q4)).length c8, .slice B8 (dig q4.den).length d8] 33
      simp only [List.cons_append, List.nil_append] at HX
      replace F3 := F3.ext hb
      replace F8 := F8.ext hb
      clear hb
      generalize w8.alloc (.cells #[.bool (sg q4), .slice A8 (dig (nu q4)).length c8, .slice B8 (dig q4.den).length d8] 33) = V8 at *
      generalize w8.heap.size = g8 at *
      have hc60 := HX.cell 6 0 rfl rfl
      have hc61 := HX.cell 6 1 rfl rfl
      have hc62 := HX.cell 6 2 rfl rfl
      try simp only [List.getElem_toArray, List.getElem_cons_zero, List.getElem_cons_succ] at hc60 hc61 hc62
      go_wp2_with fail
      refine (qsign_r HS F8.fr (by omega)).mono ?_
      rintro e w9 ⟨rfl, hb⟩
      clear hc60 hc61 hc62
      replace HX := HX.ext hb
      replace F3 := F3.ext hb
      replace F8 := F8.ext hb
      clear hb
      rcases hcase.out with ⟨hx, hn⟩ | ⟨hx, rfl⟩
      · have HN := Lib.hid hn
        have hdx : decide (x < 0) = true := decide_eq_true hx
        clear hn hcase
        have hc60 := HX.cell 6 0 rfl rfl
        have hf60 := HX.free 6 0 rfl
        have hc61 := HX.cell 6 1 rfl rfl
        have hf61 := HX.free 6 1 rfl
        have hc62 := HX.cell 6 2 rfl rfl
        have hf62 := HX.free 6 2 rfl
        try simp only [List.getElem_toArray, List.getElem_cons_zero, List.getElem_cons_succ] at hc60 hf60 hc61 hf61 hc62 hf62
        go_wp2_with fail
        refine (qneg_r HN z5 F8.fr (by omega)).mono ?_
        rintro e w10 ⟨A9, c9, B9, d9, rfl, F9, hb⟩
        clear F8
        clear hc60 hf60 hc61 hf61 hc62 hf62
        replace HX := HX.ext hb
        replace F3 := F3.ext hb
        clear hb
        have hc60 := HX.cell 6 0 rfl rfl
        have hf60 := HX.free 6 0 rfl
        have hc61 := HX.cell 6 1 rfl rfl
        have hf61 := HX.free 6 1 rfl
        have hc62 := HX.cell 6 2 rfl rfl
        have hf62 := HX.free 6 2 rfl
        try simp only [List.getElem_toArray, List.getElem_cons_zero, List.getElem_cons_succ] at hc60 hf60 hc61 hf61 hc62 hf62
        go_upto_region 12 with fail
        clear hc60 hf60 hc61 hf61 hc62 hf62
        have hl0 := HX.lt 0 rfl
        have hl1 := HX.lt 1 rfl
        have hl2 := HX.lt 2 rfl
        have hl3 := HX.lt 3 rfl
        have hl4 := HX.lt 4 rfl
        have hl5 := HX.lt 5 rfl
        have hl6 := HX.lt 6 rfl
        simp only [] at hl0 hl1 hl2 hl3 hl4 hl5 hl6
        have hk := HX.keep3 6 rfl rfl rfl rfl (by omega) (.bool (sg q5)) (.slice A9 (dig (nu q5)).length c9) (.slice B9 (dig q5.den).length d9)
        replace HX := HX.put3 6 rfl (by omega) (by intro k q hk hne; match k, hk with | 0, hk => (simp at hk; subst hk; simp at hne ⊢; try omega) | 1, hk => (simp at hk; subst hk; simp at hne ⊢; try omega) | 2, hk => (simp at hk; subst hk; simp at hne ⊢; try omega) | 3, hk => (simp at hk; subst hk; simp at hne ⊢; try omega) | 4, hk => (simp at hk; subst hk; simp at hne ⊢; try omega) | 5, hk => (simp at hk; subst hk; simp at hne ⊢; try omega) | 6, hk => (simp at hk; subst hk; simp at hne ⊢; try omega) | k + 7, hk => simp at hk) (.bool (sg q5)) (.slice A9 (dig (nu q5)).length c9) (.slice B9 (dig q5.den).length d9)
        replace F9 := F9.stay hk
        replace F3 := F3.stay hk
        clear hk
        simp only [List.set_cons_zero, List.set_cons_succ] at HX
        generalize ((w10.setCell ⟨g8, 0, none⟩ (.bool (sg q5))).setCell ⟨g8, 1, none⟩ (.slice A9 (dig (nu q5)).length c9)).setCell ⟨g8, 2, none⟩ (.slice B9 (dig q5.den).length d9) = V9 at *
        refine wp_region_x (al := []) (late := [5]) (dst := fun i => 0) (zt := fun _ => (#[], 0)) (B := V9.heap.size) (n := 5) (r := 1) (by kernel_rfl) (by kernel_rfl) (by decide) ?_ (by kernel_rfl) (by kernel_rfl) (by intro _ _ _ d _ h; cases d <;> exact h) (sz := 6) (by rfl) (by rfl) (Nat.le_refl _) ?_
        · intro i hi; cases hi
        have hE : Ext V9 V9.drew := drew_ext V9
        replace HX := HX.ext hE
        replace F3 := F3.ext hE
        replace F9 := F9.ext hE
        clear hE
        refine wpX_take (i := 0) (v := .agg #[.bool (sg q), .slice A3 (dig (nu q)).length c3, .slice B3 (dig q.den).length d3]) rfl (by kernel_rfl) (by kernel_rfl) (by kernel_rfl) (fun _ _ _ h => h) (Or.inl ⟨by rfl, fun W hW => ?_⟩) ?_
        · have h0 := (HX.ext hW).cell 3 0 rfl rfl
          have h1 := (HX.ext hW).cell 3 1 rfl rfl
          have h2 := (HX.ext hW).cell 3 2 rfl rfl
          simp only [] at h0 h1 h2
          go_simp
          try rfl
        try simp only [Act.put, List.setIfInBounds_toArray]
        refine wpX_take (i := 2) (v := .agg #[.bool (sg q5), .slice A9 (dig (nu q5)).length c9, .slice B9 (dig q5.den).length d9]) rfl (by kernel_rfl) (by kernel_rfl) (by kernel_rfl) (fun _ _ _ h => h) (Or.inl ⟨by rfl, fun W hW => ?_⟩) ?_
        · have h0 := (HX.ext hW).cell 6 0 rfl rfl
          have h1 := (HX.ext hW).cell 6 1 rfl rfl
          have h2 := (HX.ext hW).cell 6 2 rfl rfl
          simp only [] at h0 h1 h2
          go_simp
          try rfl
        try simp only [Act.put]
        refine wpX_step (i := 1) (by kernel_rfl) rfl (fun W1 K hE hK => ?_)
        replace HX := HX.ext hE
        replace F3 := F3.ext hE
        replace F9 := F9.ext hE
        clear hE
        go_simp
        refine (qofq (by decide) HO1 (by decide) (by decide) (by decide)).mono ?_
        rintro e W2 ⟨A10, c10, B10, d10, rfl, F10, hb⟩
        go_wp2_with fail
        refine hK.out _ _ hb ?_
        clear hK K
        replace HX := HX.ext hb
        replace F3 := F3.ext hb
        replace F9 := F9.ext hb
        clear hb
        try simp only [Act.put, List.setIfInBounds_toArray, List.set_cons_zero, List.set_cons_succ]
        skip
        refine wpX_step (i := 3) (by kernel_rfl) rfl (fun W1 K hE hK => ?_)
        replace HX := HX.ext hE
        replace F3 := F3.ext hE
        replace F9 := F9.ext hE
        replace F10 := F10.ext hE
        clear hE
        go_simp
        refine (qmul_r HM6 z6 F10.fr F9.fr (by omega) (by omega)).mono ?_
        rintro e W2 ⟨A11, c11, B11, d11, rfl, F11, hb⟩
        go_wp2_with fail
        refine hK.out _ _ hb ?_
        clear hK K
        replace HX := HX.ext hb
        replace F3 := F3.ext hb
        replace F9 := F9.ext hb
        replace F10 := F10.ext hb
        clear hb
        try simp only [Act.put, List.setIfInBounds_toArray, List.set_cons_zero, List.set_cons_succ]
        skip
        refine wpX_step (i := 4) (by kernel_rfl) rfl (fun W1 K hE hK => ?_)
        replace HX := HX.ext hE
        replace F3 := F3.ext hE
        replace F9 := F9.ext hE
        replace F10 := F10.ext hE
        replace F11 := F11.ext hE
        clear hE
        go_simp
        refine (qsub_r HA7 z7 F3.fr F11.fr (by omega) (by omega)).mono ?_
        rintro e W2 ⟨A12, c12, B12, d12, rfl, F12, hb⟩
        go_wp2_with fail
        refine hK.out _ _ hb ?_
        clear hK K
        replace HX := HX.ext hb
        replace F3 := F3.ext hb
        replace F9 := F9.ext hb
        replace F10 := F10.ext hb
        replace F11 := F11.ext hb
        clear hb
        try simp only [Act.put, List.setIfInBounds_toArray, List.set_cons_zero, List.set_cons_succ]
        skip
        clear F3 F9 F10 F11
        refine wpX_end (by kernel_rfl) (fun W12 ga m hE hg hm => ?_)
        replace HX := HX.ext hE
        replace F12 := F12.ext hE
        clear hE
        clear hg
        simp only [putAll, setAll]
        clear ga
        have hc30 := HX.cell 3 0 rfl rfl
        have hf30 := HX.free 3 0 rfl
        have hc31 := HX.cell 3 1 rfl rfl
        have hf31 := HX.free 3 1 rfl
        have hc32 := HX.cell 3 2 rfl rfl
        have hf32 := HX.free 3 2 rfl
        try simp only [List.getElem_toArray, List.getElem_cons_zero, List.getElem_cons_succ] at hc30 hf30 hc31 hf31 hc32 hf32
        refine wpAny_step (i := 5) (by kernel_rfl) rfl (by omega) (fun K hK => ?_)
        go_simp
        refine hK.out _ _ ?_
        clear hK K
        clear hc30 hf30 hc31 hf31 hc32 hf32
        have hk := HX.keep3 3 rfl rfl rfl rfl (by omega) (.bool (sg q7)) (.slice A12 (dig (nu q7)).length c12) (.slice B12 (dig q7.den).length d12)
        replace HX := HX.put3 3 rfl (by omega) (by intro k q hk hne; match k, hk with | 0, hk => (simp at hk; subst hk; simp at hne ⊢; try omega) | 1, hk => (simp at hk; subst hk; simp at hne ⊢; try omega) | 2, hk => (simp at hk; subst hk; simp at hne ⊢; try omega) | 3, hk => (simp at hk; subst hk; simp at hne ⊢; try omega) | 4, hk => (simp at hk; subst hk; simp at hne ⊢; try omega) | 5, hk => (simp at hk; subst hk; simp at hne ⊢; try omega) | 6, hk => (simp at hk; subst hk; simp at hne ⊢; try omega) | k + 7, hk => simp at hk) (.bool (sg q7)) (.slice A12 (dig (nu q7)).length c12) (.slice B12 (dig q7.den).length d12)
        replace F12 := F12.stay hk
        clear hk
        simp only [List.set_cons_zero, List.set_cons_succ] at HX
        refine wpAny_done (by kernel_rfl) ?_ _
        generalize ((W12.setCell ⟨g3, 0, none⟩ (.bool (sg q7))).setCell ⟨g3, 1, none⟩ (.slice A12 (dig (nu q7)).length c12)).setCell ⟨g3, 2, none⟩ (.slice B12 (dig q7.den).length d12) = W13 at *
        replace HX := HX.front 4
        simp only [List.take_succ_cons, List.take_zero] at HX
        go_wp2
        go_roundg (99 - (k + 1))
        case measure => omega
        case rel => exact ⟨k + 1, q7, A12, B12, c12, d12, by omega, by go_num, HQ7, F12, HX⟩
      · have hdx : decide (x < 0) = false := decide_eq_false (by omega)
        clear hcase
        go_upto_region 12 with fail
        generalize w9 = V9 at *
        refine wp_region_x (al := []) (late := [5]) (dst := fun i => 0) (zt := fun _ => (#[], 0)) (B := V9.heap.size) (n := 5) (r := 1) (by kernel_rfl) (by kernel_rfl) (by decide) ?_ (by kernel_rfl) (by kernel_rfl) (by intro _ _ _ d _ h; cases d <;> exact h) (sz := 6) (by rfl) (by rfl) (Nat.le_refl _) ?_
        · intro i hi; cases hi
        have hE : Ext V9 V9.drew := drew_ext V9
        replace HX := HX.ext hE
        replace F3 := F3.ext hE
        replace F8 := F8.ext hE
        clear hE
        refine wpX_take (i := 0) (v := .agg #[.bool (sg q), .slice A3 (dig (nu q)).length c3, .slice B3 (dig q.den).length d3]) rfl (by kernel_rfl) (by kernel_rfl) (by kernel_rfl) (fun _ _ _ h => h) (Or.inl ⟨by rfl, fun W hW => ?_⟩) ?_
        · have h0 := (HX.ext hW).cell 3 0 rfl rfl
          have h1 := (HX.ext hW).cell 3 1 rfl rfl
          have h2 := (HX.ext hW).cell 3 2 rfl rfl
          simp only [] at h0 h1 h2
          go_simp
          try rfl
        try simp only [Act.put, List.setIfInBounds_toArray]
        refine wpX_take (i := 2) (v := .agg #[.bool (sg q4), .slice A8 (dig (nu q4)).length c8, .slice B8 (dig q4.den).length d8]) rfl (by kernel_rfl) (by kernel_rfl) (by kernel_rfl) (fun _ _ _ h => h) (Or.inl ⟨by rfl, fun W hW => ?_⟩) ?_
        · have h0 := (HX.ext hW).cell 6 0 rfl rfl
          have h1 := (HX.ext hW).cell 6 1 rfl rfl
          have h2 := (HX.ext hW).cell 6 2 rfl rfl
          simp only [] at h0 h1 h2
          go_simp
          try rfl
        try simp only [Act.put]
        refine wpX_step (i := 1) (by kernel_rfl) rfl (fun W1 K hE hK => ?_)
        replace HX := HX.ext hE
        replace F3 := F3.ext hE
        replace F8 := F8.ext hE
        clear hE
        go_simp
        refine (qofq (by decide) HO1 (by decide) (by decide) (by decide)).mono ?_
        rintro e W2 ⟨A10, c10, B10, d10, rfl, F10, hb⟩
        go_wp2_with fail
        refine hK.out _ _ hb ?_
        clear hK K
        replace HX := HX.ext hb
        replace F3 := F3.ext hb
        replace F8 := F8.ext hb
        clear hb
        try simp only [Act.put, List.setIfInBounds_toArray, List.set_cons_zero, List.set_cons_succ]
        skip
        refine wpX_step (i := 3) (by kernel_rfl) rfl (fun W1 K hE hK => ?_)
        replace HX := HX.ext hE
        replace F3 := F3.ext hE
        replace F8 := F8.ext hE
        replace F10 := F10.ext hE
        clear hE
        go_simp
        refine (qmul_r HM6 z6 F10.fr F8.fr (by omega) (by omega)).mono ?_
        rintro e W2 ⟨A11, c11, B11, d11, rfl, F11, hb⟩
        go_wp2_with fail
        refine hK.out _ _ hb ?_
        clear hK K
        replace HX := HX.ext hb
        replace F3 := F3.ext hb
        replace F8 := F8.ext hb
        replace F10 := F10.ext hb
        clear hb
        try simp only [Act.put, List.setIfInBounds_toArray, List.set_cons_zero, List.set_cons_succ]
        skip
        refine wpX_step (i := 4) (by kernel_rfl) rfl (fun W1 K hE hK => ?_)
        replace HX := HX.ext hE
        replace F3 := F3.ext hE
        replace F8 := F8.ext hE
        replace F10 := F10.ext hE
        replace F11 := F11.ext hE
        clear hE
        go_simp
        refine (qsub_r HA7 z7 F3.fr F11.fr (by omega) (by omega)).mono ?_
        rintro e W2 ⟨A12, c12, B12, d12, rfl, F12, hb⟩
        go_wp2_with fail
        refine hK.out _ _ hb ?_
        clear hK K
        replace HX := HX.ext hb
        replace F3 := F3.ext hb
        replace F8 := F8.ext hb
        replace F10 := F10.ext hb
        replace F11 := F11.ext hb
        clear hb
        try simp only [Act.put, List.setIfInBounds_toArray, List.set_cons_zero, List.set_cons_succ]
        skip
        clear F3 F8 F10 F11
        refine wpX_end (by kernel_rfl) (fun W12 ga m hE hg hm => ?_)
        replace HX := HX.ext hE
        replace F12 := F12.ext hE
        clear hE
        clear hg
        simp only [putAll, setAll]
        clear ga
        have hc30 := HX.cell 3 0 rfl rfl
        have hf30 := HX.free 3 0 rfl
        have hc31 := HX.cell 3 1 rfl rfl
        have hf31 := HX.free 3 1 rfl
        have hc32 := HX.cell 3 2 rfl rfl
        have hf32 := HX.free 3 2 rfl
        try simp only [List.getElem_toArray, List.getElem_cons_zero, List.getElem_cons_succ] at hc30 hf30 hc31 hf31 hc32 hf32
        refine wpAny_step (i := 5) (by kernel_rfl) rfl (by omega) (fun K hK => ?_)
        go_simp
        refine hK.out _ _ ?_
        clear hK K
        clear hc30 hf30 hc31 hf31 hc32 hf32
        have hk := HX.keep3 3 rfl rfl rfl rfl (by omega) (.bool (sg q7)) (.slice A12 (dig (nu q7)).length c12) (.slice B12 (dig q7.den).length d12)
        replace HX := HX.put3 3 rfl (by omega) (by intro k q hk hne; match k, hk with | 0, hk => (simp at hk; subst hk; simp at hne ⊢; try omega) | 1, hk => (simp at hk; subst hk; simp at hne ⊢; try omega) | 2, hk => (simp at hk; subst hk; simp at hne ⊢; try omega) | 3, hk => (simp at hk; subst hk; simp at hne ⊢; try omega) | 4, hk => (simp at hk; subst hk; simp at hne ⊢; try omega) | 5, hk => (simp at hk; subst hk; simp at hne ⊢; try omega) | 6, hk => (simp at hk; subst hk; simp at hne ⊢; try omega) | k + 7, hk => simp at hk) (.bool (sg q7)) (.slice A12 (dig (nu q7)).length c12) (.slice B12 (dig q7.den).length d12)
        replace F12 := F12.stay hk
        clear hk
        simp only [List.set_cons_zero, List.set_cons_succ] at HX
        refine wpAny_done (by kernel_rfl) ?_ _
        generalize ((W12.setCell ⟨g3, 0, none⟩ (.bool (sg q7))).setCell ⟨g3, 1, none⟩ (.slice A12 (dig (nu q7)).length c12)).setCell ⟨g3, 2, none⟩ (.slice B12 (dig q7.den).length d12) = W13 at *
        replace HX := HX.front 4
        simp only [List.take_succ_cons, List.take_zero] at HX
        go_wp2
        go_roundg (99 - (k + 1))
        case measure => omega
        case rel => exact ⟨k + 1, q7, A12, B12, c12, d12, by omega, by go_num, HQ7, F12, HX⟩
    · obtain rfl : k = 99 := by omega
      obtain rfl : q = u := by rw [← HQ.out, hu.out]
      have hl0 := HX.lt 0 rfl
      have hl1 := HX.lt 1 rfl
      have hl2 := HX.lt 2 rfl
      have hl3 := HX.lt 3 rfl
      simp only [] at hl0 hl1 hl2 hl3
      have hc30 := HX.cell 3 0 rfl rfl
      have hc31 := HX.cell 3 1 rfl rfl
      have hc32 := HX.cell 3 2 rfl rfl
      try simp only [List.getElem_toArray, List.getElem_cons_zero, List.getElem_cons_succ] at hc30 hc31 hc32
      have hc20 := HX.cell 2 0 rfl rfl
      have hf20 := HX.free 2 0 rfl
      have hc21 := HX.cell 2 1 rfl rfl
      have hf21 := HX.free 2 1 rfl
      have hc22 := HX.cell 2 2 rfl rfl
      have hf22 := HX.free 2 2 rfl
      try simp only [List.getElem_toArray, List.getElem_cons_zero, List.getElem_cons_succ] at hc20 hf20 hc21 hf21 hc22 hf22
      go_wp2
      clear hc30 hc31 hc32
      clear hc20 hf20 hc21 hf21 hc22 hf22
      have hk := HX.keep3 2 rfl rfl rfl rfl (by omega) (.bool (sg q)) (.slice A3 (dig (nu q)).length c3) (.slice B3 (dig q.den).length d3)
      replace HX := HX.put3 2 rfl (by omega) (by intro k q hk hne; match k, hk with | 0, hk => (simp at hk; subst hk; simp at hne ⊢; try omega) | 1, hk => (simp at hk; subst hk; simp at hne ⊢; try omega) | 2, hk => (simp at hk; subst hk; simp at hne ⊢; try omega) | 3, hk => (simp at hk; subst hk; simp at hne ⊢; try omega) | k + 4, hk => simp at hk) (.bool (sg q)) (.slice A3 (dig (nu q)).length c3) (.slice B3 (dig q.den).length d3)
      replace F3 := F3.stay hk
      clear hk
      simp only [List.set_cons_zero, List.set_cons_succ] at HX
      have hc20 := HX.cell 2 0 rfl rfl
      have hc21 := HX.cell 2 1 rfl rfl
      have hc22 := HX.cell 2 2 rfl rfl
      try simp only [List.getElem_toArray, List.getElem_cons_zero, List.getElem_cons_succ] at hc20 hc21 hc22
      exact bodyPost_ret (v := .tuple #[.agg #[.bool (sg q), .slice A3 (dig (nu q)).length c3, .slice B3 (dig q.den).length d3], .int .i64 0]) (by simp [results, Tryz.results28, go_sem, hc20, hc21, hc22]) rfl ⟨A3, c3, B3, d3, rfl, F3, HX.below⟩
set_option maxHeartbeats 2000000 in
set_option maxRecDepth 100000 in
theorem rdist_any {ia fa ta ib fb tb : Int} {u : Rat} (Aa Ab : Option Addr) (ca cb : Nat) (la lb : List (Int × Int)) (w : World) (HA : Es w Aa la) (HB : Es w Ab lb) (hla : la.length ≤ 9223372036854775807) (hlb : lb.length ≤ 9223372036854775807) (va : HV ia la fa ta) (vb : HV ib lb fb tb) (hu : Hid (disD la lb = u)) :
    Calls Tryz.prog 30 #[.agg #[.int .i64 ia, .slice Aa la.length ca, .int .i64 fa, .int .i64 ta], .agg #[.int .i64 ib, .slice Ab lb.length cb, .int .i64 fb, .int .i64 tb]] w (RetGE w u 2) := by
  have hpa := va.pos
  have hpb := vb.pos
  have htt := tots va vb
  have hsd := sumD_bd va vb (Nat.le_refl 99)
  obtain ⟨v, hv⟩ : ∃ v, Hid (coD la lb 99 = v) := ⟨_, Lib.hid rfl⟩
  obtain ⟨o1, HO1⟩ : ∃ o, Hid (quo 200 1 = o) := ⟨_, Lib.hid rfl⟩
  obtain ⟨o2, HO2⟩ : ∃ o, Hid (quo 1 2 = o) := ⟨_, Lib.hid rfl⟩
  obtain ⟨q1, HQ1⟩ : ∃ q, Hid (o1 - v = q) := ⟨_, Lib.hid rfl⟩
  have z1 : Sz q1 2 := by
    rw [← HQ1.out, ← HO1.out, ← hv.out, coD, quo_sub _ _ (by omega) (by omega), Int.mul_one, Int.one_mul]
    exact quo_sz (by omega) (by omega) (by omega) (by omega)
  have HM : Hid (q1 * o2 = u) := Lib.hid (by rw [← HQ1.out, ← HO1.out, ← HO2.out, ← hv.out, dis_eq (by omega) (by omega), hu.out])
  have zu : Sz u 2 := by
    rw [← hu.out, disD]
    exact quo_sz (by omega) (by omega) (by omega) (by omega)
  have VA := Lib.hid va
  have VB := Lib.hid vb
  clear va vb htt hsd hu
  go_enter Tryz.func30, Tryz.ntmps30
  go_wp2_with fail
  have HX := BL.three w #[.int .i64 ia, .slice Aa la.length ca, .int .i64 fa, .int .i64 ta] #[.int .i64 ib, .slice Ab lb.length cb, .int .i64 fb, .int .i64 tb] #[.bool false, .slice none 0 0, .slice none 0 0] 26 26 33
  replace HA := HA.ext HX.below
  replace HB := HB.ext HX.below
  refine (rcoef_any Aa Ab ca cb la lb _ HA HB hla hlb VA.out VB.out hv).mono ?_
  rintro e w3 ⟨A3, c3, B3, d3, rfl, F3, hb⟩
  clear HA HB
  replace HX := HX.ext hb
  clear hb
  go_upto_region 2 with fail
  have hlg30 := HX.lt 0 rfl
  simp only [] at hlg30
  have hlg31 := HX.lt 1 rfl
  simp only [] at hlg31
  have hlg32 := HX.lt 2 rfl
  simp only [] at hlg32
  have hb := below_alloc w3 (.cells #[.bool (sg v), .slice A3 (dig (nu v)).length c3, .slice B3 (dig v.den).length d3] 33)
  replace HX := HX.new #[.bool (sg v), .slice A3 (dig (nu v)).length c3, .slice B3 (dig v.den).length d3] 33
  simp only [List.cons_append, List.nil_append] at HX
  replace F3 := F3.ext hb
  clear hb
  generalize w3.alloc (.cells #[.bool (sg v), .slice A3 (dig (nu v)).length c3, .slice B3 (dig v.den).length d3] 33) = V3 at *
  generalize w3.heap.size = g3 at *
  go_upto_region 4 with fail
  have held : ∀ {W' : World} {u : Array Value}, BL w W' [(w.heap.size, #[.int .i64 ia, .slice Aa la.length ca, .int .i64 fa, .int .i64 ta], 26), (w.heap.size + 1, #[.int .i64 ib, .slice Ab lb.length cb, .int .i64 fb, .int .i64 tb], 26), (w.heap.size + 2, u, 33), (g3, #[.bool (sg v), .slice A3 (dig (nu v)).length c3, .slice B3 (dig v.den).length d3], 33)] → W'.cell? ⟨g3, 0, none⟩ = some (.bool (sg v)) ∧ W'.cell? ⟨g3, 1, none⟩ = some (.slice A3 (dig (nu v)).length c3) ∧ W'.cell? ⟨g3, 2, none⟩ = some (.slice B3 (dig v.den).length d3) := fun h => ⟨h.cell 3 0 rfl rfl, h.cell 3 1 rfl rfl, h.cell 3 2 rfl rfl⟩
  replace HX := HX.ext (drew_ext _)
  replace F3 := F3.ext (drew_ext _)
  go_region_held3 (fun W' => W'.cell? ⟨g3, 0, none⟩ = some (.bool (sg v)) ∧ W'.cell? ⟨g3, 1, none⟩ = some (.slice A3 (dig (nu v)).length c3) ∧ W'.cell? ⟨g3, 2, none⟩ = some (.slice B3 (dig v.den).length d3))
    (first | exact held HX | exact held (HX.put3 2 rfl (by omega) (by intro k q hk hne; match k, hk with | 0, hk => (simp at hk; subst hk; simp at hne ⊢; try omega) | 1, hk => (simp at hk; subst hk; simp at hne ⊢; try omega) | 2, hk => (simp at hk; subst hk; simp at hne ⊢; try omega) | 3, hk => (simp at hk; subst hk; simp at hne ⊢; try omega) | k + 4, hk => simp at hk) _ _ _))
    (first
      | (go_at_call_of 63 (Value.int IntKind.i64 200); refine (qofq (by decide) HO1 (by decide) (by decide) (by decide)).mono ?_; rintro e w7 ⟨A7, c7, B7, d7, rfl, F7, hb⟩; replace HX := HX.ext hb; replace F3 := F3.ext hb; (try replace F8 := F8.ext hb); (try replace F9 := F9.ext hb); clear hb)
      | (go_at_call_of 63 (Value.int IntKind.i64 2); refine (qofq (by decide) HO2 (by decide) (by decide) (by decide)).mono ?_; rintro e w9 ⟨A9, c9, B9, d9, rfl, F9, hb⟩; replace HX := HX.ext hb; replace F3 := F3.ext hb; (try replace F7 := F7.ext hb); (try replace F8 := F8.ext hb); clear hb)
      | (go_at_call 65; refine (qsub_r HQ1 z1 F7.fr F3.fr (by omega) (by omega)).mono ?_; rintro e w8 ⟨A8, c8, B8, d8, rfl, F8, hb⟩; replace HX := HX.ext hb; replace F3 := F3.ext hb; (try replace F7 := F7.ext hb); (try replace F9 := F9.ext hb); clear hb)
      | (go_at_call 68; refine (qmul_r HM zu F8.fr F9.fr (by omega) (by omega)).mono ?_; rintro e w10 ⟨A5, c5, B5, d5, rfl, F5, hb⟩; replace HX := HX.ext hb; replace F3 := F3.ext hb; clear hb; have hc20 := HX.cell 2 0 rfl rfl; have hf20 := HX.free 2 0 rfl; have hc21 := HX.cell 2 1 rfl rfl; have hf21 := HX.free 2 1 rfl; have hc22 := HX.cell 2 2 rfl rfl; have hf22 := HX.free 2 2 rfl; (try simp only [List.getElem_toArray, List.getElem_cons_zero, List.getElem_cons_succ] at hc20 hf20 hc21 hf21 hc22 hf22)))
  all_goals (
    clear held hc20 hf20 hc21 hf21 hc22 hf22
    have hk := HX.keep3 2 rfl rfl rfl rfl (by omega) (.bool (sg u)) (.slice A5 (dig (nu u)).length c5) (.slice B5 (dig u.den).length d5)
    replace HX := HX.put3 2 rfl (by omega) (by intro k q hk hne; match k, hk with | 0, hk => (simp at hk; subst hk; simp at hne ⊢; try omega) | 1, hk => (simp at hk; subst hk; simp at hne ⊢; try omega) | 2, hk => (simp at hk; subst hk; simp at hne ⊢; try omega) | 3, hk => (simp at hk; subst hk; simp at hne ⊢; try omega) | k + 4, hk => simp at hk) (.bool (sg u)) (.slice A5 (dig (nu u)).length c5) (.slice B5 (dig u.den).length d5)
    replace F5 := F5.stay hk
    clear hk
    simp only [List.set_cons_zero, List.set_cons_succ] at HX
    have hc20 := HX.cell 2 0 rfl rfl
    have hc21 := HX.cell 2 1 rfl rfl
    have hc22 := HX.cell 2 2 rfl rfl
    try simp only [List.getElem_toArray, List.getElem_cons_zero, List.getElem_cons_succ] at hc20 hc21 hc22
    go_wp2
    exact bodyPost_ret (v := .tuple #[.agg #[.bool (sg u), .slice A5 (dig (nu u)).length c5, .slice B5 (dig u.den).length d5], .int .i64 0]) (by simp [results, Tryz.results30, go_sem, hc20, hc21, hc22]) rfl ⟨A5, c5, B5, d5, rfl, F5, HX.below⟩)
set_option maxHeartbeats 2000000 in
set_option maxRecDepth 100000 in
theorem rdist_no {ia fa ta ib fb tb : Int} (Aa Ab : Option Addr) (ca cb : Nat) (la lb : List (Int × Int)) (w : World) (HA : Es w Aa la) (HB : Es w Ab lb) (hla : la.length ≤ 9223372036854775807) (hlb : lb.length ≤ 9223372036854775807) (hn : ¬ (HV ia la fa ta ∧ HV ib lb fb tb)) :
    Calls Tryz.prog 30 #[.agg #[.int .i64 ia, .slice Aa la.length ca, .int .i64 fa, .int .i64 ta], .agg #[.int .i64 ib, .slice Ab lb.length cb, .int .i64 fb, .int .i64 tb]] w (RetZE w 1) := by
  have HN := Lib.hid hn
  clear hn
  go_enter Tryz.func30, Tryz.ntmps30
  go_wp2_with fail
  have HX := BL.three w #[.int .i64 ia, .slice Aa la.length ca, .int .i64 fa, .int .i64 ta] #[.int .i64 ib, .slice Ab lb.length cb, .int .i64 fb, .int .i64 tb] #[.bool false, .slice none 0 0, .slice none 0 0] 26 26 33
  replace HA := HA.ext HX.below
  replace HB := HB.ext HX.below
  refine (rcoef_no Aa Ab ca cb la lb _ HA HB hla hlb HN.out).mono ?_
  rintro e w3 ⟨rfl, hb⟩
  clear HA HB
  replace HX := HX.ext hb
  clear hb
  go_upto_region 2 with fail
  have hl0 := HX.lt 0 rfl
  have hl1 := HX.lt 1 rfl
  have hl2 := HX.lt 2 rfl
  simp only [] at hl0 hl1 hl2
  replace HX := HX.new #[.bool false, .slice none 0 0, .slice none 0 0] 33
  simp only [List.cons_append, List.nil_append] at HX
  generalize w3.alloc (.cells #[.bool false, .slice none 0 0, .slice none 0 0] 33) = V3 at *
  generalize w3.heap.size = g3 at *
  have hc20 := HX.cell 2 0 rfl rfl
  have hf20 := HX.free 2 0 rfl
  have hc21 := HX.cell 2 1 rfl rfl
  have hf21 := HX.free 2 1 rfl
  have hc22 := HX.cell 2 2 rfl rfl
  have hf22 := HX.free 2 2 rfl
  try simp only [List.getElem_toArray, List.getElem_cons_zero, List.getElem_cons_succ] at hc20 hf20 hc21 hf21 hc22 hf22
  go_wp2
  clear hc20 hf20 hc21 hf21 hc22 hf22
  replace HX := HX.put3 2 rfl (by omega) (by intro k q hk hne; match k, hk with | 0, hk => (simp at hk; subst hk; simp at hne ⊢; try omega) | 1, hk => (simp at hk; subst hk; simp at hne ⊢; try omega) | 2, hk => (simp at hk; subst hk; simp at hne ⊢; try omega) | 3, hk => (simp at hk; subst hk; simp at hne ⊢; try omega) | k + 4, hk => simp at hk) (.bool false) (.slice none 0 0) (.slice none 0 0)
  simp only [List.set_cons_zero, List.set_cons_succ] at HX
  have hc20 := HX.cell 2 0 rfl rfl
  have hc21 := HX.cell 2 1 rfl rfl
  have hc22 := HX.cell 2 2 rfl rfl
  try simp only [List.getElem_toArray, List.getElem_cons_zero, List.getElem_cons_succ] at hc20 hc21 hc22
  exact bodyPost_ret (v := .tuple #[.agg #[.bool false, .slice none 0 0, .slice none 0 0], .int .i64 1]) (by simp [results, Tryz.results30, go_sem, hc20, hc21, hc22]) rfl ⟨rfl, HX.below⟩
end Go.Proofs.YthempimelfmipaaGreatDoor
