/- The reference's naturals: Gcd. -/
import Derived.Test.YthempimelfmipaaGreatDoorRef3
namespace Go.Proofs.YthempimelfmipaaGreatDoor
open Go.RowKit Go.Proofs Go

theorem rdivmod_any (A B : Option Addr) (n m c d : Nat) (l r : List Nat) (w : World) (HA : Lim w A c l) (HB : Lim w B d r) (hn : n = l.length) (hm : m = r.length) (hl : n ≤ 536870912) (hl2 : m ≤ 536870912) (h0 : 0 < val r) :
    Calls Tryz.prog 118 #[.agg #[.slice A n c], .agg #[.slice B m d]] w (RetNNE w (val l / val r) (val l % val r) 0) := by
  rcases Nat.lt_or_ge (val l) (val r) with h | h
  · rw [Nat.div_eq_of_lt h, Nat.mod_eq_of_lt h]
    exact rdivmod_less A B n m c d l r w HA HB hn hm hl hl2 h
  · exact rdivmod_long A B n m c d l r w HA HB hn hm hl hl2 h0 h
theorem rdivmod_d {A B : Option Addr} {c d : Nat} {a b : Nat} (w : World) (HA : Lim w A c (dig a)) (HB : Lim w B d (dig b)) (ha : (dig a).length ≤ 536870912) (hb : (dig b).length ≤ 536870912) (h0 : 0 < b) :
    Calls Tryz.prog 118 #[.agg #[.slice A (dig a).length c], .agg #[.slice B (dig b).length d]] w (RetNNE w (a / b) (a % b) 0) := by
  have := rdivmod_any A B _ _ c d (dig a) (dig b) w HA HB rfl rfl ha hb (by rw [val_dig]; exact h0)
  rwa [val_dig, val_dig] at this

set_option maxHeartbeats 4000000 in
set_option maxRecDepth 1000000 in
theorem rgcd_any (A B : Option Addr) (n m c d : Nat) (l r : List Nat) (w : World) (HA : Lim w A c l) (HB : Lim w B d r) (hn : n = l.length) (hm : m = r.length) (hl : n ≤ 536870910) (hl2 : m ≤ 536870910) :
    Calls Tryz.prog 117 #[.agg #[.slice A n c], .agg #[.slice B m d]] w (RetN w (Nat.gcd (val l) (val r))) := by
  have hdl := dig_len_of HA.small hn
  have hdr := dig_len_of HB.small hm
  obtain ⟨a, ha⟩ : ∃ a, val l = a := ⟨_, rfl⟩
  obtain ⟨b, hbv⟩ : ∃ b, val r = b := ⟨_, rfl⟩
  rw [ha] at hdl
  rw [hbv] at hdr
  rw [ha, hbv]
  have HN := Lib.hid hn
  have HM := Lib.hid hm
  have ha := Lib.hid ha
  have hbv := Lib.hid hbv
  clear hn hm
  go_enter Tryz.func117, Tryz.ntmps117
  go_wp2_with fail
  have HX := BL.three w #[.slice A n c] #[.slice B m d] #[.slice none 0 0] 31 31 31
  refine (rnorm_any A n c l _ (HA.ext HX.below) HN.out (by omega)).mono ?_
  rintro e w1 ⟨A1, c1, rfl, HA1, hb⟩
  rw [ha.out] at HA1
  rw [ha.out]
  replace HX := HX.ext hb
  clear hb
  have hc00 := HX.cell 0 0 rfl rfl
  have hf00 := HX.free 0 0 rfl
  simp only [] at hc00 hf00
  go_upto_region 2 with fail
  clear hc00 hf00
  have hk := HX.keep1 0 rfl rfl (.slice A1 (dig a).length c1)
  replace HX := HX.put1 0 rfl (by omega) (by intro k q hk hne; match k, hk with | 0, hk => (simp at hk; subst hk; simp at hne ⊢; try omega) | 1, hk => (simp at hk; subst hk; simp at hne ⊢; try omega) | 2, hk => (simp at hk; subst hk; simp at hne ⊢; try omega) | k + 3, hk => simp at hk) (.slice A1 (dig a).length c1)
  replace HA1 := HA1.stay hk
  clear hk
  simp only [List.set_cons_zero] at HX
  generalize w1.setCell ⟨w.heap.size, 0, none⟩ (.slice A1 (dig a).length c1) = W1 at *
  have hc10 := HX.cell 1 0 rfl rfl
  simp only [] at hc10
  go_wp2_with fail
  refine (rnorm_any B m d r _ (HB.ext HX.below) HM.out (by omega)).mono ?_
  rintro e w2 ⟨A2, c2, rfl, HB1, hb⟩
  rw [hbv.out] at HB1
  rw [hbv.out]
  clear hc10
  replace HX := HX.ext hb
  replace HA1 := HA1.ext hb
  clear hb
  have hc10 := HX.cell 1 0 rfl rfl
  have hf10 := HX.free 1 0 rfl
  simp only [] at hc10 hf10
  go_upto_region 3 with fail
  clear hc10 hf10
  have hk := HX.keep1 1 rfl rfl (.slice A2 (dig b).length c2)
  replace HX := HX.put1 1 rfl (by omega) (by intro k q hk hne; match k, hk with | 0, hk => (simp at hk; subst hk; simp at hne ⊢; try omega) | 1, hk => (simp at hk; subst hk; simp at hne ⊢; try omega) | 2, hk => (simp at hk; subst hk; simp at hne ⊢; try omega) | k + 3, hk => simp at hk) (.slice A2 (dig b).length c2)
  replace HA1 := HA1.stay hk
  replace HB1 := HB1.stay hk
  clear hk
  simp only [List.set_cons_zero, List.set_cons_succ] at HX
  generalize w2.setCell ⟨w.heap.size + 1, 0, none⟩ (.slice A2 (dig b).length c2) = W2 at *
  try go_wp2_with fail
  go_loopg [7] b (fun k _ wr => ∃ (x y : Nat) (A1 A2 : Option Addr) (c1 c2 : Nat), y ≤ k ∧ (dig x).length ≤ 536870911 ∧ (dig y).length ≤ 536870911 ∧ Nat.gcd x y = Nat.gcd a b ∧ BL w wr [(w.heap.size, #[.slice A1 (dig x).length c1], 31), (w.heap.size + 1, #[.slice A2 (dig y).length c2], 31), (w.heap.size + 2, #[.slice none 0 0], 31)] ∧ Lim wr A1 c1 (dig x) ∧ Lim wr A2 c2 (dig y))
  case atStart => exact ⟨a, b, A1, A2, c1, c2, Nat.le_refl _, by omega, by omega, rfl, HX, HA1, HB1⟩
  case round =>
    clear HX HA1 HB1
    obtain ⟨x, y, A1, A2, c1, c2, hyk, hlx, hly, hg, HX, HA1, HB1⟩ := hrel
    have HG := Lib.hid hg
    clear hg
    by_cases hy0 : 0 < y
    · have hpos := dig_len_pos.2 hy0
      have hyI : (0 : Int) < (dig y).length := by omega
      have hmod : x % y < y := Nat.mod_lt _ hy0
      have hdm : (dig (x % y)).length ≤ (dig y).length := dig_mono (by omega)
      have hgcd : Nat.gcd y (x % y) = Nat.gcd x y := by rw [Nat.gcd_comm x y, Nat.gcd_rec y x, Nat.gcd_comm]
      have HGC := Lib.hid hgcd
      clear hgcd
      have hc00 := HX.cell 0 0 rfl rfl
      have hc10 := HX.cell 1 0 rfl rfl
      simp only [] at hc00 hc10
      go_wp2_with fail
      refine (rdivmod_d _ HA1 HB1 (by omega) (by omega) hy0).mono ?_
      rintro e w3 ⟨A3, c3, A4, c4, rfl, HQ, HR, hb⟩
      clear HQ
      clear hc00 hc10
      replace HX := HX.ext hb
      replace HA1 := HA1.ext hb
      replace HB1 := HB1.ext hb
      clear hb
      go_upto_region 5 with fail
      have lt3 := HX.lt 2 rfl
      simp only [] at lt3
      replace HX := (HX.new #[.slice A3 (dig (x / y)).length c3] 31).new #[.slice A4 (dig (x % y)).length c4] 31
      have hb := bel_trans (below_alloc w3 (.cells #[.slice A3 (dig (x / y)).length c3] 31)) (below_alloc (w3.alloc (.cells #[.slice A3 (dig (x / y)).length c3] 31)) (.cells #[.slice A4 (dig (x % y)).length c4] 31))
      simp only [List.cons_append, List.nil_append] at HX
      rw [show (w3.alloc (.cells #[.slice A3 (dig (x / y)).length c3] 31)).heap.size = w3.heap.size + 1 from by simp] at HX
      replace HA1 := HA1.ext hb
      replace HB1 := HB1.ext hb
      replace HR := HR.ext hb
      clear hb
      generalize (w3.alloc (.cells #[.slice A3 (dig (x / y)).length c3] 31)).alloc (.cells #[.slice A4 (dig (x % y)).length c4] 31) = W4 at *
      generalize w3.heap.size = g3 at *
      have hc10 := HX.cell 1 0 rfl rfl
      simp only [] at hc10
      have hc00 := HX.cell 0 0 rfl rfl
      have hf00 := HX.free 0 0 rfl
      simp only [] at hc00 hf00
      go_upto_region 6 with fail
      clear hc10
      clear hc00 hf00
      have hk := HX.keep1 0 rfl rfl (.slice A2 (dig y).length c2)
      replace HX := HX.put1 0 rfl (by omega) (by intro k q hk hne; match k, hk with | 0, hk => (simp at hk; subst hk; simp at hne ⊢; try omega) | 1, hk => (simp at hk; subst hk; simp at hne ⊢; try omega) | 2, hk => (simp at hk; subst hk; simp at hne ⊢; try omega) | 3, hk => (simp at hk; subst hk; simp at hne ⊢; try omega) | 4, hk => (simp at hk; subst hk; simp at hne ⊢; try omega) | k + 5, hk => simp at hk) (.slice A2 (dig y).length c2)
      replace HA1 := HA1.stay hk
      replace HB1 := HB1.stay hk
      replace HR := HR.stay hk
      clear hk
      simp only [List.set_cons_zero] at HX
      generalize W4.setCell ⟨w.heap.size, 0, none⟩ (.slice A2 (dig y).length c2) = W5 at *
      have hc40 := HX.cell 4 0 rfl rfl
      simp only [] at hc40
      have hc10 := HX.cell 1 0 rfl rfl
      have hf10 := HX.free 1 0 rfl
      simp only [] at hc10 hf10
      go_wp2_with fail
      clear hc40
      clear hc10 hf10
      have hk := HX.keep1 1 rfl rfl (.slice A4 (dig (x % y)).length c4)
      replace HX := HX.put1 1 rfl (by omega) (by intro k q hk hne; match k, hk with | 0, hk => (simp at hk; subst hk; simp at hne ⊢; try omega) | 1, hk => (simp at hk; subst hk; simp at hne ⊢; try omega) | 2, hk => (simp at hk; subst hk; simp at hne ⊢; try omega) | 3, hk => (simp at hk; subst hk; simp at hne ⊢; try omega) | 4, hk => (simp at hk; subst hk; simp at hne ⊢; try omega) | k + 5, hk => simp at hk) (.slice A4 (dig (x % y)).length c4)
      replace HA1 := HA1.stay hk
      replace HB1 := HB1.stay hk
      replace HR := HR.stay hk
      clear hk
      simp only [List.set_cons_zero, List.set_cons_succ] at HX
      replace HX := HX.take 3
      simp only [List.take_succ_cons, List.take_zero] at HX
      go_roundg (x % y)
      case measure => omega
      case rel => exact ⟨y, x % y, A2, A4, c2, c4, Nat.le_refl _, by omega, by omega, by rw [HGC.out, HG.out], HX, HB1, HR⟩
    · obtain rfl : y = 0 := by omega
      have ha2 := HG.out
      rw [Nat.gcd_zero_right] at ha2
      have HAA := Lib.hid ha2
      clear ha2
      have hz : (dig 0).length = 0 := rfl
      have hc00 := HX.cell 0 0 rfl rfl
      have hc10 := HX.cell 1 0 rfl rfl
      simp only [] at hc00 hc10
      have hc20 := HX.cell 2 0 rfl rfl
      have hf20 := HX.free 2 0 rfl
      simp only [] at hc20 hf20
      go_wp2
      clear hc00 hc10
      clear hc20 hf20
      have hk := HX.keep1 2 rfl rfl (.slice A1 (dig x).length c1)
      replace HX := HX.put1 2 rfl (by omega) (by intro k q hk hne; match k, hk with | 0, hk => (simp at hk; subst hk; simp at hne ⊢; try omega) | 1, hk => (simp at hk; subst hk; simp at hne ⊢; try omega) | 2, hk => (simp at hk; subst hk; simp at hne ⊢; try omega) | k + 3, hk => simp at hk) (.slice A1 (dig x).length c1)
      replace HA1 := HA1.stay hk
      clear hk
      simp only [List.set_cons_zero, List.set_cons_succ] at HX
      have hc20 := HX.cell 2 0 rfl rfl
      simp only [] at hc20
      rw [← HAA.out]
      exact bodyPost_ret (v := .agg #[.slice A1 (dig x).length c1]) (by simp [results, Tryz.results117, go_sem, hc20]) rfl ⟨A1, c1, rfl, HA1, HX.below⟩
end Go.Proofs.YthempimelfmipaaGreatDoor
