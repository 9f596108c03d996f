/- The package natural, ninth part: Of, DivMod, Gcd. -/
import Derived.Test.YtolkijelldlmeaaGreatDoorNat8
namespace Go.Proofs.YtolkijelldlmeaaGreatDoor
open Go.RowKit Go.Proofs

theorem of_val {n : Nat} (h : n / 1000000000 / 1000000000 < 1000000000) : val [n % 1000000000, n / 1000000000 % 1000000000, n / 1000000000 / 1000000000] = n ∧ Dig [n % 1000000000, n / 1000000000 % 1000000000, n / 1000000000 / 1000000000] :=
  ⟨by simp only [val]; omega, Dig.cons (by omega) (Dig.cons (by omega) (Dig.cons h Dig.nil))⟩

set_option maxRecDepth 100000 in
theorem nof_any (n : Nat) (w : World) (hn : n / 1000000000 / 1000000000 ≤ 18) :
    Calls Tryz.prog 153 #[.int .u64 (n : Int)] w (RetN w n) := by
  obtain ⟨hv, hd⟩ := of_val (n := n) (by omega)
  have HV := Lib.hid hv
  clear hv
  go_enter Tryz.func153, Tryz.ntmps153
  go_wp2_with fail
  have HL := Lim.lit (w.alloc (.cells #[.slice none 0 0] 34)) 208 (l := [n % 1000000000, n / 1000000000 % 1000000000, n / 1000000000 / 1000000000]) (cs := #[.int .u32 ((n : Int) % 1000000000), .int .u32 ((n : Int) / 1000000000 % 1000000000), .int .u32 ((n : Int) / 1000000000 / 1000000000)]) (by simp [ints]) (small_of_dig hd) 3 (Nat.le_refl _)
  have HX := Bx.one w #[.slice none 0 0] 34
  rw [show (w.alloc (.cells #[.slice none 0 0] 34)).heap.size = w.heap.size + 1 from by simp] at HL
  refine (made_any _ 3 3 _ _ HL hd rfl (by omega)).mono ?_
  rintro e w4 ⟨A4, c4, rfl, H4, hb4⟩
  rw [HV.out] at H4
  rw [HV.out]
  have HX2 := (HX.ext (below_alloc _ _)).ext hb4
  have hc4 := HX2.cell0 0 rfl rfl
  have hf4 := HX2.free0 0 rfl
  go_wp2
  have hav := H4.avoid_blk (HX2.blk0 rfl) (by simp [Value.noInt])
  have hq := set_same (v := .slice A4 (dig n).length c4) hc4
  exact bodyPost_ret (v := .agg #[.slice A4 (dig n).length c4]) (by simp [results, Tryz.results153, go_sem, hq]) rfl ⟨A4, c4, rfl, H4.setCell hav _, HX2.below.setCell (by simp) _⟩

def RetNNE (w : World) (q r : Nat) (err : Int) (e : Ending) (w' : World) : Prop :=
  ∃ A c B d, e = .returned (.tuple #[.agg #[.slice A (dig q).length c], .agg #[.slice B (dig r).length d], .int .i64 err]) ∧ Lim w' A c (dig q) ∧ Lim w' B d (dig r) ∧ Below w.heap.size w w'

set_option maxHeartbeats 400000 in
set_option maxRecDepth 100000 in
theorem ndivmod_zero (A B : Option Addr) (n m c d : Nat) (_ r : List Nat) (w : World) (HB : Lim w B d r) (hm : m = r.length) (hl2 : m ≤ 1073741824) (h0 : val r = 0) :
    Calls Tryz.prog 155 #[.agg #[.slice A n c], .agg #[.slice B m d]] w (RetNNE w 0 0 12) := by
  have hz : dig (val r) = [] := by rw [h0]; rfl
  have HZ := Lib.hid hz
  have HM := Lib.hid hm
  clear hm hz h0
  go_enter Tryz.func155, Tryz.ntmps155
  go_wp2_with fail
  have HX := Bx.four w #[.slice A n c] #[.slice B m d] #[.slice none 0 0] #[.slice none 0 0] 34 34 34 34
  refine (limbs_any B m d r _ (HB.ext HX.below) HM.out (by omega)).mono ?_
  rintro e w1 ⟨A1, c1, rfl, H1, hb1⟩
  rw [HZ.out]
  have HX1 := HX.ext hb1
  have hc2 := HX1.cell 2 0 rfl rfl
  have hc3 := HX1.cell 3 0 rfl rfl
  have hf2 := HX1.free 2 0 rfl
  have hf3 := HX1.free 3 0 rfl
  go_wp2
  have hq := set_same (v := .slice none 0 0) hc2
  have hq2 : ((w1.setCell ⟨w.heap.size + 2, 0, none⟩ (.slice none 0 0)).setCell ⟨w.heap.size + 3, 0, none⟩ (.slice none 0 0)).cell? ⟨w.heap.size + 3, 0, none⟩ = some (.slice none 0 0) := set_same (by rw [World.cell?_setCell_other _ _ _ _ (by simp)]; exact hc3)
  have hq3 : ((w1.setCell ⟨w.heap.size + 2, 0, none⟩ (.slice none 0 0)).setCell ⟨w.heap.size + 3, 0, none⟩ (.slice none 0 0)).cell? ⟨w.heap.size + 2, 0, none⟩ = some (.slice none 0 0) := by rw [World.cell?_setCell_other _ _ _ _ (by simp)]; exact hq
  exact bodyPost_ret (v := .tuple #[.agg #[.slice none 0 0], .agg #[.slice none 0 0], .int .i64 12]) (by simp [results, Tryz.results155, go_sem, hq2, hq3]) rfl
    ⟨none, 0, none, 0, rfl, Lim.nil _ _ _, Lim.nil _ _ _, (HX1.below.setCell (by simp; omega) _).setCell (by simp; omega) _⟩

set_option maxHeartbeats 400000 in
set_option maxRecDepth 100000 in
theorem ndivmod_any (A B : Option Addr) (n m c d : Nat) (l r : List Nat) (w : World) (HA : Lim w A c l) (HB : Lim w B d r) (hn : n = l.length) (hm : m = r.length) (hl : n ≤ 1073741824) (hl2 : m ≤ 1073741824) (h0 : 0 < val r) :
    Calls Tryz.prog 155 #[.agg #[.slice A n c], .agg #[.slice B m d]] w (RetNNE w (val l / val r) (val l % val r) 0) := by
  have hdl := dig_len_of HA.small hn
  have hdr := dig_len_of HB.small hm
  have hpos := dig_len_pos.2 h0
  have hdq : (dig (val l / val r)).length ≤ (dig (val l)).length := dig_mono (Nat.div_le_self _ _)
  have hdm : (dig (val l % val r)).length ≤ (dig (val l)).length := dig_mono (Nat.mod_le _ _)
  have HN := Lib.hid hn
  have HM := Lib.hid hm
  clear hn hm
  go_enter Tryz.func155, Tryz.ntmps155
  go_wp2_with fail
  have HX := Bx.four w #[.slice A n c] #[.slice B m d] #[.slice none 0 0] #[.slice none 0 0] 34 34 34 34
  refine (limbs_any B m d r _ (HB.ext HX.below) HM.out (by omega)).mono ?_
  rintro e w1 ⟨A1, c1, rfl, H1, hb1⟩
  have HX1 := HX.ext hb1
  have hc0 : w1.cell? ⟨w.heap.size, 0, none⟩ = some (.slice A n c) := HX1.cell 0 0 rfl rfl
  go_wp2_with fail
  refine (limbs_any A n c l _ (HA.ext HX1.below) HN.out (by omega)).mono ?_
  rintro e w2 ⟨A2, c2, rfl, H2, hb2⟩
  have HX2 := HX1.ext hb2
  go_wp2_with fail
  refine (divide_any A2 A1 _ _ c2 c1 (val l) (val r) _ H2 (H1.ext hb2) rfl rfl (by omega) (by omega) h0).mono ?_
  rintro e w3 ⟨A3, c3, A4, c4, rfl, H3, H4, hb3⟩
  have HX3 := HX2.ext hb3
  generalize val l / val r = q at *
  generalize val l % val r = t at *
  go_wp2_with fail
  refine (made_any A3 _ c3 (dig q) _ H3 (dig_Dig _) rfl (by omega)).mono ?_
  rintro e w4 ⟨A5, c5, rfl, H5, hb4⟩
  rw [val_dig] at H5
  rw [val_dig]
  have HX4 := HX3.ext hb4
  go_wp2_with fail
  refine (made_any A4 _ c4 (dig t) _ (H4.ext hb4) (dig_Dig _) rfl (by omega)).mono ?_
  rintro e w5 ⟨A6, c6, rfl, H6, hb5⟩
  rw [val_dig] at H6
  rw [val_dig]
  have HX5 := HX4.ext hb5
  have hc2 := HX5.cell 2 0 rfl rfl
  have hc3 := HX5.cell 3 0 rfl rfl
  have hf2 := HX5.free 2 0 rfl
  have hf3 := HX5.free 3 0 rfl
  have H7 := H5.ext hb5
  go_wp2
  have hav1 := H7.avoid_blk (HX5.blk 2 rfl) (by simp [Value.noInt])
  have hav2 := H7.avoid_blk (HX5.blk 3 rfl) (by simp [Value.noInt])
  have hav3 := H6.avoid_blk (HX5.blk 2 rfl) (by simp [Value.noInt])
  have hav4 := H6.avoid_blk (HX5.blk 3 rfl) (by simp [Value.noInt])
  have hq := set_same (v := .slice A5 (dig q).length c5) hc2
  have hq2 : ((w5.setCell ⟨w.heap.size + 2, 0, none⟩ (.slice A5 (dig q).length c5)).setCell ⟨w.heap.size + 3, 0, none⟩ (.slice A6 (dig t).length c6)).cell? ⟨w.heap.size + 3, 0, none⟩ = some (.slice A6 (dig t).length c6) := set_same (by rw [World.cell?_setCell_other _ _ _ _ (by simp)]; exact hc3)
  have hq3 : ((w5.setCell ⟨w.heap.size + 2, 0, none⟩ (.slice A5 (dig q).length c5)).setCell ⟨w.heap.size + 3, 0, none⟩ (.slice A6 (dig t).length c6)).cell? ⟨w.heap.size + 2, 0, none⟩ = some (.slice A5 (dig q).length c5) := by rw [World.cell?_setCell_other _ _ _ _ (by simp)]; exact hq
  exact bodyPost_ret (v := .tuple #[.agg #[.slice A5 (dig q).length c5], .agg #[.slice A6 (dig t).length c6], .int .i64 0]) (by simp [results, Tryz.results155, go_sem, hq2, hq3]) rfl
    ⟨A5, c5, A6, c6, rfl, (H7.setCell hav1 _).setCell hav2 _, (H6.setCell hav3 _).setCell hav4 _, (HX5.below.setCell (by simp; omega) _).setCell (by simp; omega) _⟩

set_option maxHeartbeats 400000 in
set_option maxRecDepth 100000 in
theorem ngcd_any (A B : Option Addr) (n m c d : Nat) (l r : List Nat) (w : World) (HA : Lim w A c l) (HB : Lim w B d r) (hn : n = l.length) (hm : m = r.length) (hl : n ≤ 1073741824) (hl2 : m ≤ 1073741824) :
    Calls Tryz.prog 154 #[.agg #[.slice A n c], .agg #[.slice B m d]] w (RetN w (Nat.gcd (val l) (val r))) := by
  have hdl := dig_len_of HA.small hn
  have hdr := dig_len_of HB.small hm
  have HN := Lib.hid hn
  have HM := Lib.hid hm
  clear hn hm
  go_enter Tryz.func154, Tryz.ntmps154
  go_wp2_with fail
  obtain ⟨W, hW⟩ : ∃ W, W = ((w.alloc (.cells #[.slice A n c] 34)).alloc (.cells #[.slice B m d] 34)).alloc (.cells #[.slice none 0 0] 34) := ⟨_, rfl⟩
  have HX := Bx.three w #[.slice A n c] #[.slice B m d] #[.slice none 0 0] 34 34 34
  rw [← hW] at HX
  rw [← hW]
  clear hW
  have HX1 := HX.ext (drew_ext W)
  go_region_held3 (fun w' => w'.cell? ⟨w.heap.size, 0, none⟩ = some (.slice A n c) ∧ w'.cell? ⟨w.heap.size + 1, 0, none⟩ = some (.slice B m d)) (first | exact ⟨HX.cell 0 0 rfl rfl, HX.cell 1 0 rfl rfl⟩ | exact ⟨HX1.cell 0 0 rfl rfl, HX1.cell 1 0 rfl rfl⟩ | exact ⟨HX2.cell 0 0 rfl rfl, HX2.cell 1 0 rfl rfl⟩ | exact ⟨HX3.cell 0 0 rfl rfl, HX3.cell 1 0 rfl rfl⟩)
    (first
      | (go_at_call_of 148 (Value.slice A n c); refine (limbs_any A n c l _ (HA.ext HX1.below) HN.out (by omega)).mono ?_; rintro e w1 ⟨A1, c1, rfl, H1, hb1⟩; have HX2 := HX1.ext hb1)
      | (go_at_call_of 148 (Value.slice B m d); refine (limbs_any B m d r _ (HB.ext HX2.below) HM.out (by omega)).mono ?_; rintro e w2 ⟨A2, c2, rfl, H2, hb2⟩; have HX3 := HX2.ext hb2))
  go_wp2_with fail
  go_loopg [5, 6] (val r) (fun k x y wr => ∃ (a b : Nat) (A1 A2 : Option Addr) (c1 c2 : Nat), b ≤ k ∧ (dig a).length ≤ 2147483648 ∧ (dig b).length ≤ 2147483648 ∧ Nat.gcd a b = Nat.gcd (val l) (val r) ∧ x = .slice A1 (dig a).length c1 ∧ y = .slice A2 (dig b).length c2 ∧ Lim wr A1 c1 (dig a) ∧ Lim wr A2 c2 (dig b) ∧ Bx w wr [(#[.slice A n c], 34), (#[.slice B m d], 34), (#[.slice none 0 0], 34)])
  case atStart => exact ⟨val l, val r, A1, A2, c1, c2, Nat.le_refl _, by omega, by omega, rfl, rfl, rfl, H1.ext hb2, H2, HX3⟩
  case round =>
    clear H1 H2 hb1 hb2 HX HX1 HX2 HX3
    obtain ⟨a, b, A1, A2, c1, c2, hbk, hla, hlb, hg, rfl, rfl, H1, H2, HX⟩ := hrel
    have HG := Lib.hid hg
    clear hg
    by_cases hb0 : 0 < b
    · have hpos := dig_len_pos.2 hb0
      have hmod : a % b < b := Nat.mod_lt _ hb0
      have hdm : (dig (a % b)).length ≤ (dig b).length := dig_mono (by omega)
      have hgcd : Nat.gcd b (a % b) = Nat.gcd a b := by rw [Nat.gcd_comm a b, Nat.gcd_rec b a, Nat.gcd_comm]
      have HGC := Lib.hid hgcd
      clear hgcd
      go_wp2_with fail
      refine (divide_any A1 A2 _ _ c1 c2 a b _ H1 H2 rfl rfl (by omega) (by omega) hb0).mono ?_
      rintro e w3 ⟨A3, c3, A4, c4, rfl, H3, H4, hb3⟩
      go_wp2
      go_roundg (a % b)
      case measure => omega
      case rel => exact ⟨b, a % b, A2, A4, c2, c4, Nat.le_refl _, by omega, by omega, by rw [HGC.out, HG.out], rfl, rfl, H2.ext hb3, H4, HX.ext hb3⟩
    · obtain rfl : b = 0 := by omega
      have hz : (dig 0).length = 0 := rfl
      have ha := HG.out
      rw [Nat.gcd_zero_right] at ha
      have HAA := Lib.hid ha
      clear ha
      go_wp2_with fail
      refine (made_any A1 _ c1 (dig a) _ H1 (dig_Dig _) rfl (by omega)).mono ?_
      rintro e w4 ⟨A5, c5, rfl, H5, hb4⟩
      rw [val_dig] at H5
      rw [val_dig]
      have HX4 := HX.ext hb4
      have hc2 := HX4.cell 2 0 rfl rfl
      have hf2 := HX4.free 2 0 rfl
      go_wp2
      have hav := H5.avoid_blk (HX4.blk 2 rfl) (by simp [Value.noInt])
      have hq := set_same (v := .slice A5 (dig a).length c5) hc2
      rw [← HAA.out]
      exact bodyPost_ret (v := .agg #[.slice A5 (dig a).length c5]) (by simp [results, Tryz.results154, go_sem, hq]) rfl ⟨A5, c5, rfl, H5.setCell hav _, HX4.below.setCell (by simp; omega) _⟩
end Go.Proofs.YtolkijelldlmeaaGreatDoor
