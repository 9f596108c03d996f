/- The reference of layer 1: Digits. -/
import Derived.Test.YtjacffmoccpogaaDoorText3
import Derived.Test.YtjacffmoccpogaaDoorRef2
import Derived.Test.YtjacffmoccpogaaDoorHoist
namespace Go.Proofs.YtjacffmoccpogaaDoor
open Go.RowKit Go.Proofs Go

theorem nd_top {N k : Nat} (h : (dig N).length = k + 1) : Lib.nDigits N = 9 * k + Lib.nDigits (at_ (dig N) k) := by
  have h0 : 0 < N := dig_len_pos.1 (by omega)
  have e := dig_last N h
  have h1 := dig_top h0
  rw [h, Nat.add_sub_cancel] at h1
  have hp := dec_pad h1 (9 * k) (x := N % pw k) (by rw [← pw_ten]; exact Nat.mod_lt _ (pw_pos k))
  rw [← pw_ten, ← e, Nat.mul_comm, Nat.div_add_mod] at hp
  have := congrArg List.length hp
  rw [List.length_append, Lib.decDigits_length, Lib.decDigits_length, pad_len, e] at this
  omega
/-- digits of a limb, none for 0 -/
def nd0 (t : Nat) : Nat := if t = 0 then 0 else Lib.nDigits t
theorem nd0_zero : nd0 0 = 0 := rfl
theorem nd0_pos {t : Nat} (h : 0 < t) : nd0 t = Lib.nDigits t := by rw [nd0, if_neg (by omega)]
theorem nd0_step {t : Nat} (h : 0 < t) : nd0 t = nd0 (t / 10) + 1 := by
  rw [nd0_pos h]
  by_cases h1 : t < 10
  · rw [Lib.nDigits_small h1, Nat.div_eq_of_lt h1]; rfl
  · rw [Lib.nDigits_big h1, nd0_pos (by omega)]

set_option maxHeartbeats 400000 in
set_option maxRecDepth 100000 in
theorem rdigits_any (A : Option Addr) (n c : Nat) (l : List Nat) (w : World) (H : Lim w A c l) (hn : n = l.length) (hl : n ≤ 536870912) :
    Calls Tryd.prog 39 #[.agg #[.slice A n c]] w fun e w' => e = .returned (.int .i64 (Lib.nDigits (val l) : Int)) ∧ Below w.heap.size w w' := by
  have hdl := dig_len_of H.small hn
  have HN := Lib.hid hn
  clear hn
  obtain ⟨N, hN⟩ : ∃ N, val l = N := ⟨_, rfl⟩
  rw [hN] at hdl
  rw [hN]
  have HV := Lib.hid hN
  clear hN
  go_enter Tryd.func39, Tryd.ntmps39
  go_wp2_with fail
  have HX := BL.one w #[.slice A n c] 24
  refine (rnorm_any A n c l _ (H.ext HX.below) HN.out (by omega)).mono ?_
  rw [HV.out]
  rintro e w1 ⟨A1, c1, rfl, H1, hb⟩
  replace HX := HX.ext hb
  have hc00 := HX.cell 0 0 rfl rfl
  have hf00 := HX.free 0 0 rfl
  simp only [] at hc00 hf00
  go_upto_region 2 with fail
  have hk := HX.keep1 0 rfl rfl (.slice A1 (dig N).length c1)
  replace HX := HX.put1 0 rfl (by omega) (by intro k q hk hne; match k, hk with | 0, hk => (simp at hk; subst hk; simp at hne ⊢; try omega) | k + 1, hk => simp at hk) (.slice A1 (dig N).length c1)
  replace H1 := H1.stay hk
  simp only [List.set_cons_zero] at HX
  clear hc00 hf00 hk hb H
  generalize w1.setCell ⟨w.heap.size, 0, none⟩ (.slice A1 (dig N).length c1) = W2 at *
  have hc00 := HX.cell 0 0 rfl rfl
  simp only [] at hc00
  by_cases h0 : (dig N).length = 0
  · have hz : (((dig N).length : Int) == 0) = true := by rw [h0]; rfl
    have hfin := Lib.hid (show Lib.nDigits N = 1 by rw [dig_len_zero.1 h0]; exact Lib.nDigits_small (by omega))
    clear h0
    go_wp2
    go_ret
    exact ⟨by rw [hfin.out]; rfl, HX.below⟩
  · obtain ⟨k, hk⟩ : ∃ k, (dig N).length = k + 1 := ⟨(dig N).length - 1, by omega⟩
    have hz : (((dig N).length : Int) == 0) = false := by rw [beq_eq_false_iff_ne]; omega
    have hnd := Lib.hid (nd_top hk)
    have hd9 := dig_Dig N k
    have htop := dig_top (n := N) (dig_len_pos.1 (by omega))
    rw [hk, Nat.add_sub_cancel] at htop
    obtain ⟨ad, rfl, _, hcell⟩ := H1.cellAt (j := k) (by omega)
    have hk1 : ((dig N).length : Int) - 1 = (k : Int) := by omega
    have hndp := Lib.nDigits_pos (at_ (dig N) k)
    have hnd9 : Lib.nDigits (at_ (dig N) k) ≤ 9 := nDigits_le (by omega) hd9
    have h00 : nd0 (at_ (dig N) k) = Lib.nDigits (at_ (dig N) k) := nd0_pos htop
    clear h0
    generalize at_ (dig N) k = T at *
    have hh00 := Lib.hid h00
    clear h00
    go_wp2
    go_loopw [3, 4] (fun x y wr => ∃ m t : Nat, m + nd0 t = 9 * k + Lib.nDigits T ∧ t ≤ T ∧ x = .int .i64 (m : Int) ∧ y = .int .u32 (t : Int) ∧ wr = W2) (fun _ y _ => (intOf y).toNat)
    case atStart => exact ⟨9 * k, T, by rw [hh00.out], Nat.le_refl _, by go_num, rfl, rfl⟩
    case round =>
      obtain ⟨m, t, hm, ht, rfl, rfl, rfl⟩ := hrel
      by_cases ht0 : 0 < t
      · have hs := Lib.hid (nd0_step ht0)
        have HM := Lib.hid hm
        have hmb : m ≤ 9 * k + 9 := by omega
        clear hm
        go_wp2
        go_roundw
        case rel => exact ⟨m + 1, t / 10, by have := HM.out; have := hs.out; omega, by omega, by go_num, by go_num, by first | rfl | trivial⟩
        case measure => simp [intOf]; omega
      · obtain rfl : t = 0 := by omega
        rw [nd0_zero, Nat.add_zero] at hm
        go_wp2
        go_ret
        exact ⟨ret_int (by rw [hnd.out]; omega), HX.below⟩
end Go.Proofs.YtjacffmoccpogaaDoor
