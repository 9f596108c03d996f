/- The reference of layer 1: Text. -/
import Derived.Test.YtolkijelldlmeaaGreatDoorText3
import Derived.Test.YtolkijelldlmeaaGreatDoorRef2
import Derived.Test.YtolkijelldlmeaaGreatDoorHoist
import Derived.Test.YtolkijelldlmeaaGreatDoorPMath
namespace Go.Proofs.YtolkijelldlmeaaGreatDoor
open Go.RowKit Go.Proofs Go

theorem conv_byte (W : World) {d : Nat} {e : Int} (he : e = (d : Int)) (hd : d < 256) :
    (convert 182 9 (.slice (some ⟨W.heap.size, 0, none⟩) 1 1)).run Tryz.prog (W.alloc (.cells #[.int .u8 e] 5)) = .ok (.string (str [UInt8.ofNat d])) (W.alloc (.cells #[.int .u8 e] 5)) := by
  subst he
  exact run_convert_bytes_back (P := Tryz.prog) (W.alloc (.cells #[.int .u8 (d : Int)] 5)) 182 9 5 ⟨W.heap.size, 0, none⟩ 1 [UInt8.ofNat d] Tryz.underlying182 Tryz.underlying5 Tryz.underlying9 (fun j hj => by
    obtain rfl : j = 0 := by simpa using hj
    have e1 : (UInt8.ofNat d).toNat = d := by rw [UInt8.toNat_ofNat']; omega
    rw [Lib.add_plain, World.cell?_alloc_at _ _ _ _ rfl]
    simp [e1])

set_option maxHeartbeats 1000000 in
set_option maxRecDepth 100000 in
theorem rtext_any (A : Option Addr) (n c : Nat) (l : List Nat) (w : World) (H : Lim w A c l) (hn : n = l.length) (hl : n ≤ 536870912) :
    Calls Tryz.prog 257 #[.agg #[.slice A n c]] w fun e w' => e = .returned (.string (str (Lib.decDigits (val l)))) ∧ Below w.heap.size w w' := by
  have hdl := dig_len_of H.small hn
  have HN := Lib.hid hn
  clear hn
  obtain ⟨N, hN⟩ : ∃ N, val l = N := ⟨_, rfl⟩
  rw [hN] at hdl
  rw [hN]
  have HV := Lib.hid hN
  clear hN
  go_enter Tryz.func257, Tryz.ntmps257
  go_wp2_with fail
  have HX := BL.one w #[.slice A n c] 34
  refine (rnorm_any A n c l _ (H.ext HX.below) HN.out (by omega)).mono ?_
  rw [HV.out]
  rintro e w1 ⟨A1, c1, rfl, H1, hb⟩
  replace HX := HX.ext hb
  have hc00 := HX.cell 0 0 rfl rfl
  have hf00 := HX.free 0 0 rfl
  simp only [] at hc00 hf00
  go_upto_region 2 with fail
  have hk := HX.keep1 0 rfl rfl (.slice A1 (dig N).length c1)
  replace HX := HX.put1 0 rfl (by omega) (by intro k q hk hne; match k, hk with | 0, hk => (simp at hk; subst hk; simp at hne ⊢; try omega) | k + 1, hk => simp at hk) (.slice A1 (dig N).length c1)
  replace H1 := H1.stay hk
  simp only [List.set_cons_zero] at HX
  clear hc00 hf00 hk hb H
  generalize w1.setCell ⟨w.heap.size, 0, none⟩ (.slice A1 (dig N).length c1) = W2 at *
  go_wp2
  go_loopg [3, 4] (dig N).length (fun k x y wr => ∃ j : Nat, j + k = (dig N).length ∧ x = .string (str (pad (9 * j) N)) ∧ y = .int .i64 (j : Int) ∧ Lim wr A1 c1 (dig N) ∧ BL w wr [(w.heap.size, #[.slice A1 (dig N).length c1], 34)])
  case atStart => exact ⟨0, by omega, rfl, rfl, H1, HX⟩
  case round =>
    clear H1 HX
    obtain ⟨j, hj, rfl, rfl, H1, HX⟩ := hrel
    have hc00 := HX.cell 0 0 rfl rfl
    simp only [] at hc00
    by_cases hj0 : j < (dig N).length
    · obtain ⟨ad, rfl, _, hcell⟩ := H1.cellAt (j := j) hj0
      have hd9 := dig_Dig N j
      have hdg := Lib.hid (fun m (hm : m < 9) => limb_digit N j hm)
      generalize at_ (dig N) j = T at *
      go_wp2
      go_loopg [3, 5, 6] 9 (fun k' x y z wr => ∃ m : Nat, m + k' = 9 ∧ x = .string (str (pad (9 * j + m) N)) ∧ y = .int .u32 ((T / 10 ^ m : Nat) : Int) ∧ z = .int .i64 (m : Int) ∧ Lim wr (some ad) c1 (dig N) ∧ BL w wr [(w.heap.size, #[.slice (some ad) (dig N).length c1], 34)])
      case atStart => exact ⟨0, by omega, rfl, by rw [Nat.pow_zero, Nat.div_one], rfl, H1, HX⟩
      case round =>
        clear H1 HX hc00 hcell
        obtain ⟨m, hm, rfl, rfl, rfl, H1, HX⟩ := hrel
        by_cases hm0 : m < 9
        · have hdig := Lib.hid (hdg.out m hm0)
          have hTm : T / 10 ^ m ≤ T := Nat.div_le_self _ _
          have hTs := Lib.hid (show T / 10 ^ (m + 1) = T / 10 ^ m / 10 by rw [Nat.pow_succ, Nat.div_div_eq_div_mul])
          have hpl := pad_len (9 * j + m) N
          generalize T / 10 ^ m = D at *
          have hcv := conv_byte wr (d := 48 + D % 10) (e := 48 + (D : Int) % 10) (by omega) (by omega)
          have hap := Lib.hid (show str [UInt8.ofNat (48 + D % 10)] ++ str (pad (9 * j + m) N) = str (pad (9 * j + (m + 1)) N) by rw [str_append, ← Nat.add_assoc, pad_front, ← hdig.out]; rfl)
          have hs1 : (str [UInt8.ofNat (48 + D % 10)]).size ≤ 1 := Nat.le_of_eq (str_size _)
          generalize UInt8.ofNat (48 + D % 10) = b at *
          have hs2 : (str (pad (9 * j + m) N)).size ≤ 9663676417 := by rw [str_size, hpl]; omega
          go_wp2
          go_roundg (9 - (m + 1))
          case measure => omega
          case rel => exact ⟨m + 1, by omega, by rw [← hap.out], by rw [hTs.out]; go_num, by go_num, H1.ext (below_alloc _ _), HX.ext (below_alloc _ _)⟩
        · obtain rfl : m = 9 := by omega
          go_wp2
          go_roundg ((dig N).length - (j + 1))
          case measure => omega
          case rel => exact ⟨j + 1, by omega, rfl, by go_num, H1, HX⟩
    · have hjn : (dig N).length ≤ j := by omega
      have hlt : N < 10 ^ (9 * j) := by rw [← pw_ten]; exact Nat.lt_of_lt_of_le (dig_lt N) (pw_le hjn)
      have hst := Lib.hid (strip_pad hlt)
      have hpl := pad_len (9 * j) N
      have hjb : j ≤ 536870913 := by omega
      clear hlt hjn
      generalize pad (9 * j) N = L at *
      go_wp2
      go_loopg [3] L.length (fun k x wr' => ∃ M : List UInt8, M.length = k ∧ k ≤ L.length ∧ Hid (strip M = strip L) ∧ x = .string (str M) ∧ wr' = wr)
      case atStart => exact ⟨L, rfl, Nat.le_refl _, Lib.hid rfl, rfl, rfl⟩
      case round =>
        obtain ⟨M, hM, hMl, hstM, rfl, rfl⟩ := hrel
        cases M with
        | nil =>
          have hN0 : Hid (N = 0) := Lib.hid (by
            have h1 := hst.out
            rw [← hstM.out, strip_nil] at h1
            by_cases h : N = 0
            · exact h
            · rw [if_neg h] at h1
              have := dec_len_pos N
              rw [← h1] at this
              simp at this)
          have h0 : (str []).size = 0 := rfl
          have he : (str []).toList.isEmpty = true := by rw [str_toList]; rfl
          go_wp2
          go_ret
          exact ⟨by rw [hN0.out, dec_zero]; rfl, HX.below⟩
        | cons b M =>
          have h0 : (str (b :: M)).size = M.length + 1 := by rw [str_size]; rfl
          have he : (str (b :: M)).toList.isEmpty = false := by rw [str_toList]; rfl
          have hix : ∀ h, (str (b :: M))[0]'h = b := fun _ => rfl
          have hdr := str_drop (b :: M) 1
          rw [List.length_cons, List.drop_succ_cons, List.drop_zero] at hdr
          rw [List.length_cons] at hM
          by_cases hb : b = 48
          · have hb1 : (((b.toNat : Nat) : Int) == 48) = true := by rw [hb]; rfl
            have hs := Lib.hid (show strip M = strip L by rw [← hstM.out, hb, strip_zero])
            clear hb hstM
            go_wp2
            go_roundg M.length
            case measure => omega
            case rel => exact ⟨M, rfl, by omega, hs, by rw [← hM, hdr], by first | rfl | trivial⟩
          · have hb1 : (((b.toNat : Nat) : Int) == 48) = false := by
              rw [beq_eq_false_iff_ne]
              intro h
              exact hb (UInt8.toNat_inj.1 (show b.toNat = 48 by omega))
            have hfin := Lib.hid (show b :: M = Lib.decDigits N by
              have h1 := hst.out
              rw [← hstM.out, strip_ne hb] at h1
              by_cases h : N = 0
              · rw [if_pos h] at h1; cases h1
              · rw [if_neg h] at h1; exact h1)
            clear hb hstM
            go_wp2
            go_ret
            exact ⟨by rw [← hfin.out]; rfl, HX.below⟩
end Go.Proofs.YtolkijelldlmeaaGreatDoor
