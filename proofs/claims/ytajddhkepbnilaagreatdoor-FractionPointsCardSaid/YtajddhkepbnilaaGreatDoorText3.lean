/- The package natural: Digits, Pow. -/
import Derived.Test.YtajddhkepbnilaaGreatDoorText2
namespace Go.Proofs.YtajddhkepbnilaaGreatDoor
open Go.RowKit Go.Proofs Go

set_option maxHeartbeats 400000 in
set_option maxRecDepth 100000 in
theorem ndigits_any (A : Option Addr) (n c : Nat) (l : List Nat) (w : World) (H : Lim w A c l) (hn : n = l.length) (hl : n ≤ 1073741824) (hT : Tab w) :
    Calls Tryz.prog 107 #[.agg #[.slice A n c]] w fun e w' => e = .returned (.int .i64 (Lib.nDigits (val l) : Int)) ∧ Below w.heap.size w w' := by
  go_enter Tryz.func107, Tryz.ntmps107
  have HN := Lib.hid hn
  clear hn
  go_wp2_with fail
  have HX := Bx.one w #[.slice A n c] 25
  refine (ntext_any A n c l _ (H.ext HX.below) HN.out (by omega) (hT.ext HX.below)).mono ?_
  rintro e w1 ⟨rfl, hb1⟩
  have HX1 := HX.ext hb1
  have hsz : ((str (Lib.decDigits (val l))).size : Int) = (Lib.nDigits (val l) : Int) := by rw [str_size, Lib.decDigits_length]
  go_wp2
  go_ret
  exact ⟨ret_int (by first | rfl | exact hsz), HX1.below⟩

theorem and_one_256 : ∀ e : Fin 257, bits BinOp.and IntKind.i64 (e.val : Int) 1 = ((e.val % 2 : Nat) : Int) := by decide +kernel
theorem pow_le_max {V r N : Nat} (h : r ≤ N) : V ^ r ≤ max 1 (V ^ N) := by
  rcases Nat.eq_zero_or_pos V with h0 | h0
  · subst h0
    rcases Nat.eq_zero_or_pos r with h1 | h1
    · subst h1; simp; omega
    · rw [Nat.zero_pow h1]; omega
  · have := Nat.pow_le_pow_right h0 h; omega
theorem pow_len {V r N : Nat} (h : r ≤ N) (hd : Lib.nDigits V * N ≤ 4000) : (dig (V ^ r)).length ≤ 445 := by
  obtain ⟨L, hL⟩ : ∃ L, L = 445 := ⟨_, rfl⟩
  rw [← hL]
  refine dig_len_le (Nat.lt_of_le_of_lt (pow_le_max h) ?_)
  obtain ⟨K, hK⟩ : ∃ K, K = 4001 := ⟨_, rfl⟩
  have h1 : V ^ N < 10 ^ K := by
    have h2 : V ^ N ≤ (10 ^ Lib.nDigits V) ^ N := Nat.pow_le_pow_left (Nat.le_of_lt (Lib.lt_pow_nDigits V)) N
    rw [← Nat.pow_mul] at h2
    exact Nat.lt_of_le_of_lt h2 (Nat.pow_lt_pow_right (by omega) (by omega))
  have h3 : (10 : Nat) ^ K ≤ pw L := by rw [pw_ten]; exact Nat.pow_le_pow_right (by omega) (by omega)
  have h4 : 1 < 10 ^ K := Nat.one_lt_pow (by omega) (by omega)
  generalize 10 ^ K = T at *
  omega

set_option maxHeartbeats 1000000 in
set_option maxRecDepth 100000 in
theorem npow_any (A : Option Addr) (n c : Nat) (l : List Nat) (N : Nat) (w : World) (H : Lim w A c l) (hn : n = l.length) (hl : n ≤ 1073741824) (hT : Tab w) (hN : N ≤ 256) (hD : Lib.nDigits (val l) * N ≤ 4000) :
    Calls Tryz.prog 54 #[.agg #[.slice A n c], .int .i64 (N : Int)] w (RetNE w (val l ^ N) 0) := by
  have hdl := dig_len_of H.small hn
  have hnd := nDigits_dig hdl
  have hpl : ∀ r, r ≤ N → (dig (val l ^ r)).length ≤ 445 := fun r hr => pow_len hr hD
  have HN := Lib.hid hn
  clear hn
  go_enter Tryz.func54, Tryz.ntmps54
  have hd4 : (Lib.nDigits (val l) : Int) * (N : Int) ≤ 4000 := by exact_mod_cast hD
  have hd5 : (0 : Int) ≤ (Lib.nDigits (val l) : Int) * (N : Int) := by exact_mod_cast Nat.zero_le _
  have hwr : IntKind.i64.wrap ((Lib.nDigits (val l) : Int) * (N : Int)) = (Lib.nDigits (val l) : Int) * (N : Int) := by
    unfold IntKind.wrap; simp only [IntKind.signed, IntKind.bits]; simp; omega
  go_wp2_with fail
  have HX := Bx.two w #[.slice A n c] #[.slice none 0 0] 25 25
  refine (ndigits_any A n c l _ (H.ext HX.below) HN.out (by omega) (hT.ext HX.below)).mono ?_
  rintro e w1 ⟨rfl, hb1⟩
  have HX1 := HX.ext hb1
  go_upto_region 5 with fail
  have hb5 : Below w1.heap.size w1 (w1.alloc (.cells #[.int .u32 1] 110)) := below_alloc _ _
  have HX5 := HX1.ext hb5
  have HL : Lim (w1.alloc (.cells #[.int .u32 1] 110)) (some ⟨w1.heap.size, 0, none⟩) 1 [1] := Lim.lit1 w1 110 (x := 1) (by omega)
  have hc0 := HX5.cell0 0 rfl rfl
  go_wp2_with fail
  refine (limbs_any A n c l _ (H.ext HX5.below) HN.out (by omega)).mono ?_
  rintro e w2 ⟨A2, c2, rfl, H2, hb2⟩
  have HX2 := HX5.ext hb2
  have HL2 := HL.ext hb2
  clear HX HX1 HX5 hb5 hc0 HL hwr hd4 hd5 hb1 hb2
  have hone : [1] = dig (val l ^ 0) := by rw [Nat.pow_zero]; rfl
  rw [hone] at HL2
  have h11 : (dig (val l ^ 0)).length = 1 := by rw [← hone]; rfl
  clear hone
  generalize val l = V at *
  go_upto_region 6 with fail
  go_loopg [1, 6, 7] N (fun k x y z wr => ∃ (e r t : Nat) (Ao As : Option Addr) (co cs : Nat), e ≤ k ∧ r + t * e = N ∧ 1 ≤ t ∧ x = .int .i64 (e : Int) ∧ y = .slice Ao (dig (V ^ r)).length co ∧ z = .slice As (dig (V ^ t)).length cs ∧ Lim wr Ao co (dig (V ^ r)) ∧ Lim wr As cs (dig (V ^ t)) ∧ Bx w wr [(#[.slice A n c], 25), (#[.slice none 0 0], 25)])
  case atStart =>
    refine ⟨N, 0, 1, some ⟨w1.heap.size, 0, none⟩, A2, 1, c2, Nat.le_refl _, by omega, by omega, rfl, ?_, ?_, HL2, ?_, HX2⟩
    · rw [h11]
    · rw [Nat.pow_one]
    · rw [Nat.pow_one]; exact H2
  case round =>
    clear HL2 H2 HX2 H
    obtain ⟨e, r, t, Ao, As, co, cs, hek, hre, ht1, rfl, rfl, rfl, Ho, Hs, HX⟩ := hrel
    by_cases he0 : e = 0
    · subst he0
      have hr := Lib.hid (show r = N by omega)
      have hlr := hpl r (by omega)
      go_wp2_with fail
      refine (made_any Ao _ co (dig (V ^ r)) _ Ho (dig_Dig _) rfl (by omega)).mono ?_
      rw [val_dig, hr.out]
      rintro e w4 ⟨A4, c4, rfl, H4, hb4⟩
      have HX4 := HX.ext hb4
      have hc4 := HX4.cell 1 0 rfl rfl
      have hf4 := HX4.free 1 0 rfl
      go_wp2
      have hav := H4.avoid_blk (HX4.blk 1 rfl) (by simp [Value.noInt])
      have hq := set_same (v := .slice A4 (dig (V ^ N)).length c4) hc4
      exact bodyPost_ret (v := .tuple #[.agg #[.slice A4 (dig (V ^ N)).length c4], .int .i64 0]) (by simp [results, Tryz.results54, go_sem, hq]) rfl ⟨A4, c4, rfl, H4.setCell hav _, HX4.below.setCell (by simp) _⟩
    · have hrN : r ≤ N := by omega
      have htN : t ≤ N := by have := Nat.le_mul_of_pos_right t (Nat.pos_of_ne_zero he0); omega
      have hlr := hpl r hrN
      have hlt := hpl t htN
      have heN : e ≤ t * e := Nat.le_mul_of_pos_left e ht1
      have hand := and_one_256 ⟨e, by omega⟩
      simp only at hand
      rcases Nat.mod_two_eq_zero_or_one e with hpar | hpar
      · rw [hpar] at hand
        have e1 : ¬ e = 1 := by omega
        obtain ⟨f, hf⟩ : ∃ f, e = 2 * f := ⟨e / 2, by omega⟩
        have hf0 : e / 2 = f := by omega
        have HRE := Lib.hid (show r + (t + t) * (e / 2) = N by rw [hf0, ← hre, hf, ← Nat.two_mul, Nat.mul_comm 2 t, Nat.mul_assoc])
        clear hf0 hf hpar hre
        go_wp2_with fail
        refine (times_any As As _ _ cs cs (V ^ t) (V ^ t) _ Hs Hs rfl rfl (by omega) (by omega)).mono ?_
        rw [← Nat.pow_add]
        rintro e w5 ⟨A5, c5, rfl, H5, hb5⟩
        have HX5 := HX.ext hb5
        have Ho5 := Ho.ext hb5
        go_wp2
        go_roundg (e / 2)
        case measure => omega
        case rel => exact ⟨e / 2, r, t + t, Ao, A5, co, c5, Nat.le_refl _, HRE.out, by omega, by first | rfl | (simp; done) | (rw [Int.natCast_ediv]; rfl), rfl, rfl, Ho5, H5, HX5⟩
      · rw [hpar] at hand
        obtain ⟨f, hf⟩ : ∃ f, e = 2 * f + 1 := ⟨e / 2, by omega⟩
        have hf0 : e / 2 = f := by omega
        have HRE := Lib.hid (show r + t + (t + t) * (e / 2) = N by rw [hf0, ← hre, hf, ← Nat.two_mul, Nat.mul_comm 2 t, Nat.mul_assoc, Nat.mul_add]; omega)
        by_cases he1 : 1 < e
        · clear hf0 hf hpar hre
          go_wp2_with fail
          refine (times_any Ao As _ _ co cs (V ^ r) (V ^ t) _ Ho Hs rfl rfl (by omega) (by omega)).mono ?_
          rw [← Nat.pow_add]
          rintro e w4 ⟨A4, c4, rfl, H4, hb4⟩
          have HX4 := HX.ext hb4
          have Hs4 := Hs.ext hb4
          go_wp2_with fail
          refine (times_any As As _ _ cs cs (V ^ t) (V ^ t) _ Hs4 Hs4 rfl rfl (by omega) (by omega)).mono ?_
          rw [← Nat.pow_add]
          rintro e w5 ⟨A5, c5, rfl, H5, hb5⟩
          have HX5 := HX4.ext hb5
          have Ho5 := H4.ext hb5
          go_wp2
          go_roundg (e / 2)
          case measure => omega
          case rel => exact ⟨e / 2, (r + t), t + t, A4, A5, c4, c5, Nat.le_refl _, HRE.out, by omega, by first | rfl | (simp; done) | (rw [Int.natCast_ediv]; rfl), rfl, rfl, Ho5, H5, HX5⟩
        · have hf00 : f = 0 := by omega
          have HRE2 := Lib.hid (show r + t + t * (e / 2) = N by rw [hf0, hf00, ← hre, hf, hf00]; simp)
          clear hf0 hf hpar hre hf00
          go_wp2_with fail
          refine (times_any Ao As _ _ co cs (V ^ r) (V ^ t) _ Ho Hs rfl rfl (by omega) (by omega)).mono ?_
          rw [← Nat.pow_add]
          rintro e w4 ⟨A4, c4, rfl, H4, hb4⟩
          have HX4 := HX.ext hb4
          have Hs4 := Hs.ext hb4
          go_wp2
          go_roundg (e / 2)
          case measure => omega
          case rel => exact ⟨e / 2, r + t, t, A4, As, c4, cs, Nat.le_refl _, HRE2.out, by omega, by first | rfl | (simp; done) | (rw [Int.natCast_ediv]; rfl), rfl, rfl, H4, Hs4, HX4⟩
end Go.Proofs.YtajddhkepbnilaaGreatDoor
