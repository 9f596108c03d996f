/- The reference of layer 1: Pow; the errors of natural.Pow. -/
import Derived.Test.YtjacffmoccpogaaDoorRDig
namespace Go.Proofs.YtjacffmoccpogaaDoor
open Go.RowKit Go.Proofs Go

theorem pow_len2 {V r N : Nat} (h : r ≤ N) (hd : Lib.nDigits V * N ≤ 4000) : (dig (V ^ r)).length ≤ 445 := pow_len h hd

set_option maxHeartbeats 400000 in
set_option maxRecDepth 100000 in
theorem npow_range (A : Option Addr) (n c : Nat) (k : Int) (w : World) (hk : k < 0 ∨ 256 < k) :
    Calls Tryd.prog 29 #[.agg #[.slice A n c], .int .i64 k] w (RetNE w 0 2) := by
  have HX := BL.two w #[.slice A n c] #[.slice none 0 0] 24 24
  have hc10 := HX.cell 1 0 rfl rfl
  have hf10 := HX.free 1 0 rfl
  simp only [] at hc10 hf10
  by_cases h0 : k < 0
  · clear hk
    go_enter Tryd.func29, Tryd.ntmps29
    go_wp2
    exact bodyPost_ret (v := .tuple #[.agg #[.slice none 0 0], .int .i64 2]) (by simp [results, Tryd.results29, go_sem, hc10]) rfl (RetNE.nil HX.below)
  · have h1 : 256 < k := by omega
    clear hk
    go_enter Tryd.func29, Tryd.ntmps29
    go_wp2
    exact bodyPost_ret (v := .tuple #[.agg #[.slice none 0 0], .int .i64 2]) (by simp [results, Tryd.results29, go_sem, hc10]) rfl (RetNE.nil HX.below)

set_option maxHeartbeats 400000 in
set_option maxRecDepth 100000 in
theorem npow_full (A : Option Addr) (n c : Nat) (l : List Nat) (N : Nat) (w : World) (H : Lim w A c l) (hn : n = l.length) (hl : n ≤ 536870912) (hT : Tab w) (hN : N ≤ 256) (hD : 4000 < Lib.nDigits (val l) * N) :
    Calls Tryd.prog 29 #[.agg #[.slice A n c], .int .i64 (N : Int)] w (RetNE w 0 6) := by
  have hdl := dig_len_of H.small hn
  have hnd := nDigits_dig hdl
  have HN := Lib.hid hn
  clear hn
  go_enter Tryd.func29, Tryd.ntmps29
  have hd4 : 4000 < (Lib.nDigits (val l) : Int) * (N : Int) := by exact_mod_cast hD
  have hd5 : (Lib.nDigits (val l) : Int) * (N : Int) ≤ 1236950583808 := by
    have : Lib.nDigits (val l) * N ≤ 1236950583808 := Nat.le_trans (Nat.mul_le_mul (show Lib.nDigits (val l) ≤ 4831838218 by omega) hN) (by decide)
    have h2 := Int.ofNat_le.2 this
    rw [Int.natCast_mul] at h2
    exact h2
  have hwr : IntKind.i64.wrap ((Lib.nDigits (val l) : Int) * (N : Int)) = (Lib.nDigits (val l) : Int) * (N : Int) := by
    unfold IntKind.wrap; simp only [IntKind.signed, IntKind.bits]; simp; omega
  go_wp2_with fail
  have HX := BL.two w #[.slice A n c] #[.slice none 0 0] 24 24
  refine (ndigits_any A n c l _ (H.ext HX.below) HN.out (by omega) (hT.ext HX.below)).mono ?_
  rintro e w1 ⟨rfl, hb⟩
  replace HX := HX.ext hb
  have hc10 := HX.cell 1 0 rfl rfl
  have hf10 := HX.free 1 0 rfl
  simp only [] at hc10 hf10
  go_wp2
  exact bodyPost_ret (v := .tuple #[.agg #[.slice none 0 0], .int .i64 6]) (by simp [results, Tryd.results29, go_sem, hc10]) rfl (RetNE.nil (HX.below.setCell (by simp) _))

set_option maxHeartbeats 400000 in
set_option maxRecDepth 100000 in
theorem rpow_range (A : Option Addr) (n c : Nat) (k : Int) (w : World) (hk : k < 0 ∨ 256 < k) :
    Calls Tryd.prog 30 #[.agg #[.slice A n c], .int .i64 k] w (RetNE w 0 2) := by
  have HX := BL.two w #[.slice A n c] #[.slice none 0 0] 24 24
  have hc10 := HX.cell 1 0 rfl rfl
  have hf10 := HX.free 1 0 rfl
  simp only [] at hc10 hf10
  by_cases h0 : k < 0
  · clear hk
    go_enter Tryd.func30, Tryd.ntmps30
    go_wp2
    exact bodyPost_ret (v := .tuple #[.agg #[.slice none 0 0], .int .i64 2]) (by simp [results, Tryd.results30, go_sem, hc10]) rfl (RetNE.nil HX.below)
  · have h1 : 256 < k := by omega
    clear hk
    go_enter Tryd.func30, Tryd.ntmps30
    go_wp2
    exact bodyPost_ret (v := .tuple #[.agg #[.slice none 0 0], .int .i64 2]) (by simp [results, Tryd.results30, go_sem, hc10]) rfl (RetNE.nil HX.below)

set_option maxHeartbeats 400000 in
set_option maxRecDepth 100000 in
theorem rpow_full (A : Option Addr) (n c : Nat) (l : List Nat) (N : Nat) (w : World) (H : Lim w A c l) (hn : n = l.length) (hl : n ≤ 536870912) (hN : N ≤ 256) (hD : 4000 < Lib.nDigits (val l) * N) :
    Calls Tryd.prog 30 #[.agg #[.slice A n c], .int .i64 (N : Int)] w (RetNE w 0 6) := by
  have hdl := dig_len_of H.small hn
  have hnd := nDigits_dig hdl
  have HN := Lib.hid hn
  clear hn
  go_enter Tryd.func30, Tryd.ntmps30
  have hd4 : 4000 < (Lib.nDigits (val l) : Int) * (N : Int) := by exact_mod_cast hD
  have hd5 : (Lib.nDigits (val l) : Int) * (N : Int) ≤ 1236950583808 := by
    have : Lib.nDigits (val l) * N ≤ 1236950583808 := Nat.le_trans (Nat.mul_le_mul (show Lib.nDigits (val l) ≤ 4831838218 by omega) hN) (by decide)
    have h2 := Int.ofNat_le.2 this
    rw [Int.natCast_mul] at h2
    exact h2
  have hwr : IntKind.i64.wrap ((Lib.nDigits (val l) : Int) * (N : Int)) = (Lib.nDigits (val l) : Int) * (N : Int) := by
    unfold IntKind.wrap; simp only [IntKind.signed, IntKind.bits]; simp; omega
  go_wp2_with fail
  have HX := BL.two w #[.slice A n c] #[.slice none 0 0] 24 24
  refine (rdigits_any A n c l _ (H.ext HX.below) HN.out (by omega)).mono ?_
  rintro e w1 ⟨rfl, hb⟩
  replace HX := HX.ext hb
  have hc10 := HX.cell 1 0 rfl rfl
  have hf10 := HX.free 1 0 rfl
  simp only [] at hc10 hf10
  go_wp2
  exact bodyPost_ret (v := .tuple #[.agg #[.slice none 0 0], .int .i64 6]) (by simp [results, Tryd.results30, go_sem, hc10]) rfl (RetNE.nil (HX.below.setCell (by simp) _))

set_option maxHeartbeats 1000000 in
set_option maxRecDepth 100000 in
theorem rpow_any (A : Option Addr) (n c : Nat) (l : List Nat) (N : Nat) (w : World) (H : Lim w A c l) (hn : n = l.length) (hl : n ≤ 536870912) (hN : N ≤ 256) (hD : Lib.nDigits (val l) * N ≤ 4000) :
    Calls Tryd.prog 30 #[.agg #[.slice A n c], .int .i64 (N : Int)] w (RetNE w (val l ^ N) 0) := by
  have hdl := dig_len_of H.small hn
  have hnd := nDigits_dig hdl
  have hpl := Lib.hid (fun r (hr : r ≤ N) => pow_len2 hr hD)
  have HN := Lib.hid hn
  clear hn
  go_enter Tryd.func30, Tryd.ntmps30
  have hd4 : (Lib.nDigits (val l) : Int) * (N : Int) ≤ 4000 := by exact_mod_cast hD
  have hd5 : (0 : Int) ≤ (Lib.nDigits (val l) : Int) * (N : Int) := by exact_mod_cast Nat.zero_le _
  have hwr : IntKind.i64.wrap ((Lib.nDigits (val l) : Int) * (N : Int)) = (Lib.nDigits (val l) : Int) * (N : Int) := by
    unfold IntKind.wrap; simp only [IntKind.signed, IntKind.bits]; simp; omega
  go_wp2_with fail
  have HX := BL.two w #[.slice A n c] #[.slice none 0 0] 24 24
  have H0 := H
  refine (rdigits_any A n c l _ (H.ext HX.below) HN.out (by omega)).mono ?_
  rintro e w1 ⟨rfl, hb⟩
  replace HX := HX.ext hb
  clear hb
  go_wp2_with fail
  refine (rof_any 1 _ (by omega)).mono ?_
  rintro e w2 ⟨A2, c2, rfl, H2, hb⟩
  replace HX := HX.ext hb
  clear hb
  have hg1 : w.heap.size + 1 < w2.heap.size := HX.lt 1 rfl
  go_upto_region 7 with fail
  have hb := below_alloc w2 (.cells #[.slice A2 (dig 1).length c2] 24)
  replace HX := HX.new #[.slice A2 (dig 1).length c2] 24
  simp only [List.cons_append, List.nil_append] at HX
  replace H2 := H2.ext hb
  clear hb hwr hd4 hd5 H
  generalize w2.alloc (.cells #[.slice A2 (dig 1).length c2] 24) = W3 at *
  generalize w2.heap.size = g at *
  have h11 : dig 1 = dig (val l ^ 0) := by rw [Nat.pow_zero]
  rw [h11] at H2 HX
  clear h11
  have hvl : Hid (∀ (W : World), Below w.heap.size w W → Lim W A c l) := Lib.hid (fun W hb => H0.ext hb)
  clear H0
  obtain ⟨V, hV⟩ : ∃ V, val l = V := ⟨_, rfl⟩
  rw [hV] at H2 HX hpl
  rw [hV]
  go_loopg [7] N (fun k x wr => ∃ (j : Nat) (Ao : Option Addr) (co : Nat), j + k = N ∧ x = .int .i64 (j : Int) ∧ Lim wr Ao co (dig (V ^ j)) ∧ BL w wr [(w.heap.size, #[.slice A n c], 24), (w.heap.size + 1, #[.slice none 0 0], 24), (g, #[.slice Ao (dig (V ^ j)).length co], 24)])
  case atStart => exact ⟨0, A2, c2, by omega, rfl, H2, HX⟩
  case round =>
    clear H2 HX
    obtain ⟨j, Ao, co, hj, rfl, H2, HX⟩ := hrel
    have hlj := hpl.out j (by omega)
    by_cases hj0 : j < N
    · have Ha := hvl.out wr HX.below
      have hc00 := HX.cell 0 0 rfl rfl
      have hc20 := HX.cell 2 0 rfl rfl
      simp only [] at hc00 hc20
      go_wp2_with fail
      refine (rmul_any Ao A _ n co c (dig (V ^ j)) l _ H2 Ha rfl HN.out (by omega) (by omega)).mono ?_
      rw [val_dig, hV, ← Nat.pow_succ]
      rintro e w4 ⟨A4, c4, rfl, H4, hb⟩
      replace HX := HX.ext hb
      clear hc00 hc20 hb H2 Ha
      have hc20 := HX.cell 2 0 rfl rfl
      have hf20 := HX.free 2 0 rfl
      simp only [] at hc20 hf20
      go_wp2
      have hk := HX.keep1 2 rfl rfl (.slice A4 (dig (V ^ (j + 1))).length c4)
      replace HX := HX.put1 2 rfl (by omega) (by intro k q hk hne; match k, hk with | 0, hk => (simp at hk; subst hk; simp at hne ⊢; try omega) | 1, hk => (simp at hk; subst hk; simp at hne ⊢; try omega) | 2, hk => (simp at hk; subst hk; simp at hne ⊢; try omega) | k + 3, hk => simp at hk) (.slice A4 (dig (V ^ (j + 1))).length c4)
      replace H4 := H4.stay hk
      simp only [List.set_cons_zero, List.set_cons_succ] at HX
      go_roundg (N - (j + 1))
      case measure => omega
      case rel => exact ⟨j + 1, A4, c4, by omega, by go_num, H4, HX⟩
    · obtain rfl : j = N := by omega
      have hc10 := HX.cell 1 0 rfl rfl
      have hf10 := HX.free 1 0 rfl
      have hc20 := HX.cell 2 0 rfl rfl
      simp only [] at hc10 hf10 hc20
      go_wp2
      have hk := HX.keep1 1 rfl rfl (.slice Ao (dig (V ^ j)).length co)
      replace HX := HX.put1 1 rfl (by omega) (by intro k q hk hne; match k, hk with | 0, hk => (simp at hk; subst hk; simp at hne ⊢; try omega) | 1, hk => (simp at hk; subst hk; simp at hne ⊢; try omega) | 2, hk => (simp at hk; subst hk; simp at hne ⊢; try omega) | k + 3, hk => simp at hk) (.slice Ao (dig (V ^ j)).length co)
      replace H2 := H2.stay hk
      simp only [List.set_cons_zero, List.set_cons_succ] at HX
      clear hc10 hf10 hc20 hk
      have hc10 := HX.cell 1 0 rfl rfl
      simp only [] at hc10
      exact bodyPost_ret (v := .tuple #[.agg #[.slice Ao (dig (V ^ j)).length co], .int .i64 0]) (by simp [results, Tryd.results30, go_sem, hc10]) rfl (by rw [hV]; exact ⟨Ao, co, rfl, H2, HX.below⟩)
end Go.Proofs.YtjacffmoccpogaaDoor
