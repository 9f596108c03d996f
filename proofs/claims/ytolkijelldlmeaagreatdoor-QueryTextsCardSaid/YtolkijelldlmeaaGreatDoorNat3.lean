/- The package natural, third part: minus, times, short. -/
import Derived.Test.YtolkijelldlmeaaGreatDoorNat2
namespace Go.Proofs.YtolkijelldlmeaaGreatDoor
open Go.RowKit Go.Proofs

structure MinusAt (l m : List Nat) (k : Nat) (o : List Nat) (br : Nat) : Prop where
  len : o.length = k
  dg : Dig o
  car : br ≤ 1
  eq : val o + val (m.take k) = val (l.take k) + pw k * br
theorem MinusAt.next {l m : List Nat} {k : Nat} {o : List Nat} {br x br2 : Nat} (h : MinusAt l m k o br) (hx : x < 1000000000) (hb : br2 ≤ 1) (e : x + at_ m k + br = at_ l k + 1000000000 * br2) :
    MinusAt l m (k + 1) (o ++ [x]) br2 := by
  refine ⟨by rw [List.length_append, h.len]; rfl, h.dg.snoc hx, hb, ?_⟩
  rw [val_snoc, val_take_at l, val_take_at m, h.len, pw_succ]
  have e1 := h.eq
  grind
theorem MinusAt.done {a b : Nat} {o : List Nat} {br : Nat} (h : MinusAt (dig a) (dig b) (dig a).length o br) (hle : b ≤ a) : val o = a - b := by
  have e := h.eq
  have hlt := val_lt h.dg
  rw [h.len] at hlt
  rw [List.take_of_length_le (Nat.le_refl _), List.take_of_length_le (dig_mono hle), val_dig, val_dig] at e
  have hc := h.car
  rcases Nat.eq_zero_or_pos br with h0 | h0
  · rw [h0] at e; omega
  · obtain rfl : br = 1 := by omega
    omega

set_option maxRecDepth 100000 in
theorem minus_new (A B : Option Addr) (n m c d : Nat) (a b : Nat) (w : World) (HA : Lim w A c (dig a)) (HB : Lim w B d (dig b)) (hn : n = (dig a).length) (hm : m = (dig b).length) (hl : n ≤ 8589934592) (hle : b ≤ a) :
    Calls Tryz.prog 158 #[.slice A n c, .slice B m d] w (RetF w (a - b)) := by
  subst hn hm
  have hmono := dig_mono hle
  go_enter Tryz.func158, Tryz.ntmps158
  go_wp2_with (at_make; refine wp_make0 EU _ rfl _ _ rfl _ ((dig a).length) rfl rfl (by omega) (by omega) (by omega) ?_)
  intro w1 hown hb hlt
  go_wp2
  go_loopw [5, 6, 15] (fun s cy i wr => ∃ (k : Nat) (o : List Nat) (br : Nat) (A' : Option Addr) (c' : Nat), k ≤ (dig a).length ∧ MinusAt (dig a) (dig b) k o br ∧ s = .slice A' k c' ∧ cy = .int .i64 br ∧ i = .int .i64 k ∧ Own wr w.heap.size 208 A' k c' (ints .u32 o) ∧ Below w.heap.size w wr)
    (fun _ _ i _ => (dig a).length - (intOf i).toNat)
  case atStart => exact ⟨0, [], 0, _, _, by omega, ⟨rfl, Dig.nil, by omega, rfl⟩, rfl, rfl, rfl, hown, hb⟩
  case round =>
    obtain ⟨k, o, br, A', c', hk, hL, rfl, rfl, rfl, hown, hb⟩ := hrel
    have hcar := hL.car
    have hsz := hb.size
    by_cases hlt : k < (dig a).length
    · have hd1 := dig_Dig a k
      have hd2 := dig_Dig b k
      obtain ⟨ad, rfl, _, hc⟩ := (HA.ext hb).cellAt hlt
      by_cases hlt2 : k < (dig b).length
      · obtain ⟨bd, rfl, _, hc2⟩ := (HB.ext hb).cellAt hlt2
        by_cases hneg : at_ (dig a) k < br + at_ (dig b) k
        · have hx := hL.next (x := at_ (dig a) k + 1000000000 - br - at_ (dig b) k) (br2 := 1) (by omega) (by omega) (by omega)
          go_wp2_with (at_builtin; refine wp_push EU _ rfl _ _ rfl rfl rfl hown (by rfl) (by omega) (by omega) (by omega) ?_)
          intro A2 c2 w2 hown2 hgr2 hb2 hlt2
          go_wp2
          go_roundw
          case rel => exact ⟨k + 1, _, _, _, _, by omega, hx, rfl, rfl, by go_num, own_snoc hown2 (by omega), hb.trans hb2⟩
          case measure => simp [intOf]; omega
        · have hx := hL.next (x := at_ (dig a) k - br - at_ (dig b) k) (br2 := 0) (by omega) (by omega) (by omega)
          go_wp2_with (at_builtin; refine wp_push EU _ rfl _ _ rfl rfl rfl hown (by rfl) (by omega) (by omega) (by omega) ?_)
          intro A2 c2 w2 hown2 hgr2 hb2 hlt2
          go_wp2
          go_roundw
          case rel => exact ⟨k + 1, _, _, _, _, by omega, hx, rfl, rfl, by go_num, own_snoc hown2 (by omega), hb.trans hb2⟩
          case measure => simp [intOf]; omega
      · have hz : at_ (dig b) k = 0 := at_ge (by omega)
        by_cases hneg : at_ (dig a) k < br
        · have hx := hL.next (x := at_ (dig a) k + 1000000000 - br) (br2 := 1) (by omega) (by omega) (by omega)
          clear hz
          go_wp2_with (at_builtin; refine wp_push EU _ rfl _ _ rfl rfl rfl hown (by rfl) (by omega) (by omega) (by omega) ?_)
          intro A2 c2 w2 hown2 hgr2 hb2 hlt2
          go_wp2
          go_roundw
          case rel => exact ⟨k + 1, _, _, _, _, by omega, hx, rfl, rfl, by go_num, own_snoc hown2 (by omega), hb.trans hb2⟩
          case measure => simp [intOf]; omega
        · have hx := hL.next (x := at_ (dig a) k - br) (br2 := 0) (by omega) (by omega) (by omega)
          clear hz
          go_wp2_with (at_builtin; refine wp_push EU _ rfl _ _ rfl rfl rfl hown (by rfl) (by omega) (by omega) (by omega) ?_)
          intro A2 c2 w2 hown2 hgr2 hb2 hlt2
          go_wp2
          go_roundw
          case rel => exact ⟨k + 1, _, _, _, _, by omega, hx, rfl, rfl, by go_num, own_snoc hown2 (by omega), hb.trans hb2⟩
          case measure => simp [intOf]; omega
    · obtain rfl : k = (dig a).length := by omega
      have hv := hL.done hle
      have hlen := hL.len
      have hown3 : Own wr w.heap.size 208 A' o.length c' (ints .u32 o) := by rw [hlen]; exact hown
      have HL := Own.lim hown3 (small_of_dig hL.dg)
      have HAV : ∀ g, g < w.heap.size → Avoid g A' o.length := fun g hg => Own.avoid hown3 hg
      have HV := Lib.hid hv
      have HN := Lib.hid hlen.symm
      clear hv hlen hown hown3
      go_wp2_with fail
      refine (trim_any A' _ c' o wr HL HN.out (by omega)).mono ?_
      rintro e w' ⟨rfl, rfl⟩
      go_wp2
      go_ret
      refine ⟨A', c', ret_slice (by rw [trimL_val hL.dg, HV.out]), ?_, hb, fun g hg => (HAV g hg).mono ?_⟩
      · rw [← HV.out, ← trimL_val hL.dg]; exact HL.trimL
      · rw [← HV.out, ← trimL_val hL.dg]; exact trimL_len o
theorem RetF.ret {w w' : World} {n : Nat} {e : Ending} (h : RetF w n e w') : RetS w n e w' := by
  obtain ⟨A, c, h1, h2, h3, _⟩ := h
  exact ⟨A, c, h1, h2, h3⟩
theorem minus_any (A B : Option Addr) (n m c d : Nat) (a b : Nat) (w : World) (HA : Lim w A c (dig a)) (HB : Lim w B d (dig b)) (hn : n = (dig a).length) (hm : m = (dig b).length) (hl : n ≤ 8589934592) (hle : b ≤ a) :
    Calls Tryz.prog 158 #[.slice A n c, .slice B m d] w (RetS w (a - b)) := (minus_new A B n m c d a b w HA HB hn hm hl hle).mono fun _ _ h => h.ret
end Go.Proofs.YtolkijelldlmeaaGreatDoor
