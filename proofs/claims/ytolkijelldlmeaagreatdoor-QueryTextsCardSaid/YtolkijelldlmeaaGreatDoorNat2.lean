/- The package natural, second part: compare, plus, minus. -/
import Derived.Test.YtolkijelldlmeaaGreatDoorNat1
namespace Go.Proofs.YtolkijelldlmeaaGreatDoor
open Go.RowKit Go.Proofs

theorem div_step {a b k : Nat} (h : a / pw (k + 1) = b / pw (k + 1)) (e : at_ (dig a) k = at_ (dig b) k) : a / pw k = b / pw k := by
  rw [div_pw_succ, div_pw_succ b, h, e]
theorem lt_of_div {a b k : Nat} (h : a / pw k < b / pw k) : a < b := by
  rcases Nat.lt_or_ge a b with h' | h'
  · exact h'
  · have := Nat.div_le_div_right (c := pw k) h'; omega
theorem lt_of_at {a b k : Nat} (h : a / pw (k + 1) = b / pw (k + 1)) (e : at_ (dig a) k < at_ (dig b) k) : a < b :=
  lt_of_div (k := k) (by rw [div_pw_succ, div_pw_succ b, h]; omega)
theorem lt_of_len {a b : Nat} (h : (dig a).length < (dig b).length) : a < b := by
  rcases Nat.lt_or_ge a b with h' | h'
  · exact h'
  · have := dig_mono h'; omega
theorem div_len (a : Nat) {k : Nat} (h : (dig a).length ≤ k) : a / pw k = 0 := by
  rw [Nat.div_eq_of_lt]
  exact Nat.lt_of_lt_of_le (dig_lt a) (pw_le h)

set_option maxRecDepth 100000 in
theorem compare_any (A B : Option Addr) (n m c d : Nat) (a b : Nat) (w : World) (HA : Lim w A c (dig a)) (HB : Lim w B d (dig b)) (hn : n = (dig a).length) (hm : m = (dig b).length) (hl : n ≤ 1099511627776) (hl2 : m ≤ 1099511627776) :
    Calls Tryz.prog 157 #[.slice A n c, .slice B m d] w fun e w' => e = .returned (.int .i64 (cmpI a b)) ∧ Drawn w w' := by
  subst hn hm
  by_cases hlen : (dig a).length = (dig b).length
  · have hne : (((dig a).length : Int) != ((dig b).length : Int)) = false := by rw [hlen]; simp
    have HLEN := Lib.hid hlen
    clear hlen
    go_enter Tryz.func157, Tryz.ntmps157
    go_wp2
    go_loopw [5] (fun i wr => ∃ k q : Nat, k ≤ (dig a).length ∧ i = .int .i64 ((k : Int) - 1) ∧ a / pw k = b / pw k ∧ wr = w.drewN q) (fun i _ => (intOf i + 1).toNat)
    case atStart => exact ⟨(dig a).length, 0, Nat.le_refl _, rfl, by rw [div_len a (Nat.le_refl _), div_len b (by rw [HLEN.out]; exact Nat.le_refl _)], rfl⟩
    case round =>
      obtain ⟨k, q, hk, rfl, he, rfl⟩ := hrel
      have HE := Lib.hid he
      clear he
      by_cases hk0 : 0 < k
      · obtain ⟨j, rfl⟩ : ∃ j, k = j + 1 := ⟨k - 1, by omega⟩
        have hj : ((j + 1 : Nat) : Int) - 1 = j := by omega
        rw [hj]
        obtain ⟨ad, rfl, _, ha⟩ := HA.cellAt (j := j) (by omega)
        obtain ⟨bd, rfl, _, hb⟩ := HB.cellAt (j := j) (by have := HLEN.out; omega)
        have h1 : (j : Int) < (dig a).length := by omega
        have h2 : (j : Int) < (dig b).length := by have := HLEN.out; omega
        by_cases hat : at_ (dig a) j = at_ (dig b) j
        · have hb1 : (((at_ (dig a) j : Nat) : Int) != ((at_ (dig b) j : Nat) : Int)) = false := by rw [hat]; simp
          have HAT := Lib.hid hat
          clear hat hj
          go_wp2
          go_quiet (fail)
          go_wp2
          go_roundw
          case rel => exact ⟨j, _, by omega, rfl, div_step HE.out HAT.out, rfl⟩
          case measure => simp [intOf]
        · have hb1 : (((at_ (dig a) j : Nat) : Int) != ((at_ (dig b) j : Nat) : Int)) = true := by rw [bne_iff_ne]; omega
          clear hj
          by_cases hlt : at_ (dig a) j < at_ (dig b) j
          · go_wp2
            go_quiet (fail)
            go_wp2
            go_quiet (fail)
            go_wp2
            go_ret
            exact ⟨ret_int (cmpI_lt (lt_of_at HE.out hlt)).symm, _, by rw [World.drewN_drewN, World.drewN_drewN]⟩
          · go_wp2
            go_quiet (fail)
            go_wp2
            go_quiet (fail)
            go_wp2
            go_ret
            exact ⟨ret_int (cmpI_gt (lt_of_at HE.out.symm (by omega))).symm, _, by rw [World.drewN_drewN, World.drewN_drewN]⟩
      · obtain rfl : k = 0 := by omega
        go_wp2
        go_ret
        refine ⟨ret_int (cmpI_eq ?_).symm, _, rfl⟩
        have := HE.out
        rwa [pw_zero, Nat.div_one, Nat.div_one] at this
  · have hne : (((dig a).length : Int) != ((dig b).length : Int)) = true := by rw [bne_iff_ne]; omega
    by_cases hlt : (dig a).length < (dig b).length
    · go_enter Tryz.func157, Tryz.ntmps157
      go_wp2
      go_ret
      exact ⟨ret_int (cmpI_lt (lt_of_len hlt)).symm, 0, rfl⟩
    · go_enter Tryz.func157, Tryz.ntmps157
      go_wp2
      go_ret
      exact ⟨ret_int (cmpI_gt (lt_of_len (by omega))).symm, 0, rfl⟩

structure PlusAt (l m : List Nat) (k : Nat) (o : List Nat) (carry : Nat) : Prop where
  len : o.length = k
  dig : Dig o
  car : carry ≤ 1
  eq : val o + pw k * carry = val (l.take k) + val (m.take k)
theorem val_take_at (m : List Nat) (k : Nat) : val (m.take (k + 1)) = val (m.take k) + pw k * at_ m k := by
  by_cases h : k < m.length
  · exact val_take_succ h
  · rw [List.take_of_length_le (by omega), List.take_of_length_le (by omega), at_ge (by omega), Nat.mul_zero, Nat.add_zero]
theorem PlusAt.next {l m : List Nat} {k : Nat} {o : List Nat} {carry s : Nat} (h : PlusAt l m k o carry) (hl : Dig l) (hm : Dig m) (hs : s = at_ l k + carry + at_ m k) :
    PlusAt l m (k + 1) (o ++ [s % 1000000000]) (s / 1000000000) := by
  have := h.car
  have := hl k
  have := hm k
  refine ⟨by rw [List.length_append, h.len]; rfl, h.dig.snoc (by omega), by omega, ?_⟩
  rw [val_snoc, val_take_at l, val_take_at m, h.len, pw_succ]
  have e1 := h.eq
  have e : s = 1000000000 * (s / 1000000000) + s % 1000000000 := by omega
  generalize s / 1000000000 = q at *
  generalize s % 1000000000 = r at *
  grind
theorem PlusAt.done {l m : List Nat} {o : List Nat} {carry : Nat} (h : PlusAt l m l.length o carry) (hlen : m.length ≤ l.length) : val (o ++ [carry]) = val l + val m ∧ Dig (o ++ [carry]) := by
  have := h.car
  refine ⟨?_, h.dig.snoc (by omega)⟩
  rw [val_snoc, h.len, h.eq, List.take_of_length_le (Nat.le_refl _), List.take_of_length_le hlen]

set_option maxRecDepth 100000 in
theorem plus_le (A B : Option Addr) (n m c d : Nat) (a b : Nat) (w : World) (HA : Lim w A c (dig a)) (HB : Lim w B d (dig b)) (hn : n = (dig a).length) (hm : m = (dig b).length) (hl : n ≤ 8589934592) (hle : m ≤ n) :
    Calls Tryz.prog 156 #[.slice A n c, .slice B m d] w (RetS w (a + b)) := by
  subst hn hm
  go_enter Tryz.func156, Tryz.ntmps156
  go_wp2_with (at_make; refine wp_make0 EU _ rfl _ _ rfl _ ((dig a).length + 1) rfl rfl (by omega) (by omega) (by omega) ?_)
  intro w1 hown hb hlt
  go_wp2
  go_loopw [5, 6, 23] (fun s cy i wr => ∃ (k : Nat) (o : List Nat) (carry : Nat) (A' : Option Addr) (c' : Nat), k ≤ (dig a).length ∧ PlusAt (dig a) (dig b) k o carry ∧ s = .slice A' k c' ∧ cy = .int .u32 carry ∧ i = .int .i64 k ∧ Own wr w.heap.size 208 A' k c' (ints .u32 o) ∧ Below w.heap.size w wr)
    (fun _ _ i _ => (dig a).length - (intOf i).toNat)
  case atStart => exact ⟨0, [], 0, _, _, by omega, ⟨rfl, Dig.nil, by omega, rfl⟩, rfl, rfl, rfl, hown, hb⟩
  case round =>
    obtain ⟨k, o, carry, A', c', hk, hL, rfl, rfl, rfl, hown, hb⟩ := hrel
    have hcar := hL.car
    have hsz := hb.size
    by_cases hlt : k < (dig a).length
    · have hd1 := dig_Dig a k
      have hd2 := dig_Dig b k
      obtain ⟨ad, rfl, _, hc⟩ := (HA.ext hb).cellAt hlt
      by_cases hlt2 : k < (dig b).length
      · obtain ⟨bd, rfl, _, hc2⟩ := (HB.ext hb).cellAt hlt2
        go_wp2_with (at_builtin; refine wp_push EU _ rfl _ _ rfl rfl rfl hown (by rfl) (by omega) (by omega) (by omega) ?_)
        intro A2 c2 w2 hown2 hgr2 hb2 hlt2
        go_wp2
        go_roundw
        case rel => exact ⟨k + 1, _, _, _, _, by omega, hL.next (s := at_ (dig a) k + carry + at_ (dig b) k) (dig_Dig a) (dig_Dig b) rfl, rfl, by go_num, by go_num, by rw [ints_snoc]; exact hown2, hb.trans hb2⟩
        case measure => simp [intOf]; omega
      · have hz : at_ (dig b) k = 0 := at_ge (by omega)
        have HZ := Lib.hid hz
        clear hz
        go_wp2_with (at_builtin; refine wp_push EU _ rfl _ _ rfl rfl rfl hown (by rfl) (by omega) (by omega) (by omega) ?_)
        intro A2 c2 w2 hown2 hgr2 hb2 hlt2
        go_wp2
        go_roundw
        case rel => exact ⟨k + 1, _, _, _, _, by omega, hL.next (s := at_ (dig a) k + carry) (dig_Dig a) (dig_Dig b) (by rw [HZ.out]; rfl), rfl, by go_num, by go_num, by rw [ints_snoc]; exact hown2, hb.trans hb2⟩
        case measure => simp [intOf]; omega
    · obtain rfl : k = (dig a).length := by omega
      go_wp2_with (at_builtin; refine wp_push EU _ rfl _ _ rfl rfl rfl hown (by rfl) (by omega) (by omega) (by omega) ?_)
      intro A2 c2 w2 hown2 hgr2 hb2 hlt2
      obtain ⟨hv, hd⟩ := hL.done (by omega)
      rw [val_dig, val_dig] at hv
      have hlen : (dig a).length + 1 = (o ++ [carry]).length := by rw [List.length_append, hL.len]; rfl
      have hown3 : Own w2 w.heap.size 208 A2 (o ++ [carry]).length c2 (ints .u32 (o ++ [carry])) := by rw [ints_snoc, ← hlen]; exact hown2
      have HL := Own.lim hown3 (small_of_dig hd)
      have HV := Lib.hid hv
      have HN := Lib.hid hlen
      clear hv hlen hown2 hown3
      go_wp2_with fail
      refine (trim_any A2 _ c2 (o ++ [carry]) w2 HL HN.out (by omega)).mono ?_
      rintro e w' ⟨rfl, rfl⟩
      go_wp2
      go_ret
      refine ⟨A2, c2, ret_slice (by rw [trimL_val hd, HV.out]), ?_, hb.trans hb2⟩
      rw [← HV.out, ← trimL_val hd]; exact HL.trimL

set_option maxRecDepth 100000 in
theorem plus_gt (A B : Option Addr) (n m c d : Nat) (a b : Nat) (w : World) (HA : Lim w A c (dig a)) (HB : Lim w B d (dig b)) (hn : n = (dig a).length) (hm : m = (dig b).length) (hl : n ≤ 8589934592) (hle : m < n) :
    Calls Tryz.prog 156 #[.slice B m d, .slice A n c] w (RetS w (a + b)) := by
  subst hn hm
  go_enter Tryz.func156, Tryz.ntmps156
  go_wp2_with (at_make; refine wp_make0 EU _ rfl _ _ rfl _ ((dig a).length + 1) rfl rfl (by omega) (by omega) (by omega) ?_)
  intro w1 hown hb hlt
  go_wp2
  go_loopw [5, 6, 23] (fun s cy i wr => ∃ (k : Nat) (o : List Nat) (carry : Nat) (A' : Option Addr) (c' : Nat), k ≤ (dig a).length ∧ PlusAt (dig a) (dig b) k o carry ∧ s = .slice A' k c' ∧ cy = .int .u32 carry ∧ i = .int .i64 k ∧ Own wr w.heap.size 208 A' k c' (ints .u32 o) ∧ Below w.heap.size w wr)
    (fun _ _ i _ => (dig a).length - (intOf i).toNat)
  case atStart => exact ⟨0, [], 0, _, _, by omega, ⟨rfl, Dig.nil, by omega, rfl⟩, rfl, rfl, rfl, hown, hb⟩
  case round =>
    obtain ⟨k, o, carry, A', c', hk, hL, rfl, rfl, rfl, hown, hb⟩ := hrel
    have hcar := hL.car
    have hsz := hb.size
    by_cases hlt : k < (dig a).length
    · have hd1 := dig_Dig a k
      have hd2 := dig_Dig b k
      obtain ⟨ad, rfl, _, hc⟩ := (HA.ext hb).cellAt hlt
      by_cases hlt2 : k < (dig b).length
      · obtain ⟨bd, rfl, _, hc2⟩ := (HB.ext hb).cellAt hlt2
        go_wp2_with (at_builtin; refine wp_push EU _ rfl _ _ rfl rfl rfl hown (by rfl) (by omega) (by omega) (by omega) ?_)
        intro A2 c2 w2 hown2 hgr2 hb2 hlt2
        go_wp2
        go_roundw
        case rel => exact ⟨k + 1, _, _, _, _, by omega, hL.next (s := at_ (dig a) k + carry + at_ (dig b) k) (dig_Dig a) (dig_Dig b) rfl, rfl, by go_num, by go_num, by rw [ints_snoc]; exact hown2, hb.trans hb2⟩
        case measure => simp [intOf]; omega
      · have hz : at_ (dig b) k = 0 := at_ge (by omega)
        have HZ := Lib.hid hz
        clear hz
        go_wp2_with (at_builtin; refine wp_push EU _ rfl _ _ rfl rfl rfl hown (by rfl) (by omega) (by omega) (by omega) ?_)
        intro A2 c2 w2 hown2 hgr2 hb2 hlt2
        go_wp2
        go_roundw
        case rel => exact ⟨k + 1, _, _, _, _, by omega, hL.next (s := at_ (dig a) k + carry) (dig_Dig a) (dig_Dig b) (by rw [HZ.out]; rfl), rfl, by go_num, by go_num, by rw [ints_snoc]; exact hown2, hb.trans hb2⟩
        case measure => simp [intOf]; omega
    · obtain rfl : k = (dig a).length := by omega
      go_wp2_with (at_builtin; refine wp_push EU _ rfl _ _ rfl rfl rfl hown (by rfl) (by omega) (by omega) (by omega) ?_)
      intro A2 c2 w2 hown2 hgr2 hb2 hlt2
      obtain ⟨hv, hd⟩ := hL.done (by omega)
      rw [val_dig, val_dig] at hv
      have hlen : (dig a).length + 1 = (o ++ [carry]).length := by rw [List.length_append, hL.len]; rfl
      have hown3 : Own w2 w.heap.size 208 A2 (o ++ [carry]).length c2 (ints .u32 (o ++ [carry])) := by rw [ints_snoc, ← hlen]; exact hown2
      have HL := Own.lim hown3 (small_of_dig hd)
      have HV := Lib.hid hv
      have HN := Lib.hid hlen
      clear hv hlen hown2 hown3
      go_wp2_with fail
      refine (trim_any A2 _ c2 (o ++ [carry]) w2 HL HN.out (by omega)).mono ?_
      rintro e w' ⟨rfl, rfl⟩
      go_wp2
      go_ret
      refine ⟨A2, c2, ret_slice (by rw [trimL_val hd, HV.out]), ?_, hb.trans hb2⟩
      rw [← HV.out, ← trimL_val hd]; exact HL.trimL

theorem plus_any (A B : Option Addr) (n m c d : Nat) (a b : Nat) (w : World) (HA : Lim w A c (dig a)) (HB : Lim w B d (dig b)) (hn : n = (dig a).length) (hm : m = (dig b).length) (hl : n ≤ 8589934592) (hl2 : m ≤ 8589934592) :
    Calls Tryz.prog 156 #[.slice A n c, .slice B m d] w (RetS w (a + b)) := by
  by_cases h : m ≤ n
  · exact plus_le A B n m c d a b w HA HB hn hm hl h
  · have := plus_gt B A m n d c b a w HB HA hm hn hl2 (by omega)
    rw [Nat.add_comm] at this
    exact this
end Go.Proofs.YtolkijelldlmeaaGreatDoor
