/- The package natural, fourth part: times, short. -/
import Derived.Test.YtolkijelldlmeaaGreatDoorNat3
namespace Go.Proofs.YtolkijelldlmeaaGreatDoor
open Go.RowKit Go.Proofs

structure TimesAt (l m : List Nat) (k : Nat) (o : List Nat) : Prop where
  len : o.length = l.length + m.length
  dg : Dig o
  eq : val o = val (l.take k) * val m
  zer : ∀ p, k + m.length ≤ p → at_ o p = 0
structure InAt (l m : List Nat) (k j : Nat) (o : List Nat) (carry : Nat) : Prop where
  len : o.length = l.length + m.length
  dg : Dig o
  car : carry < 1000000000
  eq : val o + pw (k + j) * carry = val (l.take k) * val m + pw k * at_ l k * val (m.take j)
  zer : ∀ p, k + m.length ≤ p → at_ o p = 0
theorem TimesAt.start {l m : List Nat} {k : Nat} {o : List Nat} (h : TimesAt l m k o) : InAt l m k 0 o 0 :=
  ⟨h.len, h.dg, by omega, by rw [h.eq, List.take_zero, val_nil]; omega, h.zer⟩
theorem mul_digits {x y : Nat} (hx : x < 1000000000) (hy : y < 1000000000) : x * y ≤ 999999998000000001 :=
  Nat.mul_le_mul (show x ≤ 999999999 by omega) (show y ≤ 999999999 by omega)
theorem InAt.next {l m : List Nat} {k j s : Nat} {o : List Nat} {carry : Nat} (h : InAt l m k j o carry) (hk : k < l.length) (hj : j < m.length) (hl : Dig l) (hm : Dig m)
    (hs : s = carry + (at_ l k * at_ m j + at_ o (k + j))) : InAt l m k (j + 1) (o.set (k + j) (s % 1000000000)) (s / 1000000000) := by
  have h1 := h.car
  have h2 := h.dg (k + j)
  have h3 := mul_digits (hl k) (hm j)
  have hlt : k + j < o.length := by rw [h.len]; omega
  refine ⟨by rw [List.length_set]; exact h.len, h.dg.set _ (by omega), by omega, ?_, fun p hp => by rw [at_set_ne (by omega)]; exact h.zer p hp⟩
  have e1 := val_set hlt (s % 1000000000)
  have e2 := h.eq
  rw [val_take_succ hj, ← Nat.add_assoc k j 1, pw_succ]
  rw [pw_add] at *
  have e : s = 1000000000 * (s / 1000000000) + s % 1000000000 := by omega
  generalize s / 1000000000 = q at *
  generalize s % 1000000000 = r at *
  generalize val (o.set (k + j) r) = v' at *
  grind
theorem InAt.finish {l m : List Nat} {k : Nat} {o : List Nat} {carry : Nat} (h : InAt l m k m.length o carry) (hk : k < l.length) : TimesAt l m (k + 1) (o.set (k + m.length) carry) := by
  have hlt : k + m.length < o.length := by rw [h.len]; omega
  have e1 := val_set hlt carry
  rw [h.zer _ (Nat.le_refl _), h.eq, List.take_of_length_le (Nat.le_refl _)] at e1
  refine ⟨by rw [List.length_set]; exact h.len, h.dg.set _ h.car, ?_, fun p hp => by rw [at_set_ne (by omega)]; exact h.zer p (by omega)⟩
  rw [val_take_succ hk, Nat.add_mul]
  omega

set_option maxHeartbeats 400000 in
set_option maxRecDepth 1000000 in
theorem times_new (A B : Option Addr) (n m c d : Nat) (a b : Nat) (w : World) (HA : Lim w A c (dig a)) (HB : Lim w B d (dig b)) (hn : n = (dig a).length) (hm : m = (dig b).length) (hl : n ≤ 8589934592) (hl2 : m ≤ 8589934592) :
    Calls Tryz.prog 152 #[.slice A n c, .slice B m d] w (RetF w (a * b)) := by
  subst hn hm
  go_enter Tryz.func152, Tryz.ntmps152
  go_wp2_with (at_make; refine wp_make EU _ rfl _ _ rfl _ _ ((dig a).length + (dig b).length) rfl rfl (by omega) (by omega) (by omega) (by omega) ?_)
  intro w1 hown hb hlt
  rw [ints_replicate] at hown
  go_wp2
  go_loopw [19] (fun i wr => ∃ (k : Nat) (o : List Nat), k ≤ (dig a).length ∧ TimesAt (dig a) (dig b) k o ∧ i = .int .i64 k ∧ Own wr w.heap.size 208 (some ⟨w.heap.size, 0, none⟩) ((dig a).length + (dig b).length) ((dig a).length + (dig b).length) (ints .u32 o) ∧ Below w.heap.size w wr)
    (fun i _ => (dig a).length - (intOf i).toNat)
  case atStart => exact ⟨0, _, by omega, ⟨by simp, Dig.replicate _, by rw [val_replicate, List.take_zero, val_nil]; omega, fun p _ => at_replicate _ _⟩, rfl, hown, hb⟩
  case round =>
    clear hown hb hlt
    obtain ⟨k, o, hk, hT, rfl, hown, hb⟩ := hrel
    by_cases hlt : k < (dig a).length
    · obtain ⟨ad, rfl, _, hc⟩ := (HA.ext hb).cellAt hlt
      have hd0 := dig_Dig (a) k
      generalize hx : at_ (dig a) k = x at hc hd0
      have HX := Lib.hid hx
      clear hx
      go_wp2
      obtain ⟨wo, rfl⟩ : ∃ wo : World, wo = wr := ⟨_, rfl⟩
      go_loopw [8, 26] (fun cy i wr => ∃ (j : Nat) (o : List Nat) (carry : Nat), j ≤ (dig b).length ∧ InAt (dig a) (dig b) k j o carry ∧ cy = .int .u64 carry ∧ i = .int .i64 j ∧ Own wr w.heap.size 208 (some ⟨w.heap.size, 0, none⟩) ((dig a).length + (dig b).length) ((dig a).length + (dig b).length) (ints .u32 o) ∧ Below w.heap.size w wr)
        (fun _ i _ => (dig b).length - (intOf i).toNat)
      case atStart => exact ⟨0, o, 0, by omega, hT.start, rfl, rfl, hown, hb⟩
      case round =>
        clear hown hb hT hc o
        obtain ⟨j, o, carry, hj, hI, rfl, rfl, hown, hb⟩ := hrel
        have hcar := hI.car
        have hlen := hI.len
        have HLEN := Lib.hid hlen
        clear hlen
        by_cases hlt2 : j < (dig b).length
        · obtain ⟨bd, rfl, _, hc2⟩ := (HB.ext hb).cellAt hlt2
          have hc3 := hown.cellAt (j := k + j) (by have := HLEN.out; omega)
          have hf3 := hown.freeAt (k + j)
          have hd1 := hI.dg (k + j)
          have hd2 := dig_Dig b j
          generalize hy : at_ (dig b) j = y at hc2 hd2
          generalize hz : at_ o (k + j) = z at hc3 hd1
          have HY := Lib.hid hy
          have HZ := Lib.hid hz
          clear hy hz
          have hxy : (x : Int) * (y : Int) ≤ 999999998000000001 := by
            have := mul_digits hd0 hd2
            rw [← Int.natCast_mul]
            omega
          have hxy0 : 0 ≤ (x : Int) * (y : Int) := Int.mul_nonneg (by omega) (by omega)
          go_wp2
          go_roundw
          case rel =>
            refine ⟨j + 1, _, _, by omega, hI.next hlt hlt2 (dig_Dig a) (dig_Dig b) (s := carry + (x * y + z)) (by rw [HX.out, HY.out, HZ.out]), ?_, by go_num, Own.stored hown ?_, hb.setCell (Nat.le_refl _) _⟩
            · rw [← Int.natCast_mul]; go_num
            · rw [← Int.natCast_mul]; omega
          case measure => simp [intOf]; omega
        · obtain rfl : j = (dig b).length := by omega
          have hc3 := hown.cellAt (j := k + (dig b).length) (by have := HLEN.out; omega)
          have hf3 := hown.freeAt (k + (dig b).length)
          go_wp2
          go_roundw
          case rel => exact ⟨k + 1, _, by omega, hI.finish hlt, by go_num, Own.stored hown rfl, hb.setCell (Nat.le_refl _) _⟩
          case measure => simp [intOf]; omega
    · obtain rfl : k = (dig a).length := by omega
      have hv := hT.eq
      rw [List.take_of_length_le (Nat.le_refl _), val_dig, val_dig] at hv
      have hlen := hT.len
      have hown3 : Own wr w.heap.size 208 (some ⟨w.heap.size, 0, none⟩) o.length ((dig a).length + (dig b).length) (ints .u32 o) := by rw [hlen]; exact hown
      have HL := Own.lim hown3 (small_of_dig hT.dg)
      have HAV : ∀ g, g < w.heap.size → Avoid g (some ⟨w.heap.size, 0, none⟩) o.length := fun g hg => Own.avoid hown3 hg
      have HV := Lib.hid hv
      have HN := Lib.hid hlen.symm
      clear hv hlen hown hown3
      go_wp2_with fail
      refine (trim_any _ _ _ o wr HL HN.out (by omega)).mono ?_
      rintro e w' ⟨rfl, rfl⟩
      go_wp2
      go_ret
      refine ⟨_, _, ret_slice (by rw [trimL_val hT.dg, HV.out]), ?_, hb, fun g hg => (HAV g hg).mono ?_⟩
      · rw [← HV.out, ← trimL_val hT.dg]; exact HL.trimL
      · rw [← HV.out, ← trimL_val hT.dg]; exact trimL_len o
theorem times_any (A B : Option Addr) (n m c d : Nat) (a b : Nat) (w : World) (HA : Lim w A c (dig a)) (HB : Lim w B d (dig b)) (hn : n = (dig a).length) (hm : m = (dig b).length) (hl : n ≤ 8589934592) (hl2 : m ≤ 8589934592) :
    Calls Tryz.prog 152 #[.slice A n c, .slice B m d] w (RetS w (a * b)) := (times_new A B n m c d a b w HA HB hn hm hl hl2).mono fun _ _ h => h.ret

structure ShortAt (l : List Nat) (d k : Nat) (o : List Nat) (r : Nat) : Prop where
  len : o.length = l.length
  dg : Dig o
  lt : r < d
  eq : val (l.drop k) = val (o.drop k) * d + r
theorem ShortAt.next {l : List Nat} {d k s : Nat} {o : List Nat} {r : Nat} (h : ShortAt l d (k + 1) o r) (hk : k < l.length) (hl : Dig l) (hs : s = r * 1000000000 + at_ l k) : ShortAt l d k (o.set k (s / d)) (s % d) ∧ s / d < 1000000000 := by
  have h1 := h.lt
  have h2 := hl k
  have hq : s / d < 1000000000 := by
    rw [Nat.div_lt_iff_lt_mul (by omega)]
    have : 1000000000 * (r + 1) ≤ 1000000000 * d := Nat.mul_le_mul_left _ h1
    omega
  refine ⟨⟨by rw [List.length_set]; exact h.len, h.dg.set _ hq, Nat.mod_lt _ (by omega), ?_⟩, hq⟩
  have hk2 : k < (o.set k (s / d)).length := by rw [List.length_set, h.len]; exact hk
  rw [val_drop_cons hk, val_drop_cons hk2, at_set_same (by rw [h.len]; exact hk), h.eq, List.drop_set_of_lt (by omega)]
  have e : s = d * (s / d) + s % d := (Nat.div_add_mod s d).symm
  generalize s / d = q at *
  generalize s % d = t at *
  grind
def RetSR (w : World) (q r : Nat) (e : Ending) (w' : World) : Prop := ∃ A c, e = .returned (.tuple #[.slice A (dig q).length c, .int .u32 r]) ∧ Lim w' A c (dig q) ∧ Below w.heap.size w w'
theorem ret_slice_int {A : Option Addr} {n m c : Nat} {k : IntKind} {x y : Int} (h : n = m) (h2 : x = y) : Ending.returned (.tuple #[.slice A n c, .int k x]) = .returned (.tuple #[.slice A m c, .int k y]) := by rw [h, h2]

set_option maxHeartbeats 400000 in
set_option maxRecDepth 100000 in
theorem short_any (A : Option Addr) (n c : Nat) (a d : Nat) (w : World) (HA : Lim w A c (dig a)) (hn : n = (dig a).length) (hl : n ≤ 8589934592) (hd0 : 0 < d) (hd1 : d < 1000000000) :
    Calls Tryz.prog 303 #[.slice A n c, .int .u32 (d : Nat)] w (RetSR w (a / d) (a % d)) := by
  subst hn
  go_enter Tryz.func303, Tryz.ntmps303
  go_wp2_with (at_make; refine wp_make EU _ rfl _ _ rfl _ _ (dig a).length rfl rfl (by omega) (by omega) (by omega) (by omega) ?_)
  intro w1 hown hb hlt
  rw [ints_replicate] at hown
  go_wp2
  go_loopw [7, 8] (fun rv i wr => ∃ (k : Nat) (o : List Nat) (r : Nat), k ≤ (dig a).length ∧ ShortAt (dig a) d k o r ∧ rv = .int .u64 r ∧ i = .int .i64 ((k : Int) - 1) ∧ Own wr w.heap.size 208 (some ⟨w.heap.size, 0, none⟩) (dig a).length (dig a).length (ints .u32 o) ∧ Below w.heap.size w wr)
    (fun _ i _ => (intOf i + 1).toNat)
  case atStart => exact ⟨(dig a).length, _, 0, Nat.le_refl _, ⟨by simp, Dig.replicate _, hd0, by rw [List.drop_of_length_le (Nat.le_refl _), List.drop_of_length_le (by simp), val_nil]; omega⟩, rfl, rfl, hown, hb⟩
  case round =>
    clear hown hb hlt
    obtain ⟨k, o, r, hk, hS, rfl, rfl, hown, hb⟩ := hrel
    have hr := hS.lt
    by_cases hk0 : 0 < k
    · obtain ⟨j, rfl⟩ : ∃ j, k = j + 1 := ⟨k - 1, by omega⟩
      have hj : ((j + 1 : Nat) : Int) - 1 = j := by omega
      rw [hj]
      clear hj
      obtain ⟨ad, rfl, _, hc⟩ := (HA.ext hb).cellAt (j := j) (by omega)
      have hdj := dig_Dig a j
      obtain ⟨hnx, hq⟩ := hS.next (by omega) (dig_Dig a) rfl
      have hc3 := hown.cellAt (j := j) (by have := hS.len; omega)
      have hf3 := hown.freeAt j
      generalize hx : at_ (dig a) j = x at hc hdj hq hnx
      have HX := Lib.hid hx
      clear hx
      have eq1 : ((r : Int) * 1000000000 + (x : Int)) / (d : Int) = (((r * 1000000000 + x) / d : Nat) : Int) := by rw [Int.natCast_ediv]; congr 1
      have eq2 : ((r : Int) * 1000000000 + (x : Int)) % (d : Int) = (((r * 1000000000 + x) % d : Nat) : Int) := by rw [Int.natCast_emod]; congr 1
      have hq1 : ((r : Int) * 1000000000 + (x : Int)) / (d : Int) ≤ 999999999 := by rw [eq1]; omega
      have hq2 : 0 ≤ ((r : Int) * 1000000000 + (x : Int)) / (d : Int) := by rw [eq1]; exact Int.natCast_nonneg _
      have hm2 : 0 ≤ ((r : Int) * 1000000000 + (x : Int)) % (d : Int) := by rw [eq2]; exact Int.natCast_nonneg _
      have EQ1 := Lib.hid eq1
      have EQ2 := Lib.hid eq2
      clear eq1 eq2
      go_wp2
      go_roundw
      case rel => exact ⟨j, _, _, by omega, hnx, by rw [EQ2.out], by go_num, Own.stored hown EQ1.out, hb.setCell (Nat.le_refl _) _⟩
      case measure => simp [intOf]
    · obtain rfl : k = 0 := by omega
      have hv := hS.eq
      rw [List.drop_zero, List.drop_zero, val_dig] at hv
      have hq : a / d = val o := by rw [hv, Nat.mul_comm, Nat.mul_add_div hd0, Nat.div_eq_of_lt hr, Nat.add_zero]
      have hm : a % d = r := by rw [hv, Nat.mul_comm, Nat.mul_add_mod, Nat.mod_eq_of_lt hr]
      have hlen := hS.len
      have hown3 : Own wr w.heap.size 208 (some ⟨w.heap.size, 0, none⟩) o.length (dig a).length (ints .u32 o) := by rw [hlen]; exact hown
      have HL := Own.lim hown3 (small_of_dig hS.dg)
      have HN := Lib.hid hlen.symm
      have HQ := Lib.hid hq
      have HM := Lib.hid hm
      clear hv hq hm hlen hown hown3
      go_wp2_with fail
      refine (trim_any _ _ _ o wr HL HN.out (by omega)).mono ?_
      rintro e w' ⟨rfl, rfl⟩
      go_wp2
      go_ret2
      refine ⟨_, _, ret_slice_int (by rw [trimL_val hS.dg, HQ.out]) (by rw [HM.out]), ?_, hb⟩
      rw [HQ.out, ← trimL_val hS.dg]; exact HL.trimL
end Go.Proofs.YtolkijelldlmeaaGreatDoor
