/- The package natural, sixth part: divide. -/
import Derived.Test.YtolkijelldlmeaaGreatDoorNat5
namespace Go.Proofs.YtolkijelldlmeaaGreatDoor
open Go.RowKit Go.Proofs

def RetSS (w : World) (q r : Nat) (e : Ending) (w' : World) : Prop := ∃ A1 c1 A2 c2, e = .returned (.tuple #[.slice A1 (dig q).length c1, .slice A2 (dig r).length c2]) ∧ Lim w' A1 c1 (dig q) ∧ Lim w' A2 c2 (dig r) ∧ Below w.heap.size w w'
theorem ret_slices {A B : Option Addr} {n m c n' m' d : Nat} (h : n = m) (h' : n' = m') : Ending.returned (.tuple #[.slice A n c, .slice B n' d]) = .returned (.tuple #[.slice A m c, .slice B m' d]) := by rw [h, h']

set_option maxRecDepth 100000 in
theorem divide_less (A B : Option Addr) (n m c d : Nat) (a b : Nat) (w : World) (HA : Lim w A c (dig a)) (HB : Lim w B d (dig b)) (hn : n = (dig a).length) (hm : m = (dig b).length) (hl : n ≤ 1099511627776) (hl2 : m ≤ 1099511627776) (hlt : a < b) :
    Calls Tryz.prog 237 #[.slice A n c, .slice B m d] w (RetSS w (a / b) (a % b)) := by
  have hc := cmpI_lt hlt
  have HN := Lib.hid hn
  have HM := Lib.hid hm
  clear hn hm
  go_enter Tryz.func237, Tryz.ntmps237
  go_wp2_with fail
  refine (compare_any A B n m c d a b w HA HB HN.out HM.out hl hl2).mono ?_
  rintro e w1 ⟨rfl, hw1⟩
  go_wp2
  go_ret2
  have h0 : a / b = 0 := Nat.div_eq_of_lt hlt
  have h1 : a % b = a := Nat.mod_eq_of_lt hlt
  have hb := hw1.below w.heap.size
  exact ⟨none, 0, A, c, ret_slices (by rw [h0]; rfl) (by rw [h1]; exact HN.out), by rw [h0]; exact Lim.nil _ _ _, by rw [h1]; exact HA.ext hb, hb⟩

set_option maxRecDepth 100000 in
theorem divide_one (A B : Option Addr) (n m c d : Nat) (a b : Nat) (w : World) (HA : Lim w A c (dig a)) (HB : Lim w B d (dig b)) (hn : n = (dig a).length) (hm : m = (dig b).length) (hl : n ≤ 4294967296) (hge : b ≤ a) (h1 : m = 1) :
    Calls Tryz.prog 237 #[.slice A n c, .slice B m d] w (RetSS w (a / b) (a % b)) := by
  subst h1
  have hb0 : 0 < b := dig_len_pos.1 (by omega)
  have hbB : b < 1000000000 := by have := dig_lt b; rw [← hm, pw_succ, pw_zero] at this; omega
  have hat : at_ (dig b) 0 = b := by rw [dig_one hb0 hbB, at_zero]
  have hc : cmpI a b = 0 ∨ cmpI a b = 1 := by
    rcases Nat.lt_or_ge b a with h | h
    · exact .inr (cmpI_gt h)
    · exact .inl (cmpI_eq (by omega))
  have hcn : decide (cmpI a b < 0) = false := by rcases hc with h | h <;> rw [h] <;> rfl
  have HN := Lib.hid hn
  have HM := Lib.hid hm
  have HAT := Lib.hid hat
  clear hn hm hc hat
  go_enter Tryz.func237, Tryz.ntmps237
  go_wp2_with fail
  refine (compare_any A B n 1 c d a b w HA HB HN.out HM.out (by omega) (by omega)).mono ?_
  rintro e w1 ⟨rfl, hw1⟩
  have hb1 := hw1.below w.heap.size
  obtain ⟨bd, rfl, _, hcell⟩ := (HB.ext hb1).cellAt (j := 0) (by have := HM.out; omega)
  rw [HAT.out, show bd.add 0 = bd from rfl] at hcell
  go_wp2_with fail
  refine (short_any A n c a b w1 (HA.ext hb1) HN.out (by omega) hb0 hbB).mono ?_
  rintro e w2 ⟨A2, c2, rfl, H2, hb2⟩
  have hr : a % b < 1000000000 := Nat.lt_trans (Nat.mod_lt _ hb0) hbB
  generalize hrr : a % b = r at *
  generalize hqq : a / b = q at *
  go_wp2_with fail
  refine (trim_any _ 1 1 [r] _ (Lim.lit1 w2 _ (by omega)) rfl (by omega)).mono ?_
  rintro e w3 ⟨rfl, rfl⟩
  go_wp2
  go_ret2
  have hd : Dig [r] := Dig.cons hr Dig.nil
  have ht : trimL [r] = dig r := by rw [trimL_val hd, val_one]
  exact ⟨_, _, _, _, ret_slices rfl (by rw [ht]), H2.ext (below_alloc _ _), by rw [← ht]; exact (Lim.lit1 w2 _ (by omega)).trimL, (hb1.trans (hb2.mono hb1.size)).trans ((below_alloc _ _).mono (Nat.le_trans hb1.size hb2.size))⟩
end Go.Proofs.YtolkijelldlmeaaGreatDoor
