/- The statement FractionPoints holds: for every input the law returns true, and each argument reads afterwards as it read before. Conditions: those of the row alone (the library's tables as the program's text lays them). -/
import Derived.Test.YtajddhkepbnilaaGreatDoorSCut
import Derived.Test.YtajddhkepbnilaaGreatDoorQPow
import Derived.Lib.TrimByte
import Derived.Test.YtajddhkepbnilaaGreatDoorFParse
import Derived.Test.YtajddhkepbnilaaGreatDoorQParse
import Derived.Test.YtajddhkepbnilaaGreatDoorText3
import Derived.Test.YtajddhkepbnilaaGreatDoorBnat
import Derived.Test.YtajddhkepbnilaaGreatDoorKeep
import Derived.Test.YtajddhkepbnilaaGreatDoorRows
import Derived.Test.YtajddhkepbnilaaGreatDoorTie
import Derived.ProofKit
import Derived.LaidMore
import Derived.OpenShut
import Derived.Stop.Joined
import Derived.SevenTiedAt
import Derived.Carry
import Derived.Lib.LaidU8
import Derived.Lib.SmallJoins
import Derived.Test.YtajddhkepbnilaaGreatDoorOps
import Derived.Handed
import Derived.Test.YtajddhkepbnilaaGreatDoorCards
import Derived.Lay
namespace Go.Proofs.YtajddhkepbnilaaGreatDoor
open Go.RowKit Go.Proofs Go

def dwh (L : List UInt8) : List UInt8 := (cutAt 46 (frest L)).1
def dpt (L : List UInt8) : List UInt8 := (cutAt 46 (frest L)).2.1
def dfo (L : List UInt8) : Bool := (cutAt 46 (frest L)).2.2
def digs (M : List UInt8) : Bool := M.all isDig && !M.isEmpty
def lead (M : List UInt8) : Bool := decide (1 < M.length) && (M.head? == some 48)
def dok (L : List UInt8) : Bool := digs (dwh L) && !(dfo L && !digs (dpt L)) && !lead (dwh L)
def dq (L : List UInt8) : Rat := rv (fneg L) (dval 0 (dwh L ++ dpt L)) (10 ^ (dpt L).length)
def zs (M : List UInt8) : List UInt8 := if (Lib.trimLeftB M 48).isEmpty then [48] else Lib.trimLeftB M 48
/-- what ParseDecimal returns -/
def RetD (w : World) (L : List UInt8) (e : Ending) (w' : World) : Prop :=
  if 200 < L.length then RetZE w 6 e w' else if dok L = true then RetGE w (dq L) 30 e w' else RetZE w 3 e w'
theorem cut_found {c : UInt8} : ∀ l : List UInt8, (cutAt c l).2.2 = false → (cutAt c l).2.1 = []
  | [], _ => rfl
  | b :: l, h => by
    rw [cutAt] at h ⊢
    split at h
    · cases h
    · next hb => rw [if_neg hb]; exact cut_found l h
theorem cut_both {c : UInt8} : ∀ l : List UInt8, (cutAt c l).1.length + (cutAt c l).2.1.length ≤ l.length
  | [] => Nat.le_refl _
  | b :: l => by
    have ih := cut_both (c := c) l
    rw [cutAt]
    split
    · simp
    · simp only [List.length_cons]; omega
theorem frest_len (L : List UInt8) : (frest L).length ≤ L.length := by
  rw [frest]; split
  · simp
  · exact Nat.le_refl _
theorem tlb_all {M : List UInt8} (h : M.all isDig = true) : (Lib.trimLeftB M 48).all isDig = true := by
  rw [List.all_eq_true] at h ⊢
  exact fun x hx => h x (List.dropWhile_sublist _ |>.subset hx)
theorem tlb_val : ∀ M : List UInt8, dval 0 (Lib.trimLeftB M 48) = dval 0 M
  | [] => rfl
  | b :: l => by
    rw [Lib.trimLeftB, List.dropWhile_cons]
    by_cases hb : b = 48
    · subst hb
      have ih := tlb_val l
      rw [Lib.trimLeftB] at ih
      rw [if_pos (by decide), ih, dval_cons]
      rfl
    · rw [if_neg (by simpa using hb)]
theorem tlb_head : ∀ M : List UInt8, (Lib.trimLeftB M 48).head? ≠ some 48
  | [] => by simp [Lib.trimLeftB]
  | b :: l => by
    have ih := tlb_head l
    rw [Lib.trimLeftB] at ih ⊢
    rw [List.dropWhile_cons]
    by_cases hb : b = 48
    · rw [if_pos (by simpa using hb)]; exact ih
    · rw [if_neg (by simpa using hb)]; simpa using hb
theorem tlb_len (M : List UInt8) : (Lib.trimLeftB M 48).length ≤ M.length := (List.dropWhile_sublist _).length_le
theorem zs_num {M : List UInt8} (h : M.all isDig = true) : numeral (zs M) = true := by
  rw [zs]
  split
  · decide +kernel
  · next hn => exact numeral_of (by simpa using hn) (tlb_all h) (.inr (tlb_head M))
theorem zs_val (M : List UInt8) : dval 0 (zs M) = dval 0 M := by
  rw [zs]
  split
  · next h =>
    rw [← tlb_val M, List.isEmpty_iff.1 h]; rfl
  · exact tlb_val M
theorem zs_len (M : List UInt8) : (zs M).length ≤ M.length + 1 := by
  have := tlb_len M
  rw [zs]; split
  · simp
  · omega
theorem zs_parse {M : List UInt8} (h : M.all isDig = true) (hl : M.length ≤ 3000) : parseV (zs M) = dval 0 M ∧ parseE (zs M) = 0 := by
  have h2 := zs_len M
  obtain ⟨a, b⟩ := parse_ok (L := zs M) (by omega) (zs_num h)
  exact ⟨by rw [a, zs_val], b⟩
/-- a row whose first j bytes are zeros, cut there -/
theorem zs_drop {M : List UInt8} {j : Nat} (hj : j < M.length) (h0 : ∀ b ∈ M.take j, b = 48) (he : j + 1 = M.length ∨ M[j]'hj ≠ 48) : M.drop j = zs M := by
  have hd : M.drop j = M[j]'hj :: M.drop (j + 1) := (List.getElem_cons_drop ..).symm
  have ht : Lib.trimLeftB M 48 = Lib.trimLeftB (M.drop j) 48 := by
    conv => lhs; rw [← List.take_append_drop j M]
    rw [Lib.trimLeftB, Lib.trimLeftB, List.dropWhile_append_of_pos (by simpa using h0)]
  by_cases hb : M[j]'hj = 48
  · have h1 : j + 1 = M.length := he.resolve_right (fun h => h hb)
    have hd2 : M.drop j = [48] := by rw [hd, hb, List.drop_eq_nil_of_le (by omega)]
    have : Lib.trimLeftB M 48 = [] := by rw [ht, hd2]; rfl
    rw [zs, this, hd2]; rfl
  · have : Lib.trimLeftB M 48 = M.drop j := by
      rw [ht, hd, Lib.trimLeftB, List.dropWhile_cons, if_neg (by simpa using hb)]
    rw [zs, this, hd]; rfl
theorem ten_len {k : Nat} (h : k ≤ 200) : (dig (10 ^ k)).length ≤ 23 := by
  obtain ⟨K, hK⟩ : ∃ K, K = 23 := ⟨_, rfl⟩
  have : (dig (10 ^ k)).length ≤ K := dig_len_le (by rw [pw_ten]; exact Nat.pow_lt_pow_right (by omega) (by omega))
  omega
theorem val_len {M : List UInt8} (h : M.all isDig = true) (hl : M.length ≤ 200) : (dig (dval 0 M)).length ≤ 23 := by
  obtain ⟨K, hK⟩ : ∃ K, K = 23 := ⟨_, rfl⟩
  have : (dig (dval 0 M)).length ≤ K := dig_len_le (by rw [pw_ten]; exact Nat.lt_of_lt_of_le (dval_lt h) (Nat.pow_le_pow_right (by omega) (by omega)))
  omega
theorem quot_ten (σ : Bool) (N k : Nat) : rv σ N 1 * (tenp k)⁻¹ = rv σ N (10 ^ k) := by
  rw [tenp, rv_inv, rv_mul]
  congr 1
  · cases σ <;> rfl
  · omega
  · omega
end Go.Proofs.YtajddhkepbnilaaGreatDoor

namespace Go.Proofs.YtajddhkepbnilaaGreatDoor
open Go.RowKit Go.Proofs Go

set_option maxRecDepth 100000 in
theorem fdigits_any {L : List UInt8} {b : Bool} (w : World) (hb : Hid (digs L = b)) (hl : L.length ≤ 4000) :
    Calls Tryz.prog 52 #[.string (str L)] w fun e w' => e = .returned (.bool b) ∧ Below w.heap.size w w' := by
  cases he : L.isEmpty with
  | true =>
    have h1 : (str L).toList.isEmpty = true := by rw [str_toList]; exact he
    have h2 : b = false := by rw [← hb.out, digs, he]; simp
    subst h2
    clear he
    go_enter Tryz.func52, Tryz.ntmps52
    go_wp2
    go_ret
    exact ⟨rfl, Below.refl _ _⟩
  | false =>
    have h1 : (str L).toList.isEmpty = false := by rw [str_toList]; exact he
    have h2 : (str (Lib.trimS L ten)).toList.isEmpty = b := by
      rw [str_toList, ← hb.out, digs, he, Bool.eq_iff_iff, List.isEmpty_iff, trim_nil]; simp
    clear he
    go_enter Tryz.func52, Tryz.ntmps52
    go_wp2_with fail
    refine (stringsTrim_any L _ hl).mono ?_
    rintro e w1 ⟨rfl, hb1⟩
    go_wp2
    go_ret
    exact ⟨by first | rfl | simp, hb1⟩
theorem stl_any (M : List UInt8) (w : World) :
    Calls Tryz.prog 53 #[.string (str M), .string ⟨#[48]⟩] w fun e w' => e = .returned (.string (str (Lib.trimLeftB M 48))) ∧ Below w.heap.size w w' := by
  refine (Tryz.strings_TrimLeft_one (str M) 48 (by decide) w).mono ?_
  rintro e w' ⟨h, rfl⟩
  exact ⟨by rw [h]; simp [str], Below.refl _ _⟩

set_option maxHeartbeats 1000000 in
set_option maxRecDepth 100000 in
theorem fpoint_long (L : List UInt8) (w : World) (hL : L.length ≤ 9223372036854775807) (h1 : 200 < L.length) :
    Calls Tryz.prog 18 #[.string (str L)] w (RetD w L) := by
  have hsz : (str L).size = L.length := str_size L
  have HP := Lib.hid (show ∀ e w', RetZE w 6 e w' → RetD w L e w' from fun e w' h => by rw [RetD, if_pos h1]; exact h)
  go_enter Tryz.func18, Tryz.ntmps18
  have HX := BL.one w #[.bool false, .slice none 0 0, .slice none 0 0] 27
  have hc00 := HX.cell 0 0 rfl rfl
  have hf00 := HX.free 0 0 rfl
  have hc01 := HX.cell 0 1 rfl rfl
  have hf01 := HX.free 0 1 rfl
  have hc02 := HX.cell 0 2 rfl rfl
  have hf02 := HX.free 0 2 rfl
  try simp only [List.getElem_toArray, List.getElem_cons_zero, List.getElem_cons_succ] at hc00 hf00 hc01 hf01 hc02 hf02
  go_wp2
  clear hc00 hf00 hc01 hf01 hc02 hf02
  have hc00 := HX.cell 0 0 rfl rfl
  have hc01 := HX.cell 0 1 rfl rfl
  have hc02 := HX.cell 0 2 rfl rfl
  try simp only [List.getElem_toArray, List.getElem_cons_zero, List.getElem_cons_succ] at hc00 hc01 hc02
  exact bodyPost_ret (v := .tuple #[.agg #[.bool false, .slice none 0 0, .slice none 0 0], .int .i64 6]) (by simp [results, Tryz.results18, go_sem, hc00, hc01, hc02]) rfl (HP.out _ _ ⟨rfl, HX.below⟩)

set_option maxHeartbeats 4000000 in
set_option maxRecDepth 100000 in
theorem fpoint_short (L : List UInt8) (w : World) (hL : L.length ≤ 200) (hm : Mx w) (hT : Tab w) :
    Calls Tryz.prog 18 #[.string (str L)] w (RetD w L) := by
  have hsz : (str L).size = L.length := str_size L
  obtain ⟨W, P, f, hcut⟩ : ∃ W P f, cutAt 46 (frest L) = (W, P, f) := ⟨_, _, _, rfl⟩
  obtain ⟨σ, hσ⟩ : ∃ σ, fneg L = σ := ⟨_, rfl⟩
  have hW : dwh L = W := by rw [dwh, hcut]
  have hP : dpt L = P := by rw [dpt, hcut]
  have hF : dfo L = f := by rw [dfo, hcut]
  have hfl := frest_len L
  have hlen : W.length + P.length ≤ 200 := by have := cut_both (c := 46) (frest L); rw [hcut] at this; simp only [] at this; omega
  obtain ⟨a, ha⟩ : ∃ a, digs W = a := ⟨_, rfl⟩
  obtain ⟨b, hb0⟩ : ∃ b, digs P = b := ⟨_, rfl⟩
  obtain ⟨l, hl⟩ : ∃ l, lead W = l := ⟨_, rfl⟩
  obtain ⟨q, hq⟩ : ∃ q, rv σ (dval 0 (W ++ P)) (10 ^ P.length) = q := ⟨_, rfl⟩
  have hP0 : f = false → P = [] := fun h => by have := cut_found (c := 46) (frest L); rw [hcut] at this; exact this h
  have HB : Hid ((a && !(f && !b) && !l) = false → ∀ e w', RetZE w 3 e w' → RetD w L e w') := Lib.hid (fun h e w' h2 => by
    have hd : dok L = false := by rw [dok, hW, hP, hF, ha, hb0, hl]; exact h
    rw [RetD, if_neg (by omega), hd]; exact h2)
  have HG : Hid ((a && !(f && !b) && !l) = true → ∀ e w', RetGE w q 30 e w' → RetD w L e w') := Lib.hid (fun h e w' h2 => by
    have hd : dok L = true := by rw [dok, hW, hP, hF, ha, hb0, hl]; exact h
    have he : dq L = q := by rw [dq, hW, hP, hσ, hq]
    rw [RetD, if_neg (by omega), hd, if_pos rfl, he]; exact h2)
  have HD : Hid ((a && !(f && !b) && !l) = true → (W ++ P).all isDig = true) := Lib.hid (fun h => by
    have h1 : W.all isDig = true := by
      have : a = true := by revert h; cases a <;> simp
      rw [this, digs] at ha; simp only [Bool.and_eq_true] at ha; exact ha.1
    have h2 : P.all isDig = true := by
      cases hf : f with
      | false => rw [hP0 hf]; rfl
      | true =>
        have : b = true := by revert h; rw [hf]; cases a <;> cases b <;> simp
        rw [this, digs] at hb0; simp only [Bool.and_eq_true] at hb0; exact hb0.1
    rw [List.all_append, h1, h2]; rfl)
  have H1 := Lib.hid (show (if L.head? == some 45 then L.tail else L) = frest L ∧ (L.head? == some 45) = σ from ⟨rfl, hσ⟩)
  have H2 := Lib.hid hcut
  have HA := Lib.hid ha
  have HB2 := Lib.hid hb0
  have HL := Lib.hid hl
  have HQ := Lib.hid hq
  have hszW : (str W).size = W.length := str_size W
  have hszP : (str P).size = P.length := str_size P
  have hap : str W ++ str P = str (W ++ P) := str_append W P
  have HAP := Lib.hid hap
  clear hcut hσ hW hP hF ha hb0 hl hq hP0 hap
  go_enter Tryz.func18, Tryz.ntmps18
  go_wp2_with fail
  have HX := BL.one w #[.bool false, .slice none 0 0, .slice none 0 0] 27
  replace hm := hm.ext HX.below
  replace hT := hT.ext HX.below
  refine (scutp_any _ H1 (by omega)).mono ?_
  rintro e w1 ⟨rfl, hb⟩
  replace HX := HX.ext hb
  replace hm := hm.ext hb
  replace hT := hT.ext hb
  clear hb
  go_wp2_with fail
  refine (scut_any _ H2 hm (by omega)).mono ?_
  rintro e w2 ⟨rfl, hb⟩
  replace HX := HX.ext hb
  replace hm := hm.ext hb
  replace hT := hT.ext hb
  clear hb
  clear hm
  go_wp2_with fail
  refine (fdigits_any _ HA (by omega)).mono ?_
  rintro e w3 ⟨rfl, hb⟩
  replace HX := HX.ext hb
  replace hT := hT.ext hb
  clear hb
  cases a
  · have HP := Lib.hid (HB.out rfl)
    clear HB HG HD
    have hc00 := HX.cell 0 0 rfl rfl
    have hf00 := HX.free 0 0 rfl
    have hc01 := HX.cell 0 1 rfl rfl
    have hf01 := HX.free 0 1 rfl
    have hc02 := HX.cell 0 2 rfl rfl
    have hf02 := HX.free 0 2 rfl
    try simp only [List.getElem_toArray, List.getElem_cons_zero, List.getElem_cons_succ] at hc00 hf00 hc01 hf01 hc02 hf02
    go_wp2
    clear hc00 hf00 hc01 hf01 hc02 hf02
    have hk := HX.keep3 0 rfl rfl rfl rfl (by omega) (.bool false) (.slice none 0 0) (.slice none 0 0)
    replace HX := HX.put3 0 rfl (by omega) (by intro k q hk hne; match k, hk with | 0, hk => (simp at hk; subst hk; simp at hne ⊢; try omega) | k + 1, hk => simp at hk) (.bool false) (.slice none 0 0) (.slice none 0 0)
    clear hk
    simp only [List.set_cons_zero, List.set_cons_succ] at HX
    have hc00 := HX.cell 0 0 rfl rfl
    have hc01 := HX.cell 0 1 rfl rfl
    have hc02 := HX.cell 0 2 rfl rfl
    try simp only [List.getElem_toArray, List.getElem_cons_zero, List.getElem_cons_succ] at hc00 hc01 hc02
    exact bodyPost_ret (v := .tuple #[.agg #[.bool false, .slice none 0 0, .slice none 0 0], .int .i64 3]) (by simp [results, Tryz.results18, go_sem, hc00, hc01, hc02]) rfl (HP.out _ _ ⟨rfl, HX.below⟩)
  · cases f
    · have HLo := HL.out
      by_cases hw1 : 1 < W.length
      · have hw0 : 0 < W.length := by omega
        have hix : ∀ h, (str W)[0]'h = W[0]'hw0 := fun _ => rfl
        rw [lead, decide_eq_true hw1, Bool.true_and, List.head?_eq_getElem?, List.getElem?_eq_getElem hw0] at HLo
        by_cases hw48 : W[0]'hw0 = 48
        · have hw : ((((W[0]'hw0).toNat : Nat) : Int) == 48) = true := by rw [hw48]; rfl
          obtain rfl : l = true := by rw [← HLo, hw48]; rfl
          clear HLo
          generalize W[0]'hw0 = b0 at *
          clear hw48 HL
          have HP := Lib.hid (HB.out rfl)
          clear HB HG HD
          have hc00 := HX.cell 0 0 rfl rfl
          have hf00 := HX.free 0 0 rfl
          have hc01 := HX.cell 0 1 rfl rfl
          have hf01 := HX.free 0 1 rfl
          have hc02 := HX.cell 0 2 rfl rfl
          have hf02 := HX.free 0 2 rfl
          try simp only [List.getElem_toArray, List.getElem_cons_zero, List.getElem_cons_succ] at hc00 hf00 hc01 hf01 hc02 hf02
          go_wp2
          clear hc00 hf00 hc01 hf01 hc02 hf02
          have hk := HX.keep3 0 rfl rfl rfl rfl (by omega) (.bool false) (.slice none 0 0) (.slice none 0 0)
          replace HX := HX.put3 0 rfl (by omega) (by intro k q hk hne; match k, hk with | 0, hk => (simp at hk; subst hk; simp at hne ⊢; try omega) | k + 1, hk => simp at hk) (.bool false) (.slice none 0 0) (.slice none 0 0)
          clear hk
          simp only [List.set_cons_zero, List.set_cons_succ] at HX
          have hc00 := HX.cell 0 0 rfl rfl
          have hc01 := HX.cell 0 1 rfl rfl
          have hc02 := HX.cell 0 2 rfl rfl
          try simp only [List.getElem_toArray, List.getElem_cons_zero, List.getElem_cons_succ] at hc00 hc01 hc02
          exact bodyPost_ret (v := .tuple #[.agg #[.bool false, .slice none 0 0, .slice none 0 0], .int .i64 3]) (by simp [results, Tryz.results18, go_sem, hc00, hc01, hc02]) rfl (HP.out _ _ ⟨rfl, HX.below⟩)
        · have hw : ((((W[0]'hw0).toNat : Nat) : Int) == 48) = false := by
            rw [beq_eq_false_iff_ne]
            intro h
            refine hw48 (UInt8.toNat_inj.1 ?_)
            have : (48 : UInt8).toNat = 48 := rfl
            omega
          obtain rfl : l = false := by rw [← HLo]; simpa using hw48
          clear HLo
          generalize W[0]'hw0 = b0 at *
          clear hw48 HL
          have HP := Lib.hid (HG.out rfl)
          have hall := HD.out rfl
          have hz := zs_parse hall (by rw [List.length_append]; omega)
          have zN := val_len hall (by rw [List.length_append]; omega)
          have zD := ten_len (k := P.length) (by omega)
          obtain ⟨N, hN⟩ : ∃ N, dval 0 (W ++ P) = N := ⟨_, rfl⟩
          obtain ⟨D, hD⟩ : ∃ D, 10 ^ P.length = D := ⟨_, rfl⟩
          rw [hN] at hz zN
          rw [hD] at zD
          have HQ2 := HQ.out
          rw [hN, hD] at HQ2
          have hSz : Sz q 30 := HQ2 ▸ Sz.of_rv (by omega) (by omega) (by omega)
          have HQ3 := Lib.hid HQ2
          have HD2 := Lib.hid hD
          have hap := HAP.out
          clear HB HG HD HQ hall hN hD HQ2
          go_wp2_with fail
          refine (stl_any (W ++ P) _).mono ?_
          rintro e w4 ⟨rfl, hb⟩
          replace HX := HX.ext hb
          replace hT := hT.ext hb
          clear hb
          clear hap
          obtain ⟨S, hS⟩ : ∃ S, Lib.trimLeftB (W ++ P) 48 = S := ⟨_, rfl⟩
          have hlS : S.length ≤ 200 := by have := tlb_len (W ++ P); rw [hS, List.length_append] at this; omega
          rw [zs, hS] at hz
          rw [hS]
          clear hS
          cases hE : S.isEmpty
          · rw [hE] at hz
            simp only [if_true, if_false, Bool.false_eq_true] at hz
            have HZ := Lib.hid hz
            clear hz
            have hse : (str S).toList.isEmpty = false := by rw [str_toList]; exact hE
            clear hE
            go_wp2_with fail
            refine (nparse_e (L := S) _ HZ (by omega)).mono ?_
            rintro e w5 ⟨A5, c5, rfl, F5, hb⟩
            replace HX := HX.ext hb
            replace hT := hT.ext hb
            clear hb
            go_upto_region 11 with fail
            have hg5 : w.heap.size < w5.heap.size := HX.lt 0 rfl
            have hb := below_alloc w5 (.cells #[.slice A5 (dig N).length c5] 25)
            replace HX := HX.new #[.slice A5 (dig N).length c5] 25
            simp only [List.cons_append, List.nil_append] at HX
            replace hT := hT.ext hb
            replace F5 := F5.ext hb
            clear hb
            generalize w5.alloc (.cells #[.slice A5 (dig N).length c5] 25) = W5 at *
            generalize w5.heap.size = g5 at *
            go_wp2_with fail
            refine (nof_any 10 _ (by omega)).mono ?_
            rintro e w6 ⟨A6, c6, rfl, F6, hb⟩
            replace HX := HX.ext hb
            replace hT := hT.ext hb
            replace F5 := F5.ext hb
            clear hb
            have hl10 : (dig 10).length ≤ 1 := dig_len_le (by decide)
            have hnd : Lib.nDigits (val (dig 10)) * P.length ≤ 4000 := by rw [val_dig]; have : Lib.nDigits 10 = 2 := by decide +kernel
                                                                          rw [this]; omega
            go_wp2_with fail
            refine (npow_any A6 _ c6 (dig 10) P.length _ F6 rfl (by omega) hT (by omega) hnd).mono ?_
            rw [val_dig, HD2.out]
            rintro e w8 ⟨A8, c8, rfl, F8, hb⟩
            replace HX := HX.ext hb
            replace hT := hT.ext hb
            replace F5 := F5.ext hb
            replace F6 := F6.ext hb
            clear hb
            clear F6
            go_upto_region 12 with fail
            have hg8 : w.heap.size < w8.heap.size := HX.lt 0 rfl
            have hb := below_alloc w8 (.cells #[.slice A8 (dig D).length c8] 25)
            replace HX := HX.new #[.slice A8 (dig D).length c8] 25
            simp only [List.cons_append, List.nil_append] at HX
            replace hT := hT.ext hb
            replace F5 := F5.ext hb
            replace F8 := F8.ext hb
            clear hb
            generalize w8.alloc (.cells #[.slice A8 (dig D).length c8] 25) = W8 at *
            generalize w8.heap.size = g8 at *
            have hc10 := HX.cell 1 0 rfl rfl
            have hc20 := HX.cell 2 0 rfl rfl
            try simp only [List.getElem_toArray, List.getElem_cons_zero, List.getElem_cons_succ] at hc10 hc20
            go_wp2_with fail
            refine (fmade_any σ A5 A8 _ _ c5 c8 (dig N) (dig D) _ F5 F8 rfl rfl (by omega) (by omega)).mono ?_
            rw [val_dig, val_dig, HQ3.out]
            rintro e w9 ⟨A7, c7, B7, d7, rfl, N7, D7, hb⟩
            clear hc10 hc20
            replace HX := HX.ext hb
            replace hT := hT.ext hb
            replace F5 := F5.ext hb
            replace F8 := F8.ext hb
            clear hb
            clear F5 F8
            have hc00 := HX.cell 0 0 rfl rfl
            have hf00 := HX.free 0 0 rfl
            have hc01 := HX.cell 0 1 rfl rfl
            have hf01 := HX.free 0 1 rfl
            have hc02 := HX.cell 0 2 rfl rfl
            have hf02 := HX.free 0 2 rfl
            try simp only [List.getElem_toArray, List.getElem_cons_zero, List.getElem_cons_succ] at hc00 hf00 hc01 hf01 hc02 hf02
            go_wp2
            clear hc00 hf00 hc01 hf01 hc02 hf02
            have hk := HX.keep3 0 rfl rfl rfl rfl (by omega) (.bool (sg q)) (.slice A7 (dig (nu q)).length c7) (.slice B7 (dig q.den).length d7)
            replace HX := HX.put3 0 rfl (by omega) (by intro k q hk hne; match k, hk with | 0, hk => (simp at hk; subst hk; simp at hne ⊢; try omega) | 1, hk => (simp at hk; subst hk; simp at hne ⊢; try omega) | 2, hk => (simp at hk; subst hk; simp at hne ⊢; try omega) | k + 3, hk => simp at hk) (.bool (sg q)) (.slice A7 (dig (nu q)).length c7) (.slice B7 (dig q.den).length d7)
            replace N7 := N7.stay hk
            replace D7 := D7.stay hk
            clear hk
            simp only [List.set_cons_zero, List.set_cons_succ] at HX
            have hc00 := HX.cell 0 0 rfl rfl
            have hc01 := HX.cell 0 1 rfl rfl
            have hc02 := HX.cell 0 2 rfl rfl
            try simp only [List.getElem_toArray, List.getElem_cons_zero, List.getElem_cons_succ] at hc00 hc01 hc02
            exact bodyPost_ret (v := .tuple #[.agg #[.bool (sg q), .slice A7 (dig (nu q)).length c7, .slice B7 (dig q.den).length d7], .int .i64 0]) (by simp [results, Tryz.results18, go_sem, hc00, hc01, hc02]) rfl (HP.out _ _ ⟨A7, c7, B7, d7, rfl, ⟨N7, D7, hSz⟩, HX.below⟩)
          · rw [hE] at hz
            simp only [if_true, if_false, Bool.false_eq_true] at hz
            have HZ := Lib.hid hz
            clear hz
            have hse : (str S).toList.isEmpty = true := by rw [str_toList]; exact hE
            clear hE
            go_wp2_with fail
            refine (nparse_e (L := [48]) _ HZ (by simp)).mono ?_
            rintro e w5 ⟨A5, c5, rfl, F5, hb⟩
            replace HX := HX.ext hb
            replace hT := hT.ext hb
            clear hb
            go_upto_region 11 with fail
            have hg5 : w.heap.size < w5.heap.size := HX.lt 0 rfl
            have hb := below_alloc w5 (.cells #[.slice A5 (dig N).length c5] 25)
            replace HX := HX.new #[.slice A5 (dig N).length c5] 25
            simp only [List.cons_append, List.nil_append] at HX
            replace hT := hT.ext hb
            replace F5 := F5.ext hb
            clear hb
            generalize w5.alloc (.cells #[.slice A5 (dig N).length c5] 25) = W5 at *
            generalize w5.heap.size = g5 at *
            go_wp2_with fail
            refine (nof_any 10 _ (by omega)).mono ?_
            rintro e w6 ⟨A6, c6, rfl, F6, hb⟩
            replace HX := HX.ext hb
            replace hT := hT.ext hb
            replace F5 := F5.ext hb
            clear hb
            have hl10 : (dig 10).length ≤ 1 := dig_len_le (by decide)
            have hnd : Lib.nDigits (val (dig 10)) * P.length ≤ 4000 := by rw [val_dig]; have : Lib.nDigits 10 = 2 := by decide +kernel
                                                                          rw [this]; omega
            go_wp2_with fail
            refine (npow_any A6 _ c6 (dig 10) P.length _ F6 rfl (by omega) hT (by omega) hnd).mono ?_
            rw [val_dig, HD2.out]
            rintro e w8 ⟨A8, c8, rfl, F8, hb⟩
            replace HX := HX.ext hb
            replace hT := hT.ext hb
            replace F5 := F5.ext hb
            replace F6 := F6.ext hb
            clear hb
            clear F6
            go_upto_region 12 with fail
            have hg8 : w.heap.size < w8.heap.size := HX.lt 0 rfl
            have hb := below_alloc w8 (.cells #[.slice A8 (dig D).length c8] 25)
            replace HX := HX.new #[.slice A8 (dig D).length c8] 25
            simp only [List.cons_append, List.nil_append] at HX
            replace hT := hT.ext hb
            replace F5 := F5.ext hb
            replace F8 := F8.ext hb
            clear hb
            generalize w8.alloc (.cells #[.slice A8 (dig D).length c8] 25) = W8 at *
            generalize w8.heap.size = g8 at *
            have hc10 := HX.cell 1 0 rfl rfl
            have hc20 := HX.cell 2 0 rfl rfl
            try simp only [List.getElem_toArray, List.getElem_cons_zero, List.getElem_cons_succ] at hc10 hc20
            go_wp2_with fail
            refine (fmade_any σ A5 A8 _ _ c5 c8 (dig N) (dig D) _ F5 F8 rfl rfl (by omega) (by omega)).mono ?_
            rw [val_dig, val_dig, HQ3.out]
            rintro e w9 ⟨A7, c7, B7, d7, rfl, N7, D7, hb⟩
            clear hc10 hc20
            replace HX := HX.ext hb
            replace hT := hT.ext hb
            replace F5 := F5.ext hb
            replace F8 := F8.ext hb
            clear hb
            clear F5 F8
            have hc00 := HX.cell 0 0 rfl rfl
            have hf00 := HX.free 0 0 rfl
            have hc01 := HX.cell 0 1 rfl rfl
            have hf01 := HX.free 0 1 rfl
            have hc02 := HX.cell 0 2 rfl rfl
            have hf02 := HX.free 0 2 rfl
            try simp only [List.getElem_toArray, List.getElem_cons_zero, List.getElem_cons_succ] at hc00 hf00 hc01 hf01 hc02 hf02
            go_wp2
            clear hc00 hf00 hc01 hf01 hc02 hf02
            have hk := HX.keep3 0 rfl rfl rfl rfl (by omega) (.bool (sg q)) (.slice A7 (dig (nu q)).length c7) (.slice B7 (dig q.den).length d7)
            replace HX := HX.put3 0 rfl (by omega) (by intro k q hk hne; match k, hk with | 0, hk => (simp at hk; subst hk; simp at hne ⊢; try omega) | 1, hk => (simp at hk; subst hk; simp at hne ⊢; try omega) | 2, hk => (simp at hk; subst hk; simp at hne ⊢; try omega) | k + 3, hk => simp at hk) (.bool (sg q)) (.slice A7 (dig (nu q)).length c7) (.slice B7 (dig q.den).length d7)
            replace N7 := N7.stay hk
            replace D7 := D7.stay hk
            clear hk
            simp only [List.set_cons_zero, List.set_cons_succ] at HX
            have hc00 := HX.cell 0 0 rfl rfl
            have hc01 := HX.cell 0 1 rfl rfl
            have hc02 := HX.cell 0 2 rfl rfl
            try simp only [List.getElem_toArray, List.getElem_cons_zero, List.getElem_cons_succ] at hc00 hc01 hc02
            exact bodyPost_ret (v := .tuple #[.agg #[.bool (sg q), .slice A7 (dig (nu q)).length c7, .slice B7 (dig q.den).length d7], .int .i64 0]) (by simp [results, Tryz.results18, go_sem, hc00, hc01, hc02]) rfl (HP.out _ _ ⟨A7, c7, B7, d7, rfl, ⟨N7, D7, hSz⟩, HX.below⟩)
      · obtain rfl : l = false := by rw [← HLo, lead, decide_eq_false hw1]; rfl
        clear HLo HL
        have HP := Lib.hid (HG.out rfl)
        have hall := HD.out rfl
        have hz := zs_parse hall (by rw [List.length_append]; omega)
        have zN := val_len hall (by rw [List.length_append]; omega)
        have zD := ten_len (k := P.length) (by omega)
        obtain ⟨N, hN⟩ : ∃ N, dval 0 (W ++ P) = N := ⟨_, rfl⟩
        obtain ⟨D, hD⟩ : ∃ D, 10 ^ P.length = D := ⟨_, rfl⟩
        rw [hN] at hz zN
        rw [hD] at zD
        have HQ2 := HQ.out
        rw [hN, hD] at HQ2
        have hSz : Sz q 30 := HQ2 ▸ Sz.of_rv (by omega) (by omega) (by omega)
        have HQ3 := Lib.hid HQ2
        have HD2 := Lib.hid hD
        have hap := HAP.out
        clear HB HG HD HQ hall hN hD HQ2
        go_wp2_with fail
        refine (stl_any (W ++ P) _).mono ?_
        rintro e w4 ⟨rfl, hb⟩
        replace HX := HX.ext hb
        replace hT := hT.ext hb
        clear hb
        clear hap
        obtain ⟨S, hS⟩ : ∃ S, Lib.trimLeftB (W ++ P) 48 = S := ⟨_, rfl⟩
        have hlS : S.length ≤ 200 := by have := tlb_len (W ++ P); rw [hS, List.length_append] at this; omega
        rw [zs, hS] at hz
        rw [hS]
        clear hS
        cases hE : S.isEmpty
        · rw [hE] at hz
          simp only [if_true, if_false, Bool.false_eq_true] at hz
          have HZ := Lib.hid hz
          clear hz
          have hse : (str S).toList.isEmpty = false := by rw [str_toList]; exact hE
          clear hE
          go_wp2_with fail
          refine (nparse_e (L := S) _ HZ (by omega)).mono ?_
          rintro e w5 ⟨A5, c5, rfl, F5, hb⟩
          replace HX := HX.ext hb
          replace hT := hT.ext hb
          clear hb
          go_upto_region 11 with fail
          have hg5 : w.heap.size < w5.heap.size := HX.lt 0 rfl
          have hb := below_alloc w5 (.cells #[.slice A5 (dig N).length c5] 25)
          replace HX := HX.new #[.slice A5 (dig N).length c5] 25
          simp only [List.cons_append, List.nil_append] at HX
          replace hT := hT.ext hb
          replace F5 := F5.ext hb
          clear hb
          generalize w5.alloc (.cells #[.slice A5 (dig N).length c5] 25) = W5 at *
          generalize w5.heap.size = g5 at *
          go_wp2_with fail
          refine (nof_any 10 _ (by omega)).mono ?_
          rintro e w6 ⟨A6, c6, rfl, F6, hb⟩
          replace HX := HX.ext hb
          replace hT := hT.ext hb
          replace F5 := F5.ext hb
          clear hb
          have hl10 : (dig 10).length ≤ 1 := dig_len_le (by decide)
          have hnd : Lib.nDigits (val (dig 10)) * P.length ≤ 4000 := by rw [val_dig]; have : Lib.nDigits 10 = 2 := by decide +kernel
                                                                        rw [this]; omega
          go_wp2_with fail
          refine (npow_any A6 _ c6 (dig 10) P.length _ F6 rfl (by omega) hT (by omega) hnd).mono ?_
          rw [val_dig, HD2.out]
          rintro e w8 ⟨A8, c8, rfl, F8, hb⟩
          replace HX := HX.ext hb
          replace hT := hT.ext hb
          replace F5 := F5.ext hb
          replace F6 := F6.ext hb
          clear hb
          clear F6
          go_upto_region 12 with fail
          have hg8 : w.heap.size < w8.heap.size := HX.lt 0 rfl
          have hb := below_alloc w8 (.cells #[.slice A8 (dig D).length c8] 25)
          replace HX := HX.new #[.slice A8 (dig D).length c8] 25
          simp only [List.cons_append, List.nil_append] at HX
          replace hT := hT.ext hb
          replace F5 := F5.ext hb
          replace F8 := F8.ext hb
          clear hb
          generalize w8.alloc (.cells #[.slice A8 (dig D).length c8] 25) = W8 at *
          generalize w8.heap.size = g8 at *
          have hc10 := HX.cell 1 0 rfl rfl
          have hc20 := HX.cell 2 0 rfl rfl
          try simp only [List.getElem_toArray, List.getElem_cons_zero, List.getElem_cons_succ] at hc10 hc20
          go_wp2_with fail
          refine (fmade_any σ A5 A8 _ _ c5 c8 (dig N) (dig D) _ F5 F8 rfl rfl (by omega) (by omega)).mono ?_
          rw [val_dig, val_dig, HQ3.out]
          rintro e w9 ⟨A7, c7, B7, d7, rfl, N7, D7, hb⟩
          clear hc10 hc20
          replace HX := HX.ext hb
          replace hT := hT.ext hb
          replace F5 := F5.ext hb
          replace F8 := F8.ext hb
          clear hb
          clear F5 F8
          have hc00 := HX.cell 0 0 rfl rfl
          have hf00 := HX.free 0 0 rfl
          have hc01 := HX.cell 0 1 rfl rfl
          have hf01 := HX.free 0 1 rfl
          have hc02 := HX.cell 0 2 rfl rfl
          have hf02 := HX.free 0 2 rfl
          try simp only [List.getElem_toArray, List.getElem_cons_zero, List.getElem_cons_succ] at hc00 hf00 hc01 hf01 hc02 hf02
          go_wp2
          clear hc00 hf00 hc01 hf01 hc02 hf02
          have hk := HX.keep3 0 rfl rfl rfl rfl (by omega) (.bool (sg q)) (.slice A7 (dig (nu q)).length c7) (.slice B7 (dig q.den).length d7)
          replace HX := HX.put3 0 rfl (by omega) (by intro k q hk hne; match k, hk with | 0, hk => (simp at hk; subst hk; simp at hne ⊢; try omega) | 1, hk => (simp at hk; subst hk; simp at hne ⊢; try omega) | 2, hk => (simp at hk; subst hk; simp at hne ⊢; try omega) | k + 3, hk => simp at hk) (.bool (sg q)) (.slice A7 (dig (nu q)).length c7) (.slice B7 (dig q.den).length d7)
          replace N7 := N7.stay hk
          replace D7 := D7.stay hk
          clear hk
          simp only [List.set_cons_zero, List.set_cons_succ] at HX
          have hc00 := HX.cell 0 0 rfl rfl
          have hc01 := HX.cell 0 1 rfl rfl
          have hc02 := HX.cell 0 2 rfl rfl
          try simp only [List.getElem_toArray, List.getElem_cons_zero, List.getElem_cons_succ] at hc00 hc01 hc02
          exact bodyPost_ret (v := .tuple #[.agg #[.bool (sg q), .slice A7 (dig (nu q)).length c7, .slice B7 (dig q.den).length d7], .int .i64 0]) (by simp [results, Tryz.results18, go_sem, hc00, hc01, hc02]) rfl (HP.out _ _ ⟨A7, c7, B7, d7, rfl, ⟨N7, D7, hSz⟩, HX.below⟩)
        · rw [hE] at hz
          simp only [if_true, if_false, Bool.false_eq_true] at hz
          have HZ := Lib.hid hz
          clear hz
          have hse : (str S).toList.isEmpty = true := by rw [str_toList]; exact hE
          clear hE
          go_wp2_with fail
          refine (nparse_e (L := [48]) _ HZ (by simp)).mono ?_
          rintro e w5 ⟨A5, c5, rfl, F5, hb⟩
          replace HX := HX.ext hb
          replace hT := hT.ext hb
          clear hb
          go_upto_region 11 with fail
          have hg5 : w.heap.size < w5.heap.size := HX.lt 0 rfl
          have hb := below_alloc w5 (.cells #[.slice A5 (dig N).length c5] 25)
          replace HX := HX.new #[.slice A5 (dig N).length c5] 25
          simp only [List.cons_append, List.nil_append] at HX
          replace hT := hT.ext hb
          replace F5 := F5.ext hb
          clear hb
          generalize w5.alloc (.cells #[.slice A5 (dig N).length c5] 25) = W5 at *
          generalize w5.heap.size = g5 at *
          go_wp2_with fail
          refine (nof_any 10 _ (by omega)).mono ?_
          rintro e w6 ⟨A6, c6, rfl, F6, hb⟩
          replace HX := HX.ext hb
          replace hT := hT.ext hb
          replace F5 := F5.ext hb
          clear hb
          have hl10 : (dig 10).length ≤ 1 := dig_len_le (by decide)
          have hnd : Lib.nDigits (val (dig 10)) * P.length ≤ 4000 := by rw [val_dig]; have : Lib.nDigits 10 = 2 := by decide +kernel
                                                                        rw [this]; omega
          go_wp2_with fail
          refine (npow_any A6 _ c6 (dig 10) P.length _ F6 rfl (by omega) hT (by omega) hnd).mono ?_
          rw [val_dig, HD2.out]
          rintro e w8 ⟨A8, c8, rfl, F8, hb⟩
          replace HX := HX.ext hb
          replace hT := hT.ext hb
          replace F5 := F5.ext hb
          replace F6 := F6.ext hb
          clear hb
          clear F6
          go_upto_region 12 with fail
          have hg8 : w.heap.size < w8.heap.size := HX.lt 0 rfl
          have hb := below_alloc w8 (.cells #[.slice A8 (dig D).length c8] 25)
          replace HX := HX.new #[.slice A8 (dig D).length c8] 25
          simp only [List.cons_append, List.nil_append] at HX
          replace hT := hT.ext hb
          replace F5 := F5.ext hb
          replace F8 := F8.ext hb
          clear hb
          generalize w8.alloc (.cells #[.slice A8 (dig D).length c8] 25) = W8 at *
          generalize w8.heap.size = g8 at *
          have hc10 := HX.cell 1 0 rfl rfl
          have hc20 := HX.cell 2 0 rfl rfl
          try simp only [List.getElem_toArray, List.getElem_cons_zero, List.getElem_cons_succ] at hc10 hc20
          go_wp2_with fail
          refine (fmade_any σ A5 A8 _ _ c5 c8 (dig N) (dig D) _ F5 F8 rfl rfl (by omega) (by omega)).mono ?_
          rw [val_dig, val_dig, HQ3.out]
          rintro e w9 ⟨A7, c7, B7, d7, rfl, N7, D7, hb⟩
          clear hc10 hc20
          replace HX := HX.ext hb
          replace hT := hT.ext hb
          replace F5 := F5.ext hb
          replace F8 := F8.ext hb
          clear hb
          clear F5 F8
          have hc00 := HX.cell 0 0 rfl rfl
          have hf00 := HX.free 0 0 rfl
          have hc01 := HX.cell 0 1 rfl rfl
          have hf01 := HX.free 0 1 rfl
          have hc02 := HX.cell 0 2 rfl rfl
          have hf02 := HX.free 0 2 rfl
          try simp only [List.getElem_toArray, List.getElem_cons_zero, List.getElem_cons_succ] at hc00 hf00 hc01 hf01 hc02 hf02
          go_wp2
          clear hc00 hf00 hc01 hf01 hc02 hf02
          have hk := HX.keep3 0 rfl rfl rfl rfl (by omega) (.bool (sg q)) (.slice A7 (dig (nu q)).length c7) (.slice B7 (dig q.den).length d7)
          replace HX := HX.put3 0 rfl (by omega) (by intro k q hk hne; match k, hk with | 0, hk => (simp at hk; subst hk; simp at hne ⊢; try omega) | 1, hk => (simp at hk; subst hk; simp at hne ⊢; try omega) | 2, hk => (simp at hk; subst hk; simp at hne ⊢; try omega) | k + 3, hk => simp at hk) (.bool (sg q)) (.slice A7 (dig (nu q)).length c7) (.slice B7 (dig q.den).length d7)
          replace N7 := N7.stay hk
          replace D7 := D7.stay hk
          clear hk
          simp only [List.set_cons_zero, List.set_cons_succ] at HX
          have hc00 := HX.cell 0 0 rfl rfl
          have hc01 := HX.cell 0 1 rfl rfl
          have hc02 := HX.cell 0 2 rfl rfl
          try simp only [List.getElem_toArray, List.getElem_cons_zero, List.getElem_cons_succ] at hc00 hc01 hc02
          exact bodyPost_ret (v := .tuple #[.agg #[.bool (sg q), .slice A7 (dig (nu q)).length c7, .slice B7 (dig q.den).length d7], .int .i64 0]) (by simp [results, Tryz.results18, go_sem, hc00, hc01, hc02]) rfl (HP.out _ _ ⟨A7, c7, B7, d7, rfl, ⟨N7, D7, hSz⟩, HX.below⟩)
    · go_wp2_with fail
      refine (fdigits_any _ HB2 (by omega)).mono ?_
      rintro e w10 ⟨rfl, hb⟩
      replace HX := HX.ext hb
      replace hT := hT.ext hb
      clear hb
      cases b
      · have HP := Lib.hid (HB.out rfl)
        clear HB HG HD
        have hc00 := HX.cell 0 0 rfl rfl
        have hf00 := HX.free 0 0 rfl
        have hc01 := HX.cell 0 1 rfl rfl
        have hf01 := HX.free 0 1 rfl
        have hc02 := HX.cell 0 2 rfl rfl
        have hf02 := HX.free 0 2 rfl
        try simp only [List.getElem_toArray, List.getElem_cons_zero, List.getElem_cons_succ] at hc00 hf00 hc01 hf01 hc02 hf02
        go_wp2
        clear hc00 hf00 hc01 hf01 hc02 hf02
        have hk := HX.keep3 0 rfl rfl rfl rfl (by omega) (.bool false) (.slice none 0 0) (.slice none 0 0)
        replace HX := HX.put3 0 rfl (by omega) (by intro k q hk hne; match k, hk with | 0, hk => (simp at hk; subst hk; simp at hne ⊢; try omega) | k + 1, hk => simp at hk) (.bool false) (.slice none 0 0) (.slice none 0 0)
        clear hk
        simp only [List.set_cons_zero, List.set_cons_succ] at HX
        have hc00 := HX.cell 0 0 rfl rfl
        have hc01 := HX.cell 0 1 rfl rfl
        have hc02 := HX.cell 0 2 rfl rfl
        try simp only [List.getElem_toArray, List.getElem_cons_zero, List.getElem_cons_succ] at hc00 hc01 hc02
        exact bodyPost_ret (v := .tuple #[.agg #[.bool false, .slice none 0 0, .slice none 0 0], .int .i64 3]) (by simp [results, Tryz.results18, go_sem, hc00, hc01, hc02]) rfl (HP.out _ _ ⟨rfl, HX.below⟩)
      · have HLo := HL.out
        by_cases hw1 : 1 < W.length
        · have hw0 : 0 < W.length := by omega
          have hix : ∀ h, (str W)[0]'h = W[0]'hw0 := fun _ => rfl
          rw [lead, decide_eq_true hw1, Bool.true_and, List.head?_eq_getElem?, List.getElem?_eq_getElem hw0] at HLo
          by_cases hw48 : W[0]'hw0 = 48
          · have hw : ((((W[0]'hw0).toNat : Nat) : Int) == 48) = true := by rw [hw48]; rfl
            obtain rfl : l = true := by rw [← HLo, hw48]; rfl
            clear HLo
            generalize W[0]'hw0 = b0 at *
            clear hw48 HL
            have HP := Lib.hid (HB.out rfl)
            clear HB HG HD
            have hc00 := HX.cell 0 0 rfl rfl
            have hf00 := HX.free 0 0 rfl
            have hc01 := HX.cell 0 1 rfl rfl
            have hf01 := HX.free 0 1 rfl
            have hc02 := HX.cell 0 2 rfl rfl
            have hf02 := HX.free 0 2 rfl
            try simp only [List.getElem_toArray, List.getElem_cons_zero, List.getElem_cons_succ] at hc00 hf00 hc01 hf01 hc02 hf02
            go_wp2
            clear hc00 hf00 hc01 hf01 hc02 hf02
            have hk := HX.keep3 0 rfl rfl rfl rfl (by omega) (.bool false) (.slice none 0 0) (.slice none 0 0)
            replace HX := HX.put3 0 rfl (by omega) (by intro k q hk hne; match k, hk with | 0, hk => (simp at hk; subst hk; simp at hne ⊢; try omega) | k + 1, hk => simp at hk) (.bool false) (.slice none 0 0) (.slice none 0 0)
            clear hk
            simp only [List.set_cons_zero, List.set_cons_succ] at HX
            have hc00 := HX.cell 0 0 rfl rfl
            have hc01 := HX.cell 0 1 rfl rfl
            have hc02 := HX.cell 0 2 rfl rfl
            try simp only [List.getElem_toArray, List.getElem_cons_zero, List.getElem_cons_succ] at hc00 hc01 hc02
            exact bodyPost_ret (v := .tuple #[.agg #[.bool false, .slice none 0 0, .slice none 0 0], .int .i64 3]) (by simp [results, Tryz.results18, go_sem, hc00, hc01, hc02]) rfl (HP.out _ _ ⟨rfl, HX.below⟩)
          · have hw : ((((W[0]'hw0).toNat : Nat) : Int) == 48) = false := by
              rw [beq_eq_false_iff_ne]
              intro h
              refine hw48 (UInt8.toNat_inj.1 ?_)
              have : (48 : UInt8).toNat = 48 := rfl
              omega
            obtain rfl : l = false := by rw [← HLo]; simpa using hw48
            clear HLo
            generalize W[0]'hw0 = b0 at *
            clear hw48 HL
            have HP := Lib.hid (HG.out rfl)
            have hall := HD.out rfl
            have hz := zs_parse hall (by rw [List.length_append]; omega)
            have zN := val_len hall (by rw [List.length_append]; omega)
            have zD := ten_len (k := P.length) (by omega)
            obtain ⟨N, hN⟩ : ∃ N, dval 0 (W ++ P) = N := ⟨_, rfl⟩
            obtain ⟨D, hD⟩ : ∃ D, 10 ^ P.length = D := ⟨_, rfl⟩
            rw [hN] at hz zN
            rw [hD] at zD
            have HQ2 := HQ.out
            rw [hN, hD] at HQ2
            have hSz : Sz q 30 := HQ2 ▸ Sz.of_rv (by omega) (by omega) (by omega)
            have HQ3 := Lib.hid HQ2
            have HD2 := Lib.hid hD
            have hap := HAP.out
            clear HB HG HD HQ hall hN hD HQ2
            go_wp2_with fail
            refine (stl_any (W ++ P) _).mono ?_
            rintro e w4 ⟨rfl, hb⟩
            replace HX := HX.ext hb
            replace hT := hT.ext hb
            clear hb
            clear hap
            obtain ⟨S, hS⟩ : ∃ S, Lib.trimLeftB (W ++ P) 48 = S := ⟨_, rfl⟩
            have hlS : S.length ≤ 200 := by have := tlb_len (W ++ P); rw [hS, List.length_append] at this; omega
            rw [zs, hS] at hz
            rw [hS]
            clear hS
            cases hE : S.isEmpty
            · rw [hE] at hz
              simp only [if_true, if_false, Bool.false_eq_true] at hz
              have HZ := Lib.hid hz
              clear hz
              have hse : (str S).toList.isEmpty = false := by rw [str_toList]; exact hE
              clear hE
              go_wp2_with fail
              refine (nparse_e (L := S) _ HZ (by omega)).mono ?_
              rintro e w5 ⟨A5, c5, rfl, F5, hb⟩
              replace HX := HX.ext hb
              replace hT := hT.ext hb
              clear hb
              go_upto_region 11 with fail
              have hg5 : w.heap.size < w5.heap.size := HX.lt 0 rfl
              have hb := below_alloc w5 (.cells #[.slice A5 (dig N).length c5] 25)
              replace HX := HX.new #[.slice A5 (dig N).length c5] 25
              simp only [List.cons_append, List.nil_append] at HX
              replace hT := hT.ext hb
              replace F5 := F5.ext hb
              clear hb
              generalize w5.alloc (.cells #[.slice A5 (dig N).length c5] 25) = W5 at *
              generalize w5.heap.size = g5 at *
              go_wp2_with fail
              refine (nof_any 10 _ (by omega)).mono ?_
              rintro e w6 ⟨A6, c6, rfl, F6, hb⟩
              replace HX := HX.ext hb
              replace hT := hT.ext hb
              replace F5 := F5.ext hb
              clear hb
              have hl10 : (dig 10).length ≤ 1 := dig_len_le (by decide)
              have hnd : Lib.nDigits (val (dig 10)) * P.length ≤ 4000 := by rw [val_dig]; have : Lib.nDigits 10 = 2 := by decide +kernel
                                                                            rw [this]; omega
              go_wp2_with fail
              refine (npow_any A6 _ c6 (dig 10) P.length _ F6 rfl (by omega) hT (by omega) hnd).mono ?_
              rw [val_dig, HD2.out]
              rintro e w8 ⟨A8, c8, rfl, F8, hb⟩
              replace HX := HX.ext hb
              replace hT := hT.ext hb
              replace F5 := F5.ext hb
              replace F6 := F6.ext hb
              clear hb
              clear F6
              go_upto_region 12 with fail
              have hg8 : w.heap.size < w8.heap.size := HX.lt 0 rfl
              have hb := below_alloc w8 (.cells #[.slice A8 (dig D).length c8] 25)
              replace HX := HX.new #[.slice A8 (dig D).length c8] 25
              simp only [List.cons_append, List.nil_append] at HX
              replace hT := hT.ext hb
              replace F5 := F5.ext hb
              replace F8 := F8.ext hb
              clear hb
              generalize w8.alloc (.cells #[.slice A8 (dig D).length c8] 25) = W8 at *
              generalize w8.heap.size = g8 at *
              have hc10 := HX.cell 1 0 rfl rfl
              have hc20 := HX.cell 2 0 rfl rfl
              try simp only [List.getElem_toArray, List.getElem_cons_zero, List.getElem_cons_succ] at hc10 hc20
              go_wp2_with fail
              refine (fmade_any σ A5 A8 _ _ c5 c8 (dig N) (dig D) _ F5 F8 rfl rfl (by omega) (by omega)).mono ?_
              rw [val_dig, val_dig, HQ3.out]
              rintro e w9 ⟨A7, c7, B7, d7, rfl, N7, D7, hb⟩
              clear hc10 hc20
              replace HX := HX.ext hb
              replace hT := hT.ext hb
              replace F5 := F5.ext hb
              replace F8 := F8.ext hb
              clear hb
              clear F5 F8
              have hc00 := HX.cell 0 0 rfl rfl
              have hf00 := HX.free 0 0 rfl
              have hc01 := HX.cell 0 1 rfl rfl
              have hf01 := HX.free 0 1 rfl
              have hc02 := HX.cell 0 2 rfl rfl
              have hf02 := HX.free 0 2 rfl
              try simp only [List.getElem_toArray, List.getElem_cons_zero, List.getElem_cons_succ] at hc00 hf00 hc01 hf01 hc02 hf02
              go_wp2
              clear hc00 hf00 hc01 hf01 hc02 hf02
              have hk := HX.keep3 0 rfl rfl rfl rfl (by omega) (.bool (sg q)) (.slice A7 (dig (nu q)).length c7) (.slice B7 (dig q.den).length d7)
              replace HX := HX.put3 0 rfl (by omega) (by intro k q hk hne; match k, hk with | 0, hk => (simp at hk; subst hk; simp at hne ⊢; try omega) | 1, hk => (simp at hk; subst hk; simp at hne ⊢; try omega) | 2, hk => (simp at hk; subst hk; simp at hne ⊢; try omega) | k + 3, hk => simp at hk) (.bool (sg q)) (.slice A7 (dig (nu q)).length c7) (.slice B7 (dig q.den).length d7)
              replace N7 := N7.stay hk
              replace D7 := D7.stay hk
              clear hk
              simp only [List.set_cons_zero, List.set_cons_succ] at HX
              have hc00 := HX.cell 0 0 rfl rfl
              have hc01 := HX.cell 0 1 rfl rfl
              have hc02 := HX.cell 0 2 rfl rfl
              try simp only [List.getElem_toArray, List.getElem_cons_zero, List.getElem_cons_succ] at hc00 hc01 hc02
              exact bodyPost_ret (v := .tuple #[.agg #[.bool (sg q), .slice A7 (dig (nu q)).length c7, .slice B7 (dig q.den).length d7], .int .i64 0]) (by simp [results, Tryz.results18, go_sem, hc00, hc01, hc02]) rfl (HP.out _ _ ⟨A7, c7, B7, d7, rfl, ⟨N7, D7, hSz⟩, HX.below⟩)
            · rw [hE] at hz
              simp only [if_true, if_false, Bool.false_eq_true] at hz
              have HZ := Lib.hid hz
              clear hz
              have hse : (str S).toList.isEmpty = true := by rw [str_toList]; exact hE
              clear hE
              go_wp2_with fail
              refine (nparse_e (L := [48]) _ HZ (by simp)).mono ?_
              rintro e w5 ⟨A5, c5, rfl, F5, hb⟩
              replace HX := HX.ext hb
              replace hT := hT.ext hb
              clear hb
              go_upto_region 11 with fail
              have hg5 : w.heap.size < w5.heap.size := HX.lt 0 rfl
              have hb := below_alloc w5 (.cells #[.slice A5 (dig N).length c5] 25)
              replace HX := HX.new #[.slice A5 (dig N).length c5] 25
              simp only [List.cons_append, List.nil_append] at HX
              replace hT := hT.ext hb
              replace F5 := F5.ext hb
              clear hb
              generalize w5.alloc (.cells #[.slice A5 (dig N).length c5] 25) = W5 at *
              generalize w5.heap.size = g5 at *
              go_wp2_with fail
              refine (nof_any 10 _ (by omega)).mono ?_
              rintro e w6 ⟨A6, c6, rfl, F6, hb⟩
              replace HX := HX.ext hb
              replace hT := hT.ext hb
              replace F5 := F5.ext hb
              clear hb
              have hl10 : (dig 10).length ≤ 1 := dig_len_le (by decide)
              have hnd : Lib.nDigits (val (dig 10)) * P.length ≤ 4000 := by rw [val_dig]; have : Lib.nDigits 10 = 2 := by decide +kernel
                                                                            rw [this]; omega
              go_wp2_with fail
              refine (npow_any A6 _ c6 (dig 10) P.length _ F6 rfl (by omega) hT (by omega) hnd).mono ?_
              rw [val_dig, HD2.out]
              rintro e w8 ⟨A8, c8, rfl, F8, hb⟩
              replace HX := HX.ext hb
              replace hT := hT.ext hb
              replace F5 := F5.ext hb
              replace F6 := F6.ext hb
              clear hb
              clear F6
              go_upto_region 12 with fail
              have hg8 : w.heap.size < w8.heap.size := HX.lt 0 rfl
              have hb := below_alloc w8 (.cells #[.slice A8 (dig D).length c8] 25)
              replace HX := HX.new #[.slice A8 (dig D).length c8] 25
              simp only [List.cons_append, List.nil_append] at HX
              replace hT := hT.ext hb
              replace F5 := F5.ext hb
              replace F8 := F8.ext hb
              clear hb
              generalize w8.alloc (.cells #[.slice A8 (dig D).length c8] 25) = W8 at *
              generalize w8.heap.size = g8 at *
              have hc10 := HX.cell 1 0 rfl rfl
              have hc20 := HX.cell 2 0 rfl rfl
              try simp only [List.getElem_toArray, List.getElem_cons_zero, List.getElem_cons_succ] at hc10 hc20
              go_wp2_with fail
              refine (fmade_any σ A5 A8 _ _ c5 c8 (dig N) (dig D) _ F5 F8 rfl rfl (by omega) (by omega)).mono ?_
              rw [val_dig, val_dig, HQ3.out]
              rintro e w9 ⟨A7, c7, B7, d7, rfl, N7, D7, hb⟩
              clear hc10 hc20
              replace HX := HX.ext hb
              replace hT := hT.ext hb
              replace F5 := F5.ext hb
              replace F8 := F8.ext hb
              clear hb
              clear F5 F8
              have hc00 := HX.cell 0 0 rfl rfl
              have hf00 := HX.free 0 0 rfl
              have hc01 := HX.cell 0 1 rfl rfl
              have hf01 := HX.free 0 1 rfl
              have hc02 := HX.cell 0 2 rfl rfl
              have hf02 := HX.free 0 2 rfl
              try simp only [List.getElem_toArray, List.getElem_cons_zero, List.getElem_cons_succ] at hc00 hf00 hc01 hf01 hc02 hf02
              go_wp2
              clear hc00 hf00 hc01 hf01 hc02 hf02
              have hk := HX.keep3 0 rfl rfl rfl rfl (by omega) (.bool (sg q)) (.slice A7 (dig (nu q)).length c7) (.slice B7 (dig q.den).length d7)
              replace HX := HX.put3 0 rfl (by omega) (by intro k q hk hne; match k, hk with | 0, hk => (simp at hk; subst hk; simp at hne ⊢; try omega) | 1, hk => (simp at hk; subst hk; simp at hne ⊢; try omega) | 2, hk => (simp at hk; subst hk; simp at hne ⊢; try omega) | k + 3, hk => simp at hk) (.bool (sg q)) (.slice A7 (dig (nu q)).length c7) (.slice B7 (dig q.den).length d7)
              replace N7 := N7.stay hk
              replace D7 := D7.stay hk
              clear hk
              simp only [List.set_cons_zero, List.set_cons_succ] at HX
              have hc00 := HX.cell 0 0 rfl rfl
              have hc01 := HX.cell 0 1 rfl rfl
              have hc02 := HX.cell 0 2 rfl rfl
              try simp only [List.getElem_toArray, List.getElem_cons_zero, List.getElem_cons_succ] at hc00 hc01 hc02
              exact bodyPost_ret (v := .tuple #[.agg #[.bool (sg q), .slice A7 (dig (nu q)).length c7, .slice B7 (dig q.den).length d7], .int .i64 0]) (by simp [results, Tryz.results18, go_sem, hc00, hc01, hc02]) rfl (HP.out _ _ ⟨A7, c7, B7, d7, rfl, ⟨N7, D7, hSz⟩, HX.below⟩)
        · obtain rfl : l = false := by rw [← HLo, lead, decide_eq_false hw1]; rfl
          clear HLo HL
          have HP := Lib.hid (HG.out rfl)
          have hall := HD.out rfl
          have hz := zs_parse hall (by rw [List.length_append]; omega)
          have zN := val_len hall (by rw [List.length_append]; omega)
          have zD := ten_len (k := P.length) (by omega)
          obtain ⟨N, hN⟩ : ∃ N, dval 0 (W ++ P) = N := ⟨_, rfl⟩
          obtain ⟨D, hD⟩ : ∃ D, 10 ^ P.length = D := ⟨_, rfl⟩
          rw [hN] at hz zN
          rw [hD] at zD
          have HQ2 := HQ.out
          rw [hN, hD] at HQ2
          have hSz : Sz q 30 := HQ2 ▸ Sz.of_rv (by omega) (by omega) (by omega)
          have HQ3 := Lib.hid HQ2
          have HD2 := Lib.hid hD
          have hap := HAP.out
          clear HB HG HD HQ hall hN hD HQ2
          go_wp2_with fail
          refine (stl_any (W ++ P) _).mono ?_
          rintro e w4 ⟨rfl, hb⟩
          replace HX := HX.ext hb
          replace hT := hT.ext hb
          clear hb
          clear hap
          obtain ⟨S, hS⟩ : ∃ S, Lib.trimLeftB (W ++ P) 48 = S := ⟨_, rfl⟩
          have hlS : S.length ≤ 200 := by have := tlb_len (W ++ P); rw [hS, List.length_append] at this; omega
          rw [zs, hS] at hz
          rw [hS]
          clear hS
          cases hE : S.isEmpty
          · rw [hE] at hz
            simp only [if_true, if_false, Bool.false_eq_true] at hz
            have HZ := Lib.hid hz
            clear hz
            have hse : (str S).toList.isEmpty = false := by rw [str_toList]; exact hE
            clear hE
            go_wp2_with fail
            refine (nparse_e (L := S) _ HZ (by omega)).mono ?_
            rintro e w5 ⟨A5, c5, rfl, F5, hb⟩
            replace HX := HX.ext hb
            replace hT := hT.ext hb
            clear hb
            go_upto_region 11 with fail
            have hg5 : w.heap.size < w5.heap.size := HX.lt 0 rfl
            have hb := below_alloc w5 (.cells #[.slice A5 (dig N).length c5] 25)
            replace HX := HX.new #[.slice A5 (dig N).length c5] 25
            simp only [List.cons_append, List.nil_append] at HX
            replace hT := hT.ext hb
            replace F5 := F5.ext hb
            clear hb
            generalize w5.alloc (.cells #[.slice A5 (dig N).length c5] 25) = W5 at *
            generalize w5.heap.size = g5 at *
            go_wp2_with fail
            refine (nof_any 10 _ (by omega)).mono ?_
            rintro e w6 ⟨A6, c6, rfl, F6, hb⟩
            replace HX := HX.ext hb
            replace hT := hT.ext hb
            replace F5 := F5.ext hb
            clear hb
            have hl10 : (dig 10).length ≤ 1 := dig_len_le (by decide)
            have hnd : Lib.nDigits (val (dig 10)) * P.length ≤ 4000 := by rw [val_dig]; have : Lib.nDigits 10 = 2 := by decide +kernel
                                                                          rw [this]; omega
            go_wp2_with fail
            refine (npow_any A6 _ c6 (dig 10) P.length _ F6 rfl (by omega) hT (by omega) hnd).mono ?_
            rw [val_dig, HD2.out]
            rintro e w8 ⟨A8, c8, rfl, F8, hb⟩
            replace HX := HX.ext hb
            replace hT := hT.ext hb
            replace F5 := F5.ext hb
            replace F6 := F6.ext hb
            clear hb
            clear F6
            go_upto_region 12 with fail
            have hg8 : w.heap.size < w8.heap.size := HX.lt 0 rfl
            have hb := below_alloc w8 (.cells #[.slice A8 (dig D).length c8] 25)
            replace HX := HX.new #[.slice A8 (dig D).length c8] 25
            simp only [List.cons_append, List.nil_append] at HX
            replace hT := hT.ext hb
            replace F5 := F5.ext hb
            replace F8 := F8.ext hb
            clear hb
            generalize w8.alloc (.cells #[.slice A8 (dig D).length c8] 25) = W8 at *
            generalize w8.heap.size = g8 at *
            have hc10 := HX.cell 1 0 rfl rfl
            have hc20 := HX.cell 2 0 rfl rfl
            try simp only [List.getElem_toArray, List.getElem_cons_zero, List.getElem_cons_succ] at hc10 hc20
            go_wp2_with fail
            refine (fmade_any σ A5 A8 _ _ c5 c8 (dig N) (dig D) _ F5 F8 rfl rfl (by omega) (by omega)).mono ?_
            rw [val_dig, val_dig, HQ3.out]
            rintro e w9 ⟨A7, c7, B7, d7, rfl, N7, D7, hb⟩
            clear hc10 hc20
            replace HX := HX.ext hb
            replace hT := hT.ext hb
            replace F5 := F5.ext hb
            replace F8 := F8.ext hb
            clear hb
            clear F5 F8
            have hc00 := HX.cell 0 0 rfl rfl
            have hf00 := HX.free 0 0 rfl
            have hc01 := HX.cell 0 1 rfl rfl
            have hf01 := HX.free 0 1 rfl
            have hc02 := HX.cell 0 2 rfl rfl
            have hf02 := HX.free 0 2 rfl
            try simp only [List.getElem_toArray, List.getElem_cons_zero, List.getElem_cons_succ] at hc00 hf00 hc01 hf01 hc02 hf02
            go_wp2
            clear hc00 hf00 hc01 hf01 hc02 hf02
            have hk := HX.keep3 0 rfl rfl rfl rfl (by omega) (.bool (sg q)) (.slice A7 (dig (nu q)).length c7) (.slice B7 (dig q.den).length d7)
            replace HX := HX.put3 0 rfl (by omega) (by intro k q hk hne; match k, hk with | 0, hk => (simp at hk; subst hk; simp at hne ⊢; try omega) | 1, hk => (simp at hk; subst hk; simp at hne ⊢; try omega) | 2, hk => (simp at hk; subst hk; simp at hne ⊢; try omega) | k + 3, hk => simp at hk) (.bool (sg q)) (.slice A7 (dig (nu q)).length c7) (.slice B7 (dig q.den).length d7)
            replace N7 := N7.stay hk
            replace D7 := D7.stay hk
            clear hk
            simp only [List.set_cons_zero, List.set_cons_succ] at HX
            have hc00 := HX.cell 0 0 rfl rfl
            have hc01 := HX.cell 0 1 rfl rfl
            have hc02 := HX.cell 0 2 rfl rfl
            try simp only [List.getElem_toArray, List.getElem_cons_zero, List.getElem_cons_succ] at hc00 hc01 hc02
            exact bodyPost_ret (v := .tuple #[.agg #[.bool (sg q), .slice A7 (dig (nu q)).length c7, .slice B7 (dig q.den).length d7], .int .i64 0]) (by simp [results, Tryz.results18, go_sem, hc00, hc01, hc02]) rfl (HP.out _ _ ⟨A7, c7, B7, d7, rfl, ⟨N7, D7, hSz⟩, HX.below⟩)
          · rw [hE] at hz
            simp only [if_true, if_false, Bool.false_eq_true] at hz
            have HZ := Lib.hid hz
            clear hz
            have hse : (str S).toList.isEmpty = true := by rw [str_toList]; exact hE
            clear hE
            go_wp2_with fail
            refine (nparse_e (L := [48]) _ HZ (by simp)).mono ?_
            rintro e w5 ⟨A5, c5, rfl, F5, hb⟩
            replace HX := HX.ext hb
            replace hT := hT.ext hb
            clear hb
            go_upto_region 11 with fail
            have hg5 : w.heap.size < w5.heap.size := HX.lt 0 rfl
            have hb := below_alloc w5 (.cells #[.slice A5 (dig N).length c5] 25)
            replace HX := HX.new #[.slice A5 (dig N).length c5] 25
            simp only [List.cons_append, List.nil_append] at HX
            replace hT := hT.ext hb
            replace F5 := F5.ext hb
            clear hb
            generalize w5.alloc (.cells #[.slice A5 (dig N).length c5] 25) = W5 at *
            generalize w5.heap.size = g5 at *
            go_wp2_with fail
            refine (nof_any 10 _ (by omega)).mono ?_
            rintro e w6 ⟨A6, c6, rfl, F6, hb⟩
            replace HX := HX.ext hb
            replace hT := hT.ext hb
            replace F5 := F5.ext hb
            clear hb
            have hl10 : (dig 10).length ≤ 1 := dig_len_le (by decide)
            have hnd : Lib.nDigits (val (dig 10)) * P.length ≤ 4000 := by rw [val_dig]; have : Lib.nDigits 10 = 2 := by decide +kernel
                                                                          rw [this]; omega
            go_wp2_with fail
            refine (npow_any A6 _ c6 (dig 10) P.length _ F6 rfl (by omega) hT (by omega) hnd).mono ?_
            rw [val_dig, HD2.out]
            rintro e w8 ⟨A8, c8, rfl, F8, hb⟩
            replace HX := HX.ext hb
            replace hT := hT.ext hb
            replace F5 := F5.ext hb
            replace F6 := F6.ext hb
            clear hb
            clear F6
            go_upto_region 12 with fail
            have hg8 : w.heap.size < w8.heap.size := HX.lt 0 rfl
            have hb := below_alloc w8 (.cells #[.slice A8 (dig D).length c8] 25)
            replace HX := HX.new #[.slice A8 (dig D).length c8] 25
            simp only [List.cons_append, List.nil_append] at HX
            replace hT := hT.ext hb
            replace F5 := F5.ext hb
            replace F8 := F8.ext hb
            clear hb
            generalize w8.alloc (.cells #[.slice A8 (dig D).length c8] 25) = W8 at *
            generalize w8.heap.size = g8 at *
            have hc10 := HX.cell 1 0 rfl rfl
            have hc20 := HX.cell 2 0 rfl rfl
            try simp only [List.getElem_toArray, List.getElem_cons_zero, List.getElem_cons_succ] at hc10 hc20
            go_wp2_with fail
            refine (fmade_any σ A5 A8 _ _ c5 c8 (dig N) (dig D) _ F5 F8 rfl rfl (by omega) (by omega)).mono ?_
            rw [val_dig, val_dig, HQ3.out]
            rintro e w9 ⟨A7, c7, B7, d7, rfl, N7, D7, hb⟩
            clear hc10 hc20
            replace HX := HX.ext hb
            replace hT := hT.ext hb
            replace F5 := F5.ext hb
            replace F8 := F8.ext hb
            clear hb
            clear F5 F8
            have hc00 := HX.cell 0 0 rfl rfl
            have hf00 := HX.free 0 0 rfl
            have hc01 := HX.cell 0 1 rfl rfl
            have hf01 := HX.free 0 1 rfl
            have hc02 := HX.cell 0 2 rfl rfl
            have hf02 := HX.free 0 2 rfl
            try simp only [List.getElem_toArray, List.getElem_cons_zero, List.getElem_cons_succ] at hc00 hf00 hc01 hf01 hc02 hf02
            go_wp2
            clear hc00 hf00 hc01 hf01 hc02 hf02
            have hk := HX.keep3 0 rfl rfl rfl rfl (by omega) (.bool (sg q)) (.slice A7 (dig (nu q)).length c7) (.slice B7 (dig q.den).length d7)
            replace HX := HX.put3 0 rfl (by omega) (by intro k q hk hne; match k, hk with | 0, hk => (simp at hk; subst hk; simp at hne ⊢; try omega) | 1, hk => (simp at hk; subst hk; simp at hne ⊢; try omega) | 2, hk => (simp at hk; subst hk; simp at hne ⊢; try omega) | k + 3, hk => simp at hk) (.bool (sg q)) (.slice A7 (dig (nu q)).length c7) (.slice B7 (dig q.den).length d7)
            replace N7 := N7.stay hk
            replace D7 := D7.stay hk
            clear hk
            simp only [List.set_cons_zero, List.set_cons_succ] at HX
            have hc00 := HX.cell 0 0 rfl rfl
            have hc01 := HX.cell 0 1 rfl rfl
            have hc02 := HX.cell 0 2 rfl rfl
            try simp only [List.getElem_toArray, List.getElem_cons_zero, List.getElem_cons_succ] at hc00 hc01 hc02
            exact bodyPost_ret (v := .tuple #[.agg #[.bool (sg q), .slice A7 (dig (nu q)).length c7, .slice B7 (dig q.den).length d7], .int .i64 0]) (by simp [results, Tryz.results18, go_sem, hc00, hc01, hc02]) rfl (HP.out _ _ ⟨A7, c7, B7, d7, rfl, ⟨N7, D7, hSz⟩, HX.below⟩)
theorem fpoint_any (L : List UInt8) (w : World) (hL : L.length ≤ 9223372036854775807) (hm : Mx w) (hT : Tab w) :
    Calls Tryz.prog 18 #[.string (str L)] w (RetD w L) := by
  by_cases h : L.length ≤ 200
  · exact fpoint_short L w h hm hT
  · exact fpoint_long L w hL (by omega)
end Go.Proofs.YtajddhkepbnilaaGreatDoor

namespace Go.Proofs.YtajddhkepbnilaaGreatDoor
open Go.RowKit Go.Proofs Go

theorem tenp_big {j : Nat} (h : j ≤ 200) : Sz (tenp j) 23 := by
  have h2 := ten_len h
  refine Sz.of_rv (by omega) ?_ (by omega)
  have : (dig 1).length ≤ 1 := dig_len_le (by decide)
  omega
set_option maxHeartbeats 1000000 in
set_option maxRecDepth 100000 in
theorem qpower_big (k : Nat) (hk : k ≤ 200) (w : World) :
    Calls Tryz.prog 58 #[.int .i64 (k : Int)] w (RetG w (tenp k) 23) := by
  go_enter Tryz.func58, Tryz.ntmps58
  go_wp2_with fail
  refine (qof_h (x := 1) (y := 1) (j := 23) (u := tenp 0) (Lib.hid tenp_zero) (tenp_big (by omega)) (by omega) (by omega) (by omega) (by omega)).mono ?_
  rintro e w1 ⟨A1, c1, B1, d1, rfl, F1, hb1⟩
  go_wp2_with fail
  have HX := ((BL.one w #[.bool false, .slice none 0 0, .slice none 0 0] 27).ext hb1).new #[.bool (sg (tenp 0)), .slice A1 (dig (nu (tenp 0))).length c1, .slice B1 (dig (tenp 0).den).length d1] 27
  simp only [List.cons_append, List.nil_append] at HX
  have F1 := F1.ext (below_alloc w1 (.cells #[.bool (sg (tenp 0)), .slice A1 (dig (nu (tenp 0))).length c1, .slice B1 (dig (tenp 0).den).length d1] 27))
  have hg1 : w.heap.size < w1.heap.size := Nat.lt_of_lt_of_le (by simp) hb1.size
  go_loopg [4] k (fun kk i wr => ∃ (j : Nat) (A2 : Option Addr) (c2 : Nat) (B2 : Option Addr) (d2 : Nat), j + kk = k ∧ i = .int .i64 (j : Int) ∧ Fc wr A2 c2 B2 d2 (tenp j) 23 ∧ BL w wr [(w.heap.size, #[.bool false, .slice none 0 0, .slice none 0 0], 27), (w1.heap.size, #[.bool (sg (tenp j)), .slice A2 (dig (nu (tenp j))).length c2, .slice B2 (dig (tenp j).den).length d2], 27)])
  case atStart => exact ⟨0, A1, c1, B1, d1, by omega, rfl, F1, HX⟩
  case round =>
    clear HX F1
    obtain ⟨j, A2, c2, B2, d2, hj, rfl, F2, HX⟩ := hrel
    by_cases hj0 : j < k
    · have Hu := Lib.hid (tenp_succ j)
      have zu := tenp_big (j := j + 1) (by omega)
      obtain ⟨u, HU⟩ : ∃ u, Hid (tenp (j + 1) = u) := ⟨_, Lib.hid rfl⟩
      rw [HU.out] at Hu zu
      generalize tenp j = p at *
      have zt := sz_lit false (a := 10) (b := 1) (by omega) (by omega)
      obtain ⟨T, HT⟩ : ∃ T, Hid (rv (!(decide ((10 : Int) < 0) == decide ((1 : Int) < 0))) (10 : Int).natAbs (1 : Int).natAbs = T) := ⟨_, Lib.hid rfl⟩
      have hT10 : rv false 10 1 = T := by rw [← HT.out]; rfl
      rw [hT10] at Hu zt
      clear hT10
      go_upto_region 5 with fail
      refine wp_region_x (al := []) (late := [3]) (dst := fun i => 0) (zt := fun _ => (#[], 0)) (B := wr.heap.size) (n := 3) (r := 1) (by kernel_rfl) (by kernel_rfl) (by decide) ?_ (by kernel_rfl) (by kernel_rfl) (by intro _ _ _ d _ h; cases d <;> exact h) (sz := 4) (by rfl) (by rfl) (Nat.le_refl _) ?_
      · intro i hi; cases hi
      have hE : Ext wr wr.drew := drew_ext wr
      replace HX := HX.ext hE
      replace F2 := F2.ext hE
      clear hE
      refine wpX_take (i := 0) (v := .agg #[.bool (sg p), .slice A2 (dig (nu p)).length c2, .slice B2 (dig p.den).length d2]) rfl (by kernel_rfl) (by kernel_rfl) (by kernel_rfl) (fun _ _ _ h => h) (Or.inl ⟨by rfl, fun W hW => ?_⟩) ?_
      · have h0 := (HX.ext hW).cell 1 0 rfl rfl
        have h1 := (HX.ext hW).cell 1 1 rfl rfl
        have h2 := (HX.ext hW).cell 1 2 rfl rfl
        simp only [] at h0 h1 h2
        go_simp
        try rfl
      try simp only [Act.put, List.setIfInBounds_toArray]
      refine wpX_step (i := 1) (by kernel_rfl) rfl (fun W1 K hE hK => ?_)
      replace HX := HX.ext hE
      replace F2 := F2.ext hE
      clear hE
      go_simp
      refine (qof_h HT zt (by omega) (by omega) (by omega) (by omega)).mono ?_
      rintro e W2 ⟨A8, c8, B8, d8, rfl, F8, hb⟩
      go_wp2_with fail
      refine hK.out _ _ hb ?_
      clear hK K
      replace HX := HX.ext hb
      replace F2 := F2.ext hb
      clear hb
      try simp only [Act.put, List.setIfInBounds_toArray, List.set_cons_zero, List.set_cons_succ]
      skip
      refine wpX_step (i := 2) (by kernel_rfl) rfl (fun W1 K hE hK => ?_)
      replace HX := HX.ext hE
      replace F2 := F2.ext hE
      replace F8 := F8.ext hE
      clear hE
      go_simp
      refine (qmul_h Hu zu F2.fr F8.fr (by omega) (by omega)).mono ?_
      rintro e W2 ⟨A9, c9, B9, d9, rfl, F9, hb⟩
      go_wp2_with fail
      refine hK.out _ _ hb ?_
      clear hK K
      replace HX := HX.ext hb
      replace F2 := F2.ext hb
      replace F8 := F8.ext hb
      clear hb
      try simp only [Act.put, List.setIfInBounds_toArray, List.set_cons_zero, List.set_cons_succ]
      skip
      clear F8 F2
      refine wpX_end (by kernel_rfl) (fun W7 ga m hE hg hm => ?_)
      replace HX := HX.ext hE
      replace F9 := F9.ext hE
      clear hE
      clear hg
      simp only [putAll, setAll]
      clear ga
      have hc10 := HX.cell 1 0 rfl rfl
      have hf10 := HX.free 1 0 rfl
      have hc11 := HX.cell 1 1 rfl rfl
      have hf11 := HX.free 1 1 rfl
      have hc12 := HX.cell 1 2 rfl rfl
      have hf12 := HX.free 1 2 rfl
      try simp only [List.getElem_toArray, List.getElem_cons_zero, List.getElem_cons_succ] at hc10 hf10 hc11 hf11 hc12 hf12
      refine wpAny_step (i := 3) (by kernel_rfl) rfl (by omega) (fun K hK => ?_)
      go_simp
      refine hK.out _ _ ?_
      clear hK K
      clear hc10 hf10 hc11 hf11 hc12 hf12
      have hk := HX.keep3 1 rfl rfl rfl rfl (by omega) (.bool (sg u)) (.slice A9 (dig (nu u)).length c9) (.slice B9 (dig u.den).length d9)
      replace HX := HX.put3 1 rfl (by omega) (by intro k q hk hne; match k, hk with | 0, hk => (simp at hk; subst hk; simp at hne ⊢; try omega) | 1, hk => (simp at hk; subst hk; simp at hne ⊢; try omega) | k + 2, hk => simp at hk) (.bool (sg u)) (.slice A9 (dig (nu u)).length c9) (.slice B9 (dig u.den).length d9)
      replace F9 := F9.stay hk
      clear hk
      simp only [List.set_cons_zero, List.set_cons_succ] at HX
      refine wpAny_done (by kernel_rfl) ?_ _
      go_wp2
      go_roundg (k - (j + 1))
      case measure => omega
      case rel => exact ⟨j + 1, A9, c9, B9, d9, by omega, by go_num, by rw [HU.out]; exact F9, by rw [HU.out]; exact HX⟩
    · obtain rfl : j = k := by omega
      have hc00 := HX.cell 0 0 rfl rfl
      have hf00 := HX.free 0 0 rfl
      have hc01 := HX.cell 0 1 rfl rfl
      have hf01 := HX.free 0 1 rfl
      have hc02 := HX.cell 0 2 rfl rfl
      have hf02 := HX.free 0 2 rfl
      try simp only [List.getElem_toArray, List.getElem_cons_zero, List.getElem_cons_succ] at hc00 hf00 hc01 hf01 hc02 hf02
      have hc10 := HX.cell 1 0 rfl rfl
      have hc11 := HX.cell 1 1 rfl rfl
      have hc12 := HX.cell 1 2 rfl rfl
      try simp only [List.getElem_toArray, List.getElem_cons_zero, List.getElem_cons_succ] at hc10 hc11 hc12
      go_wp2_with fail
      clear hc00 hf00 hc01 hf01 hc02 hf02
      clear hc10 hc11 hc12
      have hk := HX.keep3 0 rfl rfl rfl rfl (by omega) (.bool (sg (tenp j))) (.slice A2 (dig (nu (tenp j))).length c2) (.slice B2 (dig (tenp j).den).length d2)
      replace HX := HX.put3 0 rfl (by omega) (by intro k q hk hne; match k, hk with | 0, hk => (simp at hk; subst hk; simp at hne ⊢; try omega) | 1, hk => (simp at hk; subst hk; simp at hne ⊢; try omega) | k + 2, hk => simp at hk) (.bool (sg (tenp j))) (.slice A2 (dig (nu (tenp j))).length c2) (.slice B2 (dig (tenp j).den).length d2)
      replace F2 := F2.stay hk
      clear hk
      simp only [List.set_cons_zero] at HX
      have hc00 := HX.cell 0 0 rfl rfl
      have hc01 := HX.cell 0 1 rfl rfl
      have hc02 := HX.cell 0 2 rfl rfl
      try simp only [List.getElem_toArray, List.getElem_cons_zero, List.getElem_cons_succ] at hc00 hc01 hc02
      exact bodyPost_ret (v := .agg #[.bool (sg (tenp j)), .slice A2 (dig (nu (tenp j))).length c2, .slice B2 (dig (tenp j).den).length d2]) (by simp [results, Tryz.results58, go_sem, hc00, hc01, hc02]) rfl ⟨A2, c2, B2, d2, rfl, F2, HX.below⟩
end Go.Proofs.YtajddhkepbnilaaGreatDoor

namespace Go.Proofs.YtajddhkepbnilaaGreatDoor
open Go.RowKit Go.Proofs Go

theorem digs_no {L : List UInt8} {j : Nat} (hj : j < L.length) (h : isDig (L[j]'hj) = false) : digs L = false := by
  rw [digs]
  have : L.all isDig = false := by
    rw [List.all_eq_false]; exact ⟨_, List.getElem_mem hj, by simpa using h⟩
  rw [this]; rfl
theorem digs_end {L : List UInt8} (h : L.all isDig = true) : digs L = decide (0 < L.length) := by
  rw [digs, h]
  cases L with
  | nil => rfl
  | cons b l => simp
set_option maxHeartbeats 1000000 in
set_option maxRecDepth 100000 in
theorem qdigits_any {L : List UInt8} {b : Bool} (w : World) (hb : Hid (digs L = b)) (hl : L.length ≤ 4000) :
    Calls Tryz.prog 56 #[.string (str L)] w fun e w' => e = .returned (.bool b) ∧ Below w.heap.size w w' := by
  have hsz : (str L).size = L.length := str_size L
  go_enter Tryz.func56, Tryz.ntmps56
  go_wp2
  go_loopg [3] L.length (fun k i wr => ∃ j : Nat, j + k = L.length ∧ Hid ((L.take j).all isDig = true) ∧ i = .int .i64 (j : Int) ∧ wr = w)
  case atStart => exact ⟨0, by omega, Lib.hid (by simp), rfl, rfl⟩
  case round =>
    obtain ⟨j, hj, ha, rfl, rfl⟩ := hrel
    by_cases hj0 : j < L.length
    · have hix : ∀ h', (str L)[j]'h' = L[j]'hj0 := fun _ => rfl
      by_cases h1 : (L[j]'hj0).toNat < 48
      · have hno := Lib.hid (digs_no hj0 (by rw [Bool.eq_false_iff]; intro h; rw [isDig_iff] at h; omega))
        have hb2 : b = false := by rw [← hb.out, hno.out]
        subst hb2
        have h1b : decide ((((L[j]'hj0).toNat : Nat) : Int) < 48) = true := decide_eq_true (by omega)
        generalize L[j]'hj0 = x at *
        clear h1 hno
        go_wp2
        go_ret
        exact ⟨rfl, Below.refl _ _⟩
      · have h1b : decide ((((L[j]'hj0).toNat : Nat) : Int) < 48) = false := decide_eq_false (by omega)
        by_cases h2 : 57 < (L[j]'hj0).toNat
        · have hno := Lib.hid (digs_no hj0 (by rw [Bool.eq_false_iff]; intro h; rw [isDig_iff] at h; omega))
          have hb2 : b = false := by rw [← hb.out, hno.out]
          subst hb2
          have h2b : decide (57 < (((L[j]'hj0).toNat : Nat) : Int)) = true := decide_eq_true (by omega)
          generalize L[j]'hj0 = x at *
          clear h1 h2 hno
          go_wp2
          go_ret
          exact ⟨rfl, Below.refl _ _⟩
        · have h2b : decide (57 < (((L[j]'hj0).toNat : Nat) : Int)) = false := decide_eq_false (by omega)
          have hs : Hid ((L.take (j + 1)).all isDig = true) := Lib.hid (by
            rw [List.take_succ_eq_append_getElem hj0, List.all_append, ha.out, Bool.true_and]
            simp only [List.all_cons, List.all_nil, Bool.and_true]
            rw [isDig_iff]; omega)
          generalize L[j]'hj0 = x at *
          clear h1 h2
          go_wp2
          go_roundg (L.length - (j + 1))
          case measure => omega
          case rel => exact ⟨j + 1, by omega, hs, by go_num, by first | rfl | trivial⟩
    · have ha2 := ha.out
      rw [List.take_of_length_le (by omega)] at ha2
      have hb2 := hb.out
      rw [digs_end ha2] at hb2
      clear ha2
      subst hb2
      go_wp2
      go_ret
      exact ⟨ret_bool (by simp), Below.refl _ _⟩

set_option maxHeartbeats 1000000 in
set_option maxRecDepth 100000 in
theorem qpoint_long (L : List UInt8) (w : World) (hL : L.length ≤ 9223372036854775807) (h1 : 200 < L.length) :
    Calls Tryz.prog 19 #[.string (str L)] w (RetD w L) := by
  have hsz : (str L).size = L.length := str_size L
  have HP := Lib.hid (show ∀ e w', RetZE w 6 e w' → RetD w L e w' from fun e w' h => by rw [RetD, if_pos h1]; exact h)
  go_enter Tryz.func19, Tryz.ntmps19
  have HX := BL.one w #[.bool false, .slice none 0 0, .slice none 0 0] 27
  have hc00 := HX.cell 0 0 rfl rfl
  have hf00 := HX.free 0 0 rfl
  have hc01 := HX.cell 0 1 rfl rfl
  have hf01 := HX.free 0 1 rfl
  have hc02 := HX.cell 0 2 rfl rfl
  have hf02 := HX.free 0 2 rfl
  try simp only [List.getElem_toArray, List.getElem_cons_zero, List.getElem_cons_succ] at hc00 hf00 hc01 hf01 hc02 hf02
  go_wp2
  clear hc00 hf00 hc01 hf01 hc02 hf02
  have hc00 := HX.cell 0 0 rfl rfl
  have hc01 := HX.cell 0 1 rfl rfl
  have hc02 := HX.cell 0 2 rfl rfl
  try simp only [List.getElem_toArray, List.getElem_cons_zero, List.getElem_cons_succ] at hc00 hc01 hc02
  exact bodyPost_ret (v := .tuple #[.agg #[.bool false, .slice none 0 0, .slice none 0 0], .int .i64 6]) (by simp [results, Tryz.results19, go_sem, hc00, hc01, hc02]) rfl (HP.out _ _ ⟨rfl, HX.below⟩)

/-- what the walk is told of a string's parts -/
def Parts (w : World) (L W P : List UInt8) (f σ a b l : Bool) (q : Rat) : Prop :=
  ((digs W = a ∧ digs P = b ∧ lead W = l) ∧ W.length + P.length ≤ 200) ∧ rv σ (dval 0 (W ++ P)) (10 ^ P.length) = q ∧
  ((a && !(f && !b) && !l) = false → ∀ e w', RetZE w 3 e w' → RetD w L e w') ∧
  ((a && !(f && !b) && !l) = true → (∀ e w', RetGE w q 30 e w' → RetD w L e w') ∧ (W ++ P).all isDig = true ∧ 0 < (W ++ P).length)
theorem parts_of {L W P R : List UInt8} {f σ : Bool} (w : World) (hL : L.length ≤ 200) (hfr : frest L = R) (hσ : fneg L = σ) (hcut : cutAt 46 R = (W, P, f)) :
    ∃ a b l q, Parts w L W P f σ a b l q := by
  subst hfr
  have hW : dwh L = W := by rw [dwh, hcut]
  have hP : dpt L = P := by rw [dpt, hcut]
  have hF : dfo L = f := by rw [dfo, hcut]
  have hfl := frest_len L
  have hlen : W.length + P.length ≤ 200 := by have := cut_both (c := 46) (frest L); rw [hcut] at this; simp only [] at this; omega
  have hP0 : f = false → P = [] := fun h => by have := cut_found (c := 46) (frest L); rw [hcut] at this; exact this h
  refine ⟨_, _, _, _, ⟨⟨rfl, rfl, rfl⟩, hlen⟩, rfl, fun h e w' h2 => ?_, fun h => ⟨fun e w' h2 => ?_, ?_⟩⟩
  · have hd : dok L = false := by rw [dok, hW, hP, hF]; exact h
    rw [RetD, if_neg (by omega), hd]; exact h2
  · have hd : dok L = true := by rw [dok, hW, hP, hF]; exact h
    have he : dq L = rv σ (dval 0 (W ++ P)) (10 ^ P.length) := by rw [dq, hW, hP, hσ]
    rw [RetD, if_neg (by omega), hd, if_pos rfl, he]; exact h2
  · have ha : digs W = true := by revert h; cases digs W <;> simp
    rw [digs, Bool.and_eq_true] at ha
    have h2 : P.all isDig = true := by
      cases hf : f with
      | false => rw [hP0 hf]; rfl
      | true =>
        have hb : digs P = true := by revert h; rw [hf]; cases digs W <;> cases digs P <;> simp
        rw [digs, Bool.and_eq_true] at hb; exact hb.1
    refine ⟨by rw [List.all_append, ha.1, h2]; rfl, ?_⟩
    cases W with
    | nil => simp at ha
    | cons b l => simp
theorem fin3 {w W : World} {g : Nat} {A B : Option Addr} {c d : Nat} {q : Rat} {k : Nat} (hk : Keep w W) (h0 : W.cell? ⟨g, 0, none⟩ = some (.bool false)) (h1 : W.cell? ⟨g, 1, none⟩ = some (.slice none 0 0)) (h2 : W.cell? ⟨g, 2, none⟩ = some (.slice none 0 0)) (F : Fc w A c B d q k) (v0 v1 v2 : Value) :
    CB (((W.setCell ⟨g, 0, none⟩ v0).setCell ⟨g, 1, none⟩ v1).setCell ⟨g, 2, none⟩ v2) g v0 v1 v2 ∧ Fc (((W.setCell ⟨g, 0, none⟩ v0).setCell ⟨g, 1, none⟩ v1).setCell ⟨g, 2, none⟩ v2) A c B d q k := by
  have e1 : (W.setCell ⟨g, 0, none⟩ v0).cell? ⟨g, 1, none⟩ = some (.slice none 0 0) := set_off h1 (by omega)
  have e2 : ((W.setCell ⟨g, 0, none⟩ v0).setCell ⟨g, 1, none⟩ v1).cell? ⟨g, 2, none⟩ = some (.slice none 0 0) := set_off (set_off h2 (by omega)) (by omega)
  have s0 : (W.setCell ⟨g, 0, none⟩ v0).cell? ⟨g, 0, none⟩ = some v0 := set_same h0
  have s1 : ((W.setCell ⟨g, 0, none⟩ v0).setCell ⟨g, 1, none⟩ v1).cell? ⟨g, 1, none⟩ = some v1 := set_same e1
  have s2 : (((W.setCell ⟨g, 0, none⟩ v0).setCell ⟨g, 1, none⟩ v1).setCell ⟨g, 2, none⟩ v2).cell? ⟨g, 2, none⟩ = some v2 := set_same e2
  refine ⟨⟨set_off (set_off s0 (by omega)) (by omega), set_off s1 (by omega), s2⟩, F.stay ?_⟩
  exact ((hk.box h0 rfl v0).box e1 rfl v1).box e2 rfl v2
theorem qmade_h {w : World} {s : Bool} {A B : Option Addr} {c d N D : Nat} {u : Rat} {j : Nat} (hu : Hid (rv s N D = u)) (hs : Sz u j) (HA : Lim w A c (dig N)) (HB : Lim w B d (dig D)) (hl : (dig N).length ≤ 268435456) (hl2 : (dig D).length ≤ 268435456) :
    Calls Tryz.prog 43 #[.bool s, .agg #[.slice A (dig N).length c], .agg #[.slice B (dig D).length d]] w (RetG w u j) :=
  (qmade_any s A B _ _ c d (dig N) (dig D) w HA HB rfl rfl hl hl2).mono fun _ _ h => RetQ.toF h (Lib.hid (by rw [val_dig, val_dig]; exact hu.out)) hs
/-- how far the look for the point has come -/
def CutSt (R W P : List UInt8) (b : Bool) (j : Nat) : Prop := if b then cutAt 46 R = (W, P, true) else (46 ∉ R.take j ∧ W = R ∧ P = [])
theorem CutSt.start (R : List UInt8) : CutSt R R [] false 0 := ⟨by simp, rfl, rfl⟩
theorem CutSt.no {R W P : List UInt8} {j : Nat} (h : CutSt R W P false j) : 46 ∉ R.take j ∧ W = R ∧ P = [] := h
theorem CutSt.yes {R W P : List UInt8} {j : Nat} (h : CutSt R W P true j) : cutAt 46 R = (W, P, true) := h
theorem CutSt.more {R : List UInt8} {j : Nat} (hno : 46 ∉ R.take j) (hj : j < R.length) (hd : R[j]'hj ≠ 46) : CutSt R R [] false (j + 1) := by
  refine ⟨?_, rfl, rfl⟩
  rw [List.take_succ_eq_append_getElem hj, List.mem_append]
  rintro (h | h)
  · exact hno h
  · simp at h; exact hd h.symm
theorem CutSt.hit {R : List UInt8} {j : Nat} (hno : 46 ∉ R.take j) (hj : j < R.length) (hd : R[j]'hj = 46) (k : Nat) : CutSt R (R.take j) (R.drop (j + 1)) true k := by
  have e : R.take j ++ 46 :: R.drop (j + 1) = R := by rw [← hd, List.getElem_cons_drop, List.take_append_drop]
  have h := cutAt_some (r := R.drop (j + 1)) hno
  rwa [e] at h
/-- a row without some of its leading zeros -/
def LZ (M D : List UInt8) : Prop := ∃ j, j < M.length ∧ D = M.drop j ∧ ∀ b ∈ M.take j, b = 48
theorem LZ.start {M : List UInt8} (h : 0 < M.length) : LZ M M := ⟨0, h, rfl, by simp⟩
theorem LZ.len {M D : List UInt8} (h : LZ M D) : 0 < D.length ∧ D.length ≤ M.length := by
  obtain ⟨j, h1, rfl, _⟩ := h
  rw [List.length_drop]; omega
theorem LZ.next {M D : List UInt8} (h : LZ M D) {h0 : 0 < D.length} (h1 : 1 < D.length) (h2 : D[0]'h0 = 48) : LZ M D.tail := by
  obtain ⟨j, a, rfl, b⟩ := h
  rw [List.length_drop] at h1
  refine ⟨j + 1, by omega, by rw [List.tail_drop], fun x hx => ?_⟩
  rw [List.take_succ_eq_append_getElem a, List.mem_append] at hx
  rcases hx with hx | hx
  · exact b x hx
  · rw [List.getElem_drop] at h2
    simp at hx h2
    rw [hx, h2]
theorem LZ.stop {M D : List UInt8} (h : LZ M D) (h0 : 0 < D.length) (he : D.length ≤ 1 ∨ D[0]'h0 ≠ 48) : D = zs M := by
  obtain ⟨j, a, rfl, b⟩ := h
  refine zs_drop a b ?_
  rcases he with he | he
  · rw [List.length_drop] at he; left; omega
  · right; rw [List.getElem_drop] at he; simpa using he

set_option maxHeartbeats 8000000 in
set_option maxRecDepth 100000 in
theorem qpoint_short (L : List UInt8) (w : World) (hL : L.length ≤ 200) :
    Calls Tryz.prog 19 #[.string (str L)] w (RetD w L) := by
  have hsz : (str L).size = L.length := str_size L
  have HC : Hid (∀ R σ W P f, frest L = R → fneg L = σ → cutAt 46 R = (W, P, f) → ∃ a b l q, Parts w L W P f σ a b l q) := Lib.hid (fun R σ W P f h1 h2 h3 => parts_of w hL h1 h2 h3)
  have HS := Lib.hid (show (fneg L = true ∧ frest L = L.tail) ∨ (fneg L = false ∧ frest L = L) from by
    cases h : fneg L with
    | true => exact .inl ⟨rfl, by rw [frest, h]; rfl⟩
    | false => exact .inr ⟨rfl, by rw [frest, h]; rfl⟩)
  have hW := below_alloc w (.cells #[.bool false, .slice none 0 0, .slice none 0 0] 27)
  have HX := BL.one w #[.bool false, .slice none 0 0, .slice none 0 0] 27
  obtain ⟨σ, hs0⟩ : ∃ σ, fneg L = σ := ⟨_, rfl⟩
  obtain ⟨R, hr0⟩ : ∃ R, frest L = R := ⟨_, rfl⟩
  have hfs := Lib.hid hs0
  have hfr := Lib.hid hr0
  have hlR : R.length ≤ 200 := by rw [← hr0]; have := frest_len L; omega
  have hszR : (str R).size = R.length := str_size R
  clear hs0 hr0 HS
  go_enter Tryz.func19, Tryz.ntmps19
  go_upto_region 4 with fail
  go_cut [27] (fun x wx => x = .bool σ ∧ wx = w.alloc (.cells #[.bool false, .slice none 0 0, .slice none 0 0] 27))
  case first =>
    by_cases hp : 0 < L.length
    · have hb45 : ((((L[0]'hp).toNat : Nat) : Int) == 45) = σ := by
        rw [← hfs.out, fneg, List.head?_eq_getElem?, List.getElem?_eq_getElem hp, Bool.eq_iff_iff, beq_iff_eq, beq_iff_eq]
        refine ⟨fun h => ?_, fun h => ?_⟩
        · have h3 : L[0]'hp = 45 := UInt8.toNat_inj.1 (by have : (45 : UInt8).toNat = 45 := rfl; omega)
          rw [h3]
        · rw [Option.some.inj h]; rfl
      have hix : ∀ h, (str L)[0]'h = L[0]'hp := fun _ => rfl
      generalize L[0]'hp = b0 at *
      go_wp2
      go_meet
      case rel => exact ⟨by first | rfl | trivial, by first | rfl | trivial⟩
    · have hs1 : σ = false := by
        rw [← hfs.out, fneg]
        cases L with
        | nil => rfl
        | cons b l => simp at hp
      subst hs1
      go_wp2
      go_meet
      case rel => exact ⟨by first | rfl | trivial, by first | rfl | trivial⟩
  case rest =>
    obtain ⟨rfl, rfl⟩ := hcut
    go_upto_if 27 with fail
    go_cut [4, 5] (fun x y wx => x = .string (str R) ∧ y = .bool σ ∧ wx = w.alloc (.cells #[.bool false, .slice none 0 0, .slice none 0 0] 27))
    case first =>
      cases σ
      · have hr : L = R := by rw [← hfr.out, frest, hfs.out]; rfl
        subst hr
        go_wp2
        go_meet
        case rel => exact ⟨by first | rfl | trivial, by first | rfl | trivial, by first | rfl | trivial⟩
      · have hr : L.tail = R := by rw [← hfr.out, frest, hfs.out]; rfl
        have hp : 1 ≤ L.length := by
          have h := hfs.out
          cases L with
          | nil => simp [fneg] at h
          | cons b l => simp
        have hx : (str L).extract 1 L.length = str R := by rw [str_drop, List.drop_one, hr]
        clear hr
        go_wp2
        go_meet
        case rel => exact ⟨by first | rfl | trivial, by first | rfl | trivial, by first | rfl | trivial⟩
    case rest =>
      obtain ⟨rfl, rfl, rfl⟩ := hcut
      go_upto_block 0 with fail
      go_cut [6, 7, 8] (fun y z f wx => ∃ (W P : List UInt8) (b : Bool), Hid (cutAt 46 R = (W, P, b)) ∧ y = .string (str W) ∧ z = .string (str P) ∧ f = .bool b ∧ BL w wx [(w.heap.size, #[.bool false, .slice none 0 0, .slice none 0 0], 27)])
      case first =>
        clear HC
        go_wp2_with fail
        go_loopg [6, 7, 8, 9] R.length (fun k y z f x wr => ∃ (j : Nat) (W P : List UInt8) (b : Bool), j + k = R.length ∧ j ≤ R.length ∧ CutSt R W P b j ∧ y = .string (str W) ∧ z = .string (str P) ∧ f = .bool b ∧ x = .int .i64 (j : Int) ∧ BL w wr [(w.heap.size, #[.bool false, .slice none 0 0, .slice none 0 0], 27)])
        case atStart => exact ⟨0, R, [], false, by omega, by omega, CutSt.start _, by first | rfl | trivial, rfl, rfl, rfl, HX⟩
        case round =>
          clear HX
          obtain ⟨j, W, P, b, hj, hjl, hin, rfl, rfl, rfl, rfl, HX⟩ := hrel
          cases b
          · obtain ⟨hno, hWR, hP0⟩ := hin.no
            subst hWR hP0
            clear hin
            by_cases hj0 : j < W.length
            · have hix : ∀ h', (str W)[j]'h' = W[j]'hj0 := fun _ => rfl
              by_cases hd : W[j]'hj0 = 46
              · have hcut := CutSt.hit hno hj0 hd (j + 1)
                clear hno
                have hb46 : (((W[j]'hj0).toNat : Int) == 46) = true := by rw [hd]; rfl
                have hx1 : (str W).extract 0 j = str (W.take j) := str_take _ _
                have hx2 : (str W).extract (j + 1) W.length = str (W.drop (j + 1)) := str_drop _ _
                generalize W[j]'hj0 = b at *
                clear hd
                go_upto_region 11 with fail
                go_quiet (fail)
                replace HX := HX.ext (drew_below (Below.refl _ _) nq)
                go_wp2
                go_roundg (W.length - (j + 1))
                case measure => omega
                case rel => exact ⟨j + 1, _, _, true, by omega, by omega, hcut, by first | rfl | trivial, by first | rfl | trivial, by first | rfl | trivial, by go_num, HX⟩
              · have hs := CutSt.more hno hj0 hd
                have hb46 : (((W[j]'hj0).toNat : Int) == 46) = false := by
                  rw [beq_eq_false_iff_ne]
                  intro h
                  refine hd (UInt8.toNat_inj.1 ?_)
                  have : (46 : UInt8).toNat = 46 := rfl
                  omega
                generalize W[j]'hj0 = b at *
                clear hd hno
                go_wp2
                go_roundg (W.length - (j + 1))
                case measure => omega
                case rel => exact ⟨j + 1, W, [], false, by omega, by omega, hs, by first | rfl | trivial, by first | rfl | trivial, by first | rfl | trivial, by go_num, HX⟩
            · have hcut := Lib.hid (show cutAt 46 W = (W, [], false) from cutAt_none (by rwa [List.take_of_length_le (by omega)] at hno))
              clear hno
              go_wp2
              go_meet
              case rel => exact ⟨W, [], false, hcut, by first | rfl | trivial, by first | rfl | trivial, by first | rfl | trivial, HX⟩
          · have hcut := Lib.hid (show cutAt 46 R = (W, P, true) from hin.yes)
            clear hin
            by_cases hj0 : j < R.length
            · go_wp2
              go_meet
              case rel => exact ⟨W, P, true, hcut, by first | rfl | trivial, by first | rfl | trivial, by first | rfl | trivial, HX⟩
            · go_wp2
              go_meet
              case rel => exact ⟨W, P, true, hcut, by first | rfl | trivial, by first | rfl | trivial, by first | rfl | trivial, HX⟩
      case rest =>
        clear HX
        obtain ⟨W, P, f, hcut, rfl, rfl, rfl, HX⟩ := hcut
        obtain ⟨a, b, l, q, HPa⟩ := HC.out R σ W P f hfr hfs hcut.out
        clear hcut HC hfr hfs
        have HA := Lib.hid HPa.1.1.1
        have HB2 := Lib.hid HPa.1.1.2.1
        have HL := Lib.hid HPa.1.1.2.2
        have hlen := HPa.1.2
        have HQ := Lib.hid HPa.2.1
        have HB := Lib.hid HPa.2.2.1
        have HG := Lib.hid HPa.2.2.2
        clear HPa
        have hszW : (str W).size = W.length := str_size W
        have hszP : (str P).size = P.length := str_size P
        have HAP := Lib.hid (show str W ++ str P = str (W ++ P) from str_append W P)
        go_upto_region 12 with fail
        go_cut [72] (fun x wx => x = .bool (!(a && !(f && !b) && !l)) ∧ BL w wx [(w.heap.size, #[.bool false, .slice none 0 0, .slice none 0 0], 27)])
        case first =>
          go_wp2_with fail
          refine (qdigits_any _ HA (by omega)).mono ?_
          rintro e w3 ⟨rfl, hb⟩
          replace HX := HX.ext hb
          clear hb
          cases a
          · go_wp2
            go_meet
            case rel => exact ⟨by first | rfl | trivial | (cases f <;> cases b <;> rfl) | simp, HX⟩
          · have HLo := HL.out
            by_cases hw1 : 1 < W.length
            · have hw0 : 0 < W.length := by omega
              have hix : ∀ h, (str W)[0]'h = W[0]'hw0 := fun _ => rfl
              rw [lead, decide_eq_true hw1, Bool.true_and, List.head?_eq_getElem?, List.getElem?_eq_getElem hw0] at HLo
              have hw : ((((W[0]'hw0).toNat : Nat) : Int) == 48) = l := by
                rw [← HLo, Bool.eq_iff_iff, beq_iff_eq, beq_iff_eq]
                refine ⟨fun h => ?_, fun h => ?_⟩
                · have h3 : W[0]'hw0 = 48 := UInt8.toNat_inj.1 (by have : (48 : UInt8).toNat = 48 := rfl; omega)
                  rw [h3]
                · rw [Option.some.inj h]; rfl
              clear HLo HL
              generalize W[0]'hw0 = b0 at *
              cases l
              · cases f
                · go_wp2
                  go_meet
                  case rel => exact ⟨by first | rfl | trivial | (cases f <;> cases b <;> rfl) | simp, HX⟩
                · go_wp2_with fail
                  refine (qdigits_any _ HB2 (by omega)).mono ?_
                  rintro e w4 ⟨rfl, hb2⟩
                  replace HX := HX.ext hb2
                  clear hb2
                  cases b
                  · go_wp2
                    go_meet
                    case rel => exact ⟨by first | rfl | trivial | (cases f <;> cases b <;> rfl) | simp, HX⟩
                  · go_wp2
                    go_meet
                    case rel => exact ⟨by first | rfl | trivial | (cases f <;> cases b <;> rfl) | simp, HX⟩
              · go_wp2
                go_meet
                case rel => exact ⟨by first | rfl | trivial | (cases f <;> cases b <;> rfl) | simp, HX⟩
            · obtain rfl : l = false := by rw [← HLo, lead, decide_eq_false hw1]; rfl
              clear HLo HL
              cases f
              · go_wp2
                go_meet
                case rel => exact ⟨by first | rfl | trivial | (cases f <;> cases b <;> rfl) | simp, HX⟩
              · go_wp2_with fail
                refine (qdigits_any _ HB2 (by omega)).mono ?_
                rintro e w4 ⟨rfl, hb2⟩
                replace HX := HX.ext hb2
                clear hb2
                cases b
                · go_wp2
                  go_meet
                  case rel => exact ⟨by first | rfl | trivial | (cases f <;> cases b <;> rfl) | simp, HX⟩
                · go_wp2
                  go_meet
                  case rel => exact ⟨by first | rfl | trivial | (cases f <;> cases b <;> rfl) | simp, HX⟩
        case rest =>
          clear HX
          obtain ⟨rfl, HX⟩ := hcut
          cases hok : (a && !(f && !b) && !l)
          · have HP := Lib.hid (HB.out hok)
            clear HB HG HA HB2 HL hok
            have hc00 := HX.cell 0 0 rfl rfl
            have hf00 := HX.free 0 0 rfl
            have hc01 := HX.cell 0 1 rfl rfl
            have hf01 := HX.free 0 1 rfl
            have hc02 := HX.cell 0 2 rfl rfl
            have hf02 := HX.free 0 2 rfl
            try simp only [List.getElem_toArray, List.getElem_cons_zero, List.getElem_cons_succ] at hc00 hf00 hc01 hf01 hc02 hf02
            go_wp2
            clear hc00 hf00 hc01 hf01 hc02 hf02
            have hk := HX.keep3 0 rfl rfl rfl rfl (by omega) (.bool false) (.slice none 0 0) (.slice none 0 0)
            replace HX := HX.put3 0 rfl (by omega) (by intro k q hk hne; match k, hk with | 0, hk => (simp at hk; subst hk; simp at hne ⊢; try omega) | k + 1, hk => simp at hk) (.bool false) (.slice none 0 0) (.slice none 0 0)
            clear hk
            simp only [List.set_cons_zero, List.set_cons_succ] at HX
            have hc00 := HX.cell 0 0 rfl rfl
            have hc01 := HX.cell 0 1 rfl rfl
            have hc02 := HX.cell 0 2 rfl rfl
            try simp only [List.getElem_toArray, List.getElem_cons_zero, List.getElem_cons_succ] at hc00 hc01 hc02
            exact bodyPost_ret (v := .tuple #[.agg #[.bool false, .slice none 0 0, .slice none 0 0], .int .i64 3]) (by simp [results, Tryz.results19, go_sem, hc00, hc01, hc02]) rfl (HP.out _ _ ⟨rfl, HX.below⟩)
          · have HP := Lib.hid (HG.out hok).1
            have hall := (HG.out hok).2.1
            have hpos := (HG.out hok).2.2
            have hz := zs_parse hall (by rw [List.length_append]; omega)
            have zN := val_len hall (by rw [List.length_append]; omega)
            have zD := ten_len (k := P.length) (by omega)
            have hzl := zs_len (W ++ P)
            have hml : (W ++ P).length ≤ 200 := by rw [List.length_append]; omega
            obtain ⟨N, hN⟩ : ∃ N, dval 0 (W ++ P) = N := ⟨_, rfl⟩
            rw [hN] at hz zN
            have HQ2 := HQ.out
            rw [hN] at HQ2
            have hSz : Sz q 30 := HQ2 ▸ Sz.of_rv (by omega) (by omega) (by omega)
            have hQ3 : rv σ N 1 * (tenp P.length)⁻¹ = q := by rw [quot_ten, HQ2]
            have hd1 : (dig 1).length ≤ 1 := dig_len_le (by decide)
            have hSu1 : Sz (rv σ N 1) 23 := Sz.of_rv (by omega) (by omega) (by omega)
            have hSu2 := tenp_big (j := P.length) (by omega)
            have hn2 : Hid (tenp P.length ≠ 0) := Lib.hid (by
              intro h
              rw [tenp, rv_eq_zero] at h
              have : 0 < 10 ^ P.length := Nat.pow_pos (by omega)
              omega)
            obtain ⟨u1, hu1⟩ : ∃ u1, rv σ N 1 = u1 := ⟨_, rfl⟩
            rw [hu1] at hQ3 hSu1
            have HU1 := Lib.hid hu1
            have HQ3 := Lib.hid hQ3
            have HZ := Lib.hid hz
            have hap := HAP.out
            clear HB HG HQ hall hN HQ2 hz hu1 hQ3 HA HB2 HL hok
            go_upto_block 2 with fail
            clear hap
            obtain ⟨M, hM⟩ : ∃ M, W ++ P = M := ⟨_, rfl⟩
            rw [hM] at hpos hzl hml HZ
            rw [hM]
            clear hM
            go_cut [10] (fun x wx => x = .string (str (zs M)) ∧ wx = wc)
            case first =>
              go_wp2_with fail
              go_loopg [10] M.length (fun k x wr => ∃ D : List UInt8, D.length = k ∧ LZ M D ∧ x = .string (str D) ∧ wr = wc)
              case atStart => exact ⟨M, rfl, LZ.start hpos, by first | rfl | trivial, rfl⟩
              case round =>
                obtain ⟨D, rfl, hLZ, rfl, rfl⟩ := hrel
                have hD0 := hLZ.len
                have hszD : (str D).size = D.length := str_size D
                by_cases h1 : 1 < D.length
                · have hp0 : 0 < D.length := by omega
                  have hix : ∀ h', (str D)[0]'h' = D[0]'hp0 := fun _ => rfl
                  by_cases h48 : D[0]'hp0 = 48
                  · have hb48 : (((D[0]'hp0).toNat : Int) == 48) = true := by rw [h48]; rfl
                    have hnx := hLZ.next h1 h48
                    have hx : (str D).extract 1 D.length = str D.tail := by rw [str_drop, List.drop_one]
                    generalize D[0]'hp0 = b0 at *
                    clear h48
                    go_wp2
                    go_roundg (D.length - 1)
                    case measure => omega
                    case rel => exact ⟨D.tail, List.length_tail, hnx, by first | rfl | trivial, by first | rfl | trivial⟩
                  · have hb48 : (((D[0]'hp0).toNat : Int) == 48) = false := by
                      rw [beq_eq_false_iff_ne]
                      intro h
                      refine h48 (UInt8.toNat_inj.1 ?_)
                      have : (48 : UInt8).toNat = 48 := rfl
                      omega
                    have hfin := Lib.hid (hLZ.stop hp0 (.inr h48))
                    generalize D[0]'hp0 = b0 at *
                    clear h48
                    go_wp2
                    go_meet
                    case rel => exact ⟨by rw [← hfin.out], by first | rfl | trivial⟩
                · have hp0 : 0 < D.length := by omega
                  have hfin := Lib.hid (hLZ.stop hp0 (.inl (by omega)))
                  go_wp2
                  go_meet
                  case rel => exact ⟨by rw [← hfin.out], by first | rfl | trivial⟩
            case rest =>
              obtain ⟨rfl, rfl⟩ := hcut
              go_wp2_with fail
              refine (rparse_e (L := zs M) _ HZ (by omega)).mono ?_
              rintro e w5 ⟨A3, c3, rfl, F3, hb⟩
              replace HX := HX.ext hb
              clear hb
              go_upto_region 18 with fail
              have hg5 : w.heap.size < w5.heap.size := HX.lt 0 rfl
              have hb := below_alloc w5 (.cells #[.slice A3 (dig N).length c3] 25)
              replace HX := HX.new #[.slice A3 (dig N).length c3] 25
              simp only [List.cons_append, List.nil_append] at HX
              replace F3 := F3.ext hb
              clear hb
              generalize w5.alloc (.cells #[.slice A3 (dig N).length c3] 25) = W5 at *
              generalize w5.heap.size = g5 at *
              go_cut [13, 14] (fun x z wx => ∃ (g : Nat) (A : Option Addr) (c : Nat) (B : Option Addr) (d : Nat), x = .pointer (some ⟨g, 0, none⟩) ∧ W5.heap.size ≤ g ∧ z = .int .i64 0 ∧ Below W5.heap.size W5 wx ∧ CB wx g (.bool (sg q)) (.slice A (dig (nu q)).length c) (.slice B (dig q.den).length d) ∧ Fc wx A c B d q 30)
              case first =>
                have hwW := HX.below.size
                have HB0 : Below W5.heap.size W5 W5.drew := drew_ext W5
                have held : ∀ {W' : World}, Below W5.heap.size W5 W' → W'.cell? ⟨g5, 0, none⟩ = some (.slice A3 (dig N).length c3) := fun hb => (HX.ext hb).cell 1 0 rfl rfl
                go_region_held3 (fun W' => W'.cell? ⟨g5, 0, none⟩ = some (.slice A3 (dig N).length c3))
                  ((refine held ?_; repeat' first | exact HB4 | exact HB3 | exact HB2 | exact HB1 | exact HB0 | exact Below.refl _ _ | refine bel_al ?_ _ | refine bel_dr ?_ | refine bel_set ?_ ?_ _ | omega | (simp <;> omega)))
                  (first
                        | (go_at_call 49; refine (qone_any _).mono ?_; rintro e w1 ⟨A4, c4, rfl, L4, hb1⟩; have HB1 := bel_trans (a := W5) (by repeat' first | exact HB0 | exact Below.refl _ _ | refine bel_al ?_ _ | refine bel_dr ?_) hb1; have HC1 := bel_trans (a := W5) (by repeat' first | exact HB0 | exact Below.refl _ _ | refine bel_al ?_ _ | refine bel_dr ?_) hb1; have hs1 := HB1.size; have ht1 := HC1.size; (try have f100c : w1.cell? ⟨W5.heap.size, 0, none⟩ = some (.bool false) := by rw [hb1.cell (by first | omega | (simp <;> omega))]; simp [*]); (try have f100f : w1.frozen? ⟨W5.heap.size, 0, none⟩ = false := by rw [hb1.frozen (by first | omega | (simp <;> omega))]; simp [*]); (try have f100c1 : w1.cell? ⟨W5.heap.size, 1, none⟩ = some (.slice none 0 0) := by rw [hb1.cell (by first | omega | (simp <;> omega))]; simp [*]); (try have f100f1 : w1.frozen? ⟨W5.heap.size, 1, none⟩ = false := by rw [hb1.frozen (by first | omega | (simp <;> omega))]; simp [*]); (try have f100c2 : w1.cell? ⟨W5.heap.size, 2, none⟩ = some (.slice none 0 0) := by rw [hb1.cell (by first | omega | (simp <;> omega))]; simp [*]); (try have f100f2 : w1.frozen? ⟨W5.heap.size, 2, none⟩ = false := by rw [hb1.frozen (by first | omega | (simp <;> omega))]; simp [*]); (try have f100x : W5.heap.size < w1.heap.size := cell_lt f100c); (try have f1001 : W5.heap.size ≠ w1.heap.size := Nat.ne_of_lt (cell_lt f100c)); (try have f1002 : w1.heap.size ≠ W5.heap.size := Nat.ne_of_gt (cell_lt f100c)))
                        | (go_at_call 43; refine (qmade_h HU1 hSu1 (F3.ext (by repeat' first | exact HB1 | refine bel_al ?_ _ | refine bel_dr ?_)) (L4.ext (by repeat' first | exact Below.refl _ _ | refine bel_al ?_ _ | refine bel_dr ?_)) (by omega) (by omega)).mono ?_; rintro e w2 ⟨A6, c6, B6, d6, rfl, F6, hb2⟩; have HB2 := bel_trans (a := W5) (by repeat' first | exact HB1 | refine bel_al ?_ _ | refine bel_dr ?_) hb2; have HC2 := bel_trans (a := w1) (by repeat' first | exact Below.refl _ _ | refine bel_al ?_ _ | refine bel_dr ?_) hb2; have hs2 := HB2.size; have ht2 := HC2.size; (try have f200c : w2.cell? ⟨W5.heap.size, 0, none⟩ = some (.bool false) := by rw [HC2.cell (cell_lt f100c)]; exact f100c); (try have f200f : w2.frozen? ⟨W5.heap.size, 0, none⟩ = false := by rw [HC2.frozen (cell_lt f100c)]; exact f100f); (try have f200c1 : w2.cell? ⟨W5.heap.size, 1, none⟩ = some (.slice none 0 0) := by rw [HC2.cell (cell_lt f100c1)]; exact f100c1); (try have f200f1 : w2.frozen? ⟨W5.heap.size, 1, none⟩ = false := by rw [HC2.frozen (cell_lt f100c1)]; exact f100f1); (try have f200c2 : w2.cell? ⟨W5.heap.size, 2, none⟩ = some (.slice none 0 0) := by rw [HC2.cell (cell_lt f100c2)]; exact f100c2); (try have f200f2 : w2.frozen? ⟨W5.heap.size, 2, none⟩ = false := by rw [HC2.frozen (cell_lt f100c2)]; exact f100f2); (try have f210c : w2.cell? ⟨w1.heap.size, 0, none⟩ = some (.bool false) := by rw [hb2.cell (by first | omega | (simp <;> omega))]; simp [*]); (try have f210f : w2.frozen? ⟨w1.heap.size, 0, none⟩ = false := by rw [hb2.frozen (by first | omega | (simp <;> omega))]; simp [*]); (try have f210c1 : w2.cell? ⟨w1.heap.size, 1, none⟩ = some (.slice none 0 0) := by rw [hb2.cell (by first | omega | (simp <;> omega))]; simp [*]); (try have f210f1 : w2.frozen? ⟨w1.heap.size, 1, none⟩ = false := by rw [hb2.frozen (by first | omega | (simp <;> omega))]; simp [*]); (try have f210c2 : w2.cell? ⟨w1.heap.size, 2, none⟩ = some (.slice none 0 0) := by rw [hb2.cell (by first | omega | (simp <;> omega))]; simp [*]); (try have f210f2 : w2.frozen? ⟨w1.heap.size, 2, none⟩ = false := by rw [hb2.frozen (by first | omega | (simp <;> omega))]; simp [*]); (try have f200x : W5.heap.size < w2.heap.size := cell_lt f200c); (try have f2001 : W5.heap.size ≠ w2.heap.size := Nat.ne_of_lt (cell_lt f200c)); (try have f2002 : w2.heap.size ≠ W5.heap.size := Nat.ne_of_gt (cell_lt f200c)); (try have f210x : w1.heap.size < w2.heap.size := cell_lt f210c); (try have f2101 : w1.heap.size ≠ w2.heap.size := Nat.ne_of_lt (cell_lt f210c)); (try have f2102 : w2.heap.size ≠ w1.heap.size := Nat.ne_of_gt (cell_lt f210c)))
                        | (go_at_call 58; refine (qpower_big P.length (by omega) _).mono ?_; rintro e w3 ⟨A8, c8, B8, d8, rfl, F8, hb3⟩; have HB3 := bel_trans (a := W5) (by repeat' first | exact HB2 | refine bel_al ?_ _ | refine bel_dr ?_) hb3; have HC3 := bel_trans (a := w2) (by repeat' first | exact Below.refl _ _ | refine bel_al ?_ _ | refine bel_dr ?_) hb3; have hs3 := HB3.size; have ht3 := HC3.size; (try have f300c : w3.cell? ⟨W5.heap.size, 0, none⟩ = some (.bool false) := by rw [HC3.cell (cell_lt f200c)]; exact f200c); (try have f300f : w3.frozen? ⟨W5.heap.size, 0, none⟩ = false := by rw [HC3.frozen (cell_lt f200c)]; exact f200f); (try have f300c1 : w3.cell? ⟨W5.heap.size, 1, none⟩ = some (.slice none 0 0) := by rw [HC3.cell (cell_lt f200c1)]; exact f200c1); (try have f300f1 : w3.frozen? ⟨W5.heap.size, 1, none⟩ = false := by rw [HC3.frozen (cell_lt f200c1)]; exact f200f1); (try have f300c2 : w3.cell? ⟨W5.heap.size, 2, none⟩ = some (.slice none 0 0) := by rw [HC3.cell (cell_lt f200c2)]; exact f200c2); (try have f300f2 : w3.frozen? ⟨W5.heap.size, 2, none⟩ = false := by rw [HC3.frozen (cell_lt f200c2)]; exact f200f2); (try have f310c : w3.cell? ⟨w1.heap.size, 0, none⟩ = some (.bool false) := by rw [HC3.cell (cell_lt f210c)]; exact f210c); (try have f310f : w3.frozen? ⟨w1.heap.size, 0, none⟩ = false := by rw [HC3.frozen (cell_lt f210c)]; exact f210f); (try have f310c1 : w3.cell? ⟨w1.heap.size, 1, none⟩ = some (.slice none 0 0) := by rw [HC3.cell (cell_lt f210c1)]; exact f210c1); (try have f310f1 : w3.frozen? ⟨w1.heap.size, 1, none⟩ = false := by rw [HC3.frozen (cell_lt f210c1)]; exact f210f1); (try have f310c2 : w3.cell? ⟨w1.heap.size, 2, none⟩ = some (.slice none 0 0) := by rw [HC3.cell (cell_lt f210c2)]; exact f210c2); (try have f310f2 : w3.frozen? ⟨w1.heap.size, 2, none⟩ = false := by rw [HC3.frozen (cell_lt f210c2)]; exact f210f2); (try have f320c : w3.cell? ⟨w2.heap.size, 0, none⟩ = some (.bool false) := by rw [hb3.cell (by first | omega | (simp <;> omega))]; simp [*]); (try have f320f : w3.frozen? ⟨w2.heap.size, 0, none⟩ = false := by rw [hb3.frozen (by first | omega | (simp <;> omega))]; simp [*]); (try have f320c1 : w3.cell? ⟨w2.heap.size, 1, none⟩ = some (.slice none 0 0) := by rw [hb3.cell (by first | omega | (simp <;> omega))]; simp [*]); (try have f320f1 : w3.frozen? ⟨w2.heap.size, 1, none⟩ = false := by rw [hb3.frozen (by first | omega | (simp <;> omega))]; simp [*]); (try have f320c2 : w3.cell? ⟨w2.heap.size, 2, none⟩ = some (.slice none 0 0) := by rw [hb3.cell (by first | omega | (simp <;> omega))]; simp [*]); (try have f320f2 : w3.frozen? ⟨w2.heap.size, 2, none⟩ = false := by rw [hb3.frozen (by first | omega | (simp <;> omega))]; simp [*]); (try have f300x : W5.heap.size < w3.heap.size := cell_lt f300c); (try have f3001 : W5.heap.size ≠ w3.heap.size := Nat.ne_of_lt (cell_lt f300c)); (try have f3002 : w3.heap.size ≠ W5.heap.size := Nat.ne_of_gt (cell_lt f300c)); (try have f310x : w1.heap.size < w3.heap.size := cell_lt f310c); (try have f3101 : w1.heap.size ≠ w3.heap.size := Nat.ne_of_lt (cell_lt f310c)); (try have f3102 : w3.heap.size ≠ w1.heap.size := Nat.ne_of_gt (cell_lt f310c)); (try have f320x : w2.heap.size < w3.heap.size := cell_lt f320c); (try have f3201 : w2.heap.size ≠ w3.heap.size := Nat.ne_of_lt (cell_lt f320c)); (try have f3202 : w3.heap.size ≠ w2.heap.size := Nat.ne_of_gt (cell_lt f320c)))
                        | (go_at_call 57; refine (qdiv_h HQ3 hn2 hSz ((F6.ext (by repeat' first | exact HC3 | refine bel_al ?_ _ | refine bel_dr ?_)).fr) ((F8.ext (by repeat' first | exact Below.refl _ _ | refine bel_al ?_ _ | refine bel_dr ?_)).fr) (by omega) (by omega)).mono ?_; rintro e w4 ⟨A12, c12, B12, d12, rfl, F12, hb4⟩; have HB4 := bel_trans (a := W5) (by repeat' first | exact HB3 | refine bel_al ?_ _ | refine bel_dr ?_) hb4; have HC4 := bel_trans (a := w3) (by repeat' first | exact Below.refl _ _ | refine bel_al ?_ _ | refine bel_dr ?_) hb4; have hs4 := HB4.size; have ht4 := HC4.size; (try have f400c : w4.cell? ⟨W5.heap.size, 0, none⟩ = some (.bool false) := by rw [HC4.cell (cell_lt f300c)]; exact f300c); (try have f400f : w4.frozen? ⟨W5.heap.size, 0, none⟩ = false := by rw [HC4.frozen (cell_lt f300c)]; exact f300f); (try have f400c1 : w4.cell? ⟨W5.heap.size, 1, none⟩ = some (.slice none 0 0) := by rw [HC4.cell (cell_lt f300c1)]; exact f300c1); (try have f400f1 : w4.frozen? ⟨W5.heap.size, 1, none⟩ = false := by rw [HC4.frozen (cell_lt f300c1)]; exact f300f1); (try have f400c2 : w4.cell? ⟨W5.heap.size, 2, none⟩ = some (.slice none 0 0) := by rw [HC4.cell (cell_lt f300c2)]; exact f300c2); (try have f400f2 : w4.frozen? ⟨W5.heap.size, 2, none⟩ = false := by rw [HC4.frozen (cell_lt f300c2)]; exact f300f2); (try have f410c : w4.cell? ⟨w1.heap.size, 0, none⟩ = some (.bool false) := by rw [HC4.cell (cell_lt f310c)]; exact f310c); (try have f410f : w4.frozen? ⟨w1.heap.size, 0, none⟩ = false := by rw [HC4.frozen (cell_lt f310c)]; exact f310f); (try have f410c1 : w4.cell? ⟨w1.heap.size, 1, none⟩ = some (.slice none 0 0) := by rw [HC4.cell (cell_lt f310c1)]; exact f310c1); (try have f410f1 : w4.frozen? ⟨w1.heap.size, 1, none⟩ = false := by rw [HC4.frozen (cell_lt f310c1)]; exact f310f1); (try have f410c2 : w4.cell? ⟨w1.heap.size, 2, none⟩ = some (.slice none 0 0) := by rw [HC4.cell (cell_lt f310c2)]; exact f310c2); (try have f410f2 : w4.frozen? ⟨w1.heap.size, 2, none⟩ = false := by rw [HC4.frozen (cell_lt f310c2)]; exact f310f2); (try have f420c : w4.cell? ⟨w2.heap.size, 0, none⟩ = some (.bool false) := by rw [HC4.cell (cell_lt f320c)]; exact f320c); (try have f420f : w4.frozen? ⟨w2.heap.size, 0, none⟩ = false := by rw [HC4.frozen (cell_lt f320c)]; exact f320f); (try have f420c1 : w4.cell? ⟨w2.heap.size, 1, none⟩ = some (.slice none 0 0) := by rw [HC4.cell (cell_lt f320c1)]; exact f320c1); (try have f420f1 : w4.frozen? ⟨w2.heap.size, 1, none⟩ = false := by rw [HC4.frozen (cell_lt f320c1)]; exact f320f1); (try have f420c2 : w4.cell? ⟨w2.heap.size, 2, none⟩ = some (.slice none 0 0) := by rw [HC4.cell (cell_lt f320c2)]; exact f320c2); (try have f420f2 : w4.frozen? ⟨w2.heap.size, 2, none⟩ = false := by rw [HC4.frozen (cell_lt f320c2)]; exact f320f2); (try have f430c : w4.cell? ⟨w3.heap.size, 0, none⟩ = some (.bool false) := by rw [hb4.cell (by first | omega | (simp <;> omega))]; simp [*]); (try have f430f : w4.frozen? ⟨w3.heap.size, 0, none⟩ = false := by rw [hb4.frozen (by first | omega | (simp <;> omega))]; simp [*]); (try have f430c1 : w4.cell? ⟨w3.heap.size, 1, none⟩ = some (.slice none 0 0) := by rw [hb4.cell (by first | omega | (simp <;> omega))]; simp [*]); (try have f430f1 : w4.frozen? ⟨w3.heap.size, 1, none⟩ = false := by rw [hb4.frozen (by first | omega | (simp <;> omega))]; simp [*]); (try have f430c2 : w4.cell? ⟨w3.heap.size, 2, none⟩ = some (.slice none 0 0) := by rw [hb4.cell (by first | omega | (simp <;> omega))]; simp [*]); (try have f430f2 : w4.frozen? ⟨w3.heap.size, 2, none⟩ = false := by rw [hb4.frozen (by first | omega | (simp <;> omega))]; simp [*]); (try have f400d : ∀ o, (w4.alloc o).cell? ⟨W5.heap.size, 0, none⟩ = some (.bool false) := fun o => by rw [(below_alloc w4 o).cell (cell_lt f400c)]; exact f400c); (try have f400g : ∀ o, (w4.alloc o).frozen? ⟨W5.heap.size, 0, none⟩ = false := fun o => by rw [(below_alloc w4 o).frozen (cell_lt f400c)]; exact f400f); (try have f400d1 : ∀ o, (w4.alloc o).cell? ⟨W5.heap.size, 1, none⟩ = some (.slice none 0 0) := fun o => by rw [(below_alloc w4 o).cell (cell_lt f400c1)]; exact f400c1); (try have f400g1 : ∀ o, (w4.alloc o).frozen? ⟨W5.heap.size, 1, none⟩ = false := fun o => by rw [(below_alloc w4 o).frozen (cell_lt f400c1)]; exact f400f1); (try have f400d2 : ∀ o, (w4.alloc o).cell? ⟨W5.heap.size, 2, none⟩ = some (.slice none 0 0) := fun o => by rw [(below_alloc w4 o).cell (cell_lt f400c2)]; exact f400c2); (try have f400g2 : ∀ o, (w4.alloc o).frozen? ⟨W5.heap.size, 2, none⟩ = false := fun o => by rw [(below_alloc w4 o).frozen (cell_lt f400c2)]; exact f400f2); (try have f400x : W5.heap.size < w4.heap.size := cell_lt f400c); (try have f4001 : W5.heap.size ≠ w4.heap.size := Nat.ne_of_lt (cell_lt f400c)); (try have f4002 : w4.heap.size ≠ W5.heap.size := Nat.ne_of_gt (cell_lt f400c)); (try have f410d : ∀ o, (w4.alloc o).cell? ⟨w1.heap.size, 0, none⟩ = some (.bool false) := fun o => by rw [(below_alloc w4 o).cell (cell_lt f410c)]; exact f410c); (try have f410g : ∀ o, (w4.alloc o).frozen? ⟨w1.heap.size, 0, none⟩ = false := fun o => by rw [(below_alloc w4 o).frozen (cell_lt f410c)]; exact f410f); (try have f410d1 : ∀ o, (w4.alloc o).cell? ⟨w1.heap.size, 1, none⟩ = some (.slice none 0 0) := fun o => by rw [(below_alloc w4 o).cell (cell_lt f410c1)]; exact f410c1); (try have f410g1 : ∀ o, (w4.alloc o).frozen? ⟨w1.heap.size, 1, none⟩ = false := fun o => by rw [(below_alloc w4 o).frozen (cell_lt f410c1)]; exact f410f1); (try have f410d2 : ∀ o, (w4.alloc o).cell? ⟨w1.heap.size, 2, none⟩ = some (.slice none 0 0) := fun o => by rw [(below_alloc w4 o).cell (cell_lt f410c2)]; exact f410c2); (try have f410g2 : ∀ o, (w4.alloc o).frozen? ⟨w1.heap.size, 2, none⟩ = false := fun o => by rw [(below_alloc w4 o).frozen (cell_lt f410c2)]; exact f410f2); (try have f410x : w1.heap.size < w4.heap.size := cell_lt f410c); (try have f4101 : w1.heap.size ≠ w4.heap.size := Nat.ne_of_lt (cell_lt f410c)); (try have f4102 : w4.heap.size ≠ w1.heap.size := Nat.ne_of_gt (cell_lt f410c)); (try have f420d : ∀ o, (w4.alloc o).cell? ⟨w2.heap.size, 0, none⟩ = some (.bool false) := fun o => by rw [(below_alloc w4 o).cell (cell_lt f420c)]; exact f420c); (try have f420g : ∀ o, (w4.alloc o).frozen? ⟨w2.heap.size, 0, none⟩ = false := fun o => by rw [(below_alloc w4 o).frozen (cell_lt f420c)]; exact f420f); (try have f420d1 : ∀ o, (w4.alloc o).cell? ⟨w2.heap.size, 1, none⟩ = some (.slice none 0 0) := fun o => by rw [(below_alloc w4 o).cell (cell_lt f420c1)]; exact f420c1); (try have f420g1 : ∀ o, (w4.alloc o).frozen? ⟨w2.heap.size, 1, none⟩ = false := fun o => by rw [(below_alloc w4 o).frozen (cell_lt f420c1)]; exact f420f1); (try have f420d2 : ∀ o, (w4.alloc o).cell? ⟨w2.heap.size, 2, none⟩ = some (.slice none 0 0) := fun o => by rw [(below_alloc w4 o).cell (cell_lt f420c2)]; exact f420c2); (try have f420g2 : ∀ o, (w4.alloc o).frozen? ⟨w2.heap.size, 2, none⟩ = false := fun o => by rw [(below_alloc w4 o).frozen (cell_lt f420c2)]; exact f420f2); (try have f420x : w2.heap.size < w4.heap.size := cell_lt f420c); (try have f4201 : w2.heap.size ≠ w4.heap.size := Nat.ne_of_lt (cell_lt f420c)); (try have f4202 : w4.heap.size ≠ w2.heap.size := Nat.ne_of_gt (cell_lt f420c)); (try have f430d : ∀ o, (w4.alloc o).cell? ⟨w3.heap.size, 0, none⟩ = some (.bool false) := fun o => by rw [(below_alloc w4 o).cell (cell_lt f430c)]; exact f430c); (try have f430g : ∀ o, (w4.alloc o).frozen? ⟨w3.heap.size, 0, none⟩ = false := fun o => by rw [(below_alloc w4 o).frozen (cell_lt f430c)]; exact f430f); (try have f430d1 : ∀ o, (w4.alloc o).cell? ⟨w3.heap.size, 1, none⟩ = some (.slice none 0 0) := fun o => by rw [(below_alloc w4 o).cell (cell_lt f430c1)]; exact f430c1); (try have f430g1 : ∀ o, (w4.alloc o).frozen? ⟨w3.heap.size, 1, none⟩ = false := fun o => by rw [(below_alloc w4 o).frozen (cell_lt f430c1)]; exact f430f1); (try have f430d2 : ∀ o, (w4.alloc o).cell? ⟨w3.heap.size, 2, none⟩ = some (.slice none 0 0) := fun o => by rw [(below_alloc w4 o).cell (cell_lt f430c2)]; exact f430c2); (try have f430g2 : ∀ o, (w4.alloc o).frozen? ⟨w3.heap.size, 2, none⟩ = false := fun o => by rw [(below_alloc w4 o).frozen (cell_lt f430c2)]; exact f430f2); (try have f430x : w3.heap.size < w4.heap.size := cell_lt f430c); (try have f4301 : w3.heap.size ≠ w4.heap.size := Nat.ne_of_lt (cell_lt f430c)); (try have f4302 : w4.heap.size ≠ w3.heap.size := Nat.ne_of_gt (cell_lt f430c))))
                all_goals (
                  go_wp2_with fail
                  go_meet
                  case rel =>
                    clear held
                    first
                      | (refine ⟨_, A12, c12, B12, d12, rfl, by first | omega | (simp <;> omega), rfl, ?_, ⟨al_at rfl _ rfl, al_at rfl _ rfl, al_at rfl _ rfl⟩, F12.ext (below_alloc _ _)⟩
                         repeat' first | with_reducible exact HB4 | with_reducible refine bel_al ?_ _ | with_reducible refine bel_set ?_ ?_ _ | omega | (simp <;> omega))
                      | (refine ⟨_, A12, c12, B12, d12, rfl, by first | omega | (simp <;> omega), rfl, ?_, fin3 ?_ ?_ ?_ ?_ F12 _ _ _⟩
                         · repeat' first | with_reducible exact HB4 | with_reducible refine bel_al ?_ _ | with_reducible refine bel_set ?_ ?_ _ | omega | (simp <;> omega)
                         · first | exact Keep.refl _ | exact (Keep.refl _).alloc _
                         · first | assumption | exact al_at rfl _ rfl | (simp; done) | (apply_assumption)
                         · first | assumption | exact al_at rfl _ rfl | (simp; done) | (apply_assumption)
                         · first | assumption | exact al_at rfl _ rfl | (simp; done) | (apply_assumption)))
              case rest =>
                obtain ⟨g13, A13, c13, B13, d13, rfl, hge, rfl, hb, hcg, F13⟩ := hcut
                have hlt5 := HX.lt 0 rfl
                simp only [] at hlt5
                clear F3
                replace HX := HX.ext hb
                clear hb
                have hcg0 := hcg.c0
                have hcg1 := hcg.c1
                have hcg2 := hcg.c2
                have hne : w.heap.size ≠ g13 := by omega
                clear hge hlt5
                have hc00 := HX.cell 0 0 rfl rfl
                have hf00 := HX.free 0 0 rfl
                have hc01 := HX.cell 0 1 rfl rfl
                have hf01 := HX.free 0 1 rfl
                have hc02 := HX.cell 0 2 rfl rfl
                have hf02 := HX.free 0 2 rfl
                try simp only [List.getElem_toArray, List.getElem_cons_zero, List.getElem_cons_succ] at hc00 hf00 hc01 hf01 hc02 hf02
                go_wp2
                clear hc00 hf00 hc01 hf01 hc02 hf02
                clear hcg hcg0 hcg1 hcg2
                have hk := HX.keep3 0 rfl rfl rfl rfl (by omega) (.bool (sg q)) (.slice A13 (dig (nu q)).length c13) (.slice B13 (dig q.den).length d13)
                replace HX := HX.put3 0 rfl (by omega) (by intro k q hk hne; match k, hk with | 0, hk => (simp at hk; subst hk; simp at hne ⊢; try omega) | 1, hk => (simp at hk; subst hk; simp at hne ⊢; try omega) | k + 2, hk => simp at hk) (.bool (sg q)) (.slice A13 (dig (nu q)).length c13) (.slice B13 (dig q.den).length d13)
                replace F13 := F13.stay hk
                clear hk
                simp only [List.set_cons_zero, List.set_cons_succ] at HX
                have hc00 := HX.cell 0 0 rfl rfl
                have hc01 := HX.cell 0 1 rfl rfl
                have hc02 := HX.cell 0 2 rfl rfl
                try simp only [List.getElem_toArray, List.getElem_cons_zero, List.getElem_cons_succ] at hc00 hc01 hc02
                exact bodyPost_ret (v := .tuple #[.agg #[.bool (sg q), .slice A13 (dig (nu q)).length c13, .slice B13 (dig q.den).length d13], .int .i64 0]) (by simp [results, Tryz.results19, go_sem, hc00, hc01, hc02]) rfl (HP.out _ _ ⟨A13, c13, B13, d13, rfl, F13, HX.below⟩)
theorem qpoint_any (L : List UInt8) (w : World) (hL : L.length ≤ 9223372036854775807) :
    Calls Tryz.prog 19 #[.string (str L)] w (RetD w L) := by
  by_cases h : L.length ≤ 200
  · exact qpoint_short L w h
  · exact qpoint_long L w hL (by omega)
end Go.Proofs.YtajddhkepbnilaaGreatDoor

namespace Go.Proofs.YtajddhkepbnilaaGreatDoor
open Go.RowKit Go.Proofs Go

set_option maxHeartbeats 800000 in
set_option maxRecDepth 100000 in
theorem fpoints_far (L : List UInt8) (w : World) (hT : Tab w) (hl : L.length ≤ 9223372036854775807) (h1 : 300 < L.length) :
    Calls Tryz.prog 5 #[.string (str L)] w (RetB w true) := by
  have hsz : (str L).size = L.length := str_size L
  have HX := BL.nil w
  go_enter Tryz.func5, Tryz.ntmps5
  go_wp2_with fail
  refine (awake_h hT).mono ?_
  rintro e w1 ⟨rfl, hb⟩
  replace hT := hT.ext hb
  replace HX := HX.ext hb
  clear hb
  go_wp2_with fail
  refine (awake_h hT).mono ?_
  rintro e w2 ⟨rfl, hb⟩
  replace HX := HX.ext hb
  go_wp2
  go_ret
  exact ⟨rfl, HX.below⟩

set_option maxHeartbeats 2000000 in
set_option maxRecDepth 100000 in
theorem fpoints_ok {q : Rat} (L : List UInt8) (w : World) (hT : Tab w) (hm : Mx w) (hl : L.length ≤ 300) (hok : Hid (∀ w e w', RetD w L e w' → RetGE w q 30 e w')) :
    Calls Tryz.prog 5 #[.string (str L)] w (RetB w true) := by
  have hsz : (str L).size = L.length := str_size L
  have HX := BL.nil w
  go_enter Tryz.func5, Tryz.ntmps5
  go_wp2_with fail
  refine (awake_h hT).mono ?_
  rintro e w1 ⟨rfl, hb⟩
  replace HX := HX.ext hb
  replace hT := hT.ext hb
  replace hm := hm.ext hb
  clear hb
  go_wp2_with fail
  refine (fpoint_any L _ (by omega) hm hT).mono ?_
  intro e w2 h2
  replace h2 := hok.out _ _ _ h2
  obtain ⟨A2, c2, B2, d2, rfl, F2, hb⟩ := h2
  replace HX := HX.ext hb
  replace hT := hT.ext hb
  replace hm := hm.ext hb
  clear hb
  go_upto_region 4 with fail
  have hb := below_alloc w2 (.cells #[.bool (sg q), .slice A2 (dig (nu q)).length c2, .slice B2 (dig q.den).length d2] 27)
  replace HX := HX.new #[.bool (sg q), .slice A2 (dig (nu q)).length c2, .slice B2 (dig q.den).length d2] 27
  simp only [List.cons_append, List.nil_append] at HX
  replace hT := hT.ext hb
  replace hm := hm.ext hb
  replace F2 := F2.ext hb
  clear hb
  generalize w2.alloc (.cells #[.bool (sg q), .slice A2 (dig (nu q)).length c2, .slice B2 (dig q.den).length d2] 27) = W2 at *
  generalize w2.heap.size = g2 at *
  go_wp2_with fail
  refine (qpoint_any L _ (by omega)).mono ?_
  intro e w4 h4
  replace h4 := hok.out _ _ _ h4
  obtain ⟨A4, c4, B4, d4, rfl, F4, hb⟩ := h4
  replace HX := HX.ext hb
  replace hT := hT.ext hb
  replace hm := hm.ext hb
  replace F2 := F2.ext hb
  clear hb
  go_upto_region 5 with fail
  have hb := below_alloc w4 (.cells #[.bool (sg q), .slice A4 (dig (nu q)).length c4, .slice B4 (dig q.den).length d4] 27)
  replace HX := HX.new #[.bool (sg q), .slice A4 (dig (nu q)).length c4, .slice B4 (dig q.den).length d4] 27
  simp only [List.cons_append, List.nil_append] at HX
  replace hT := hT.ext hb
  replace hm := hm.ext hb
  replace F2 := F2.ext hb
  replace F4 := F4.ext hb
  clear hb
  generalize w4.alloc (.cells #[.bool (sg q), .slice A4 (dig (nu q)).length c4, .slice B4 (dig q.den).length d4] 27) = W4 at *
  generalize w4.heap.size = g4 at *
  have hc00 := HX.cell 0 0 rfl rfl
  have hc01 := HX.cell 0 1 rfl rfl
  have hc02 := HX.cell 0 2 rfl rfl
  have hc10 := HX.cell 1 0 rfl rfl
  have hc11 := HX.cell 1 1 rfl rfl
  have hc12 := HX.cell 1 2 rfl rfl
  try simp only [List.getElem_toArray, List.getElem_cons_zero, List.getElem_cons_succ] at hc00 hc01 hc02 hc10 hc11 hc12
  go_wp2_with fail
  refine (bfrac_s F2 F4 (by omega) (by omega)).mono ?_
  rintro e w5 ⟨rfl, hb⟩
  replace HX := HX.ext hb
  go_wp2
  go_ret
  exact ⟨by first | rfl | simp, HX.below⟩

set_option maxHeartbeats 2000000 in
set_option maxRecDepth 100000 in
theorem fpoints_bad {err : Int} (L : List UInt8) (w : World) (hT : Tab w) (hm : Mx w) (hl : L.length ≤ 300) (hbad : Hid (∀ w e w', RetD w L e w' → RetZE w err e w')) :
    Calls Tryz.prog 5 #[.string (str L)] w (RetB w true) := by
  have hsz : (str L).size = L.length := str_size L
  have HX := BL.nil w
  have he2 : (err == err) = true := beq_self_eq_true _
  go_enter Tryz.func5, Tryz.ntmps5
  go_wp2_with fail
  refine (awake_h hT).mono ?_
  rintro e w1 ⟨rfl, hb⟩
  replace HX := HX.ext hb
  replace hT := hT.ext hb
  replace hm := hm.ext hb
  clear hb
  go_wp2_with fail
  refine (fpoint_any L _ (by omega) hm hT).mono ?_
  intro e w2 h2
  replace h2 := hbad.out _ _ _ h2
  obtain ⟨rfl, hb⟩ := h2
  replace HX := HX.ext hb
  replace hT := hT.ext hb
  replace hm := hm.ext hb
  clear hb
  go_upto_region 4 with fail
  have hb := below_alloc w2 (.cells #[.bool false, .slice none 0 0, .slice none 0 0] 27)
  replace HX := HX.new #[.bool false, .slice none 0 0, .slice none 0 0] 27
  simp only [List.cons_append, List.nil_append] at HX
  replace hT := hT.ext hb
  replace hm := hm.ext hb
  clear hb
  generalize w2.alloc (.cells #[.bool false, .slice none 0 0, .slice none 0 0] 27) = W2 at *
  generalize w2.heap.size = g2 at *
  go_wp2_with fail
  refine (qpoint_any L _ (by omega)).mono ?_
  intro e w4 h4
  replace h4 := hbad.out _ _ _ h4
  obtain ⟨rfl, hb⟩ := h4
  replace HX := HX.ext hb
  replace hT := hT.ext hb
  replace hm := hm.ext hb
  clear hb
  go_upto_region 5 with fail
  have hb := below_alloc w4 (.cells #[.bool false, .slice none 0 0, .slice none 0 0] 27)
  replace HX := HX.new #[.bool false, .slice none 0 0, .slice none 0 0] 27
  simp only [List.cons_append, List.nil_append] at HX
  replace hT := hT.ext hb
  replace hm := hm.ext hb
  clear hb
  generalize w4.alloc (.cells #[.bool false, .slice none 0 0, .slice none 0 0] 27) = W4 at *
  generalize w4.heap.size = g4 at *
  have hc00 := HX.cell 0 0 rfl rfl
  have hc01 := HX.cell 0 1 rfl rfl
  have hc02 := HX.cell 0 2 rfl rfl
  have hc10 := HX.cell 1 0 rfl rfl
  have hc11 := HX.cell 1 1 rfl rfl
  have hc12 := HX.cell 1 2 rfl rfl
  try simp only [List.getElem_toArray, List.getElem_cons_zero, List.getElem_cons_succ] at hc00 hc01 hc02 hc10 hc11 hc12
  go_wp2_with fail
  refine bfrac_0.mono ?_
  rintro e w5 ⟨rfl, hb⟩
  replace HX := HX.ext hb
  go_wp2
  go_ret
  exact ⟨by first | rfl | simp, HX.below⟩

theorem fpoints_any (L : List UInt8) (w : World) (hT : Tab w) (hm : Mx w) (hl : L.length ≤ 9223372036854775807) :
    Calls Tryz.prog 5 #[.string (str L)] w (RetB w true) := by
  by_cases h : 300 < L.length
  · exact fpoints_far L w hT hl h
  · by_cases h4 : 200 < L.length
    · exact fpoints_bad (err := 6) L w hT hm (by omega) (Lib.hid (fun w e w' h => by rw [RetD, if_pos h4] at h; exact h))
    · by_cases hf : dok L = true
      · exact fpoints_ok (q := dq L) L w hT hm (by omega) (Lib.hid (fun w e w' h => by rw [RetD, if_neg h4, if_pos hf] at h; exact h))
      · exact fpoints_bad (err := 3) L w hT hm (by omega) (Lib.hid (fun w e w' h => by rw [RetD, if_neg h4, if_neg hf] at h; exact h))
end Go.Proofs.YtajddhkepbnilaaGreatDoor

namespace Go.Proofs.YtajddhkepbnilaaGreatDoor
open Go.Joins Go.ChangeShapes Go.WideShapes Go.ChangeAt Go.WideMaps Go.WideElems Go.RowKit Go.Proofs Go

theorem own : ownKnob Tryz.prog.godebug = none := by kernel_rfl
theorem laidOut : laidOutB Tryz.prog = true := by kernel_rfl

section
variable {H : Type} {enc : TypeId × Value → H} {P : Program}
/-- the arguments read as they did: below the old end of memory nothing has turned -/
theorem trodAll_stay (hl : laidOutB P = true) {W W' : World} (hb : Below W.heap.size W W') {sp : Nat → Bool} : ∀ {ts : List TypeId} {vs : List Value} {ds : List (DataW H)} {ps : List MemPlace},
    (∀ t ∈ ts, P.readableRec t = true ∧ t < P.types.size) → DataW.TrodAll enc P W 0 (fun _ => true) true ts vs ds ps → (∀ x ∈ ps, x.block < W.heap.size) → (∀ x ∈ ps, sp x.block = true) → DataW.TrodAll enc P W' 0 sp true ts vs ds ps
  | [], vs, ds, ps, _, h, _, _ => by
    obtain ⟨rfl, rfl, rfl⟩ := trodAll_nil h
    exact trodAll_mk0
  | t :: ts, vs, ds, ps, ht, h, hlt, hs => by
    obtain ⟨v, vs', d, ds', p, q, rfl, rfl, rfl, h1, h2⟩ := trodAll_cons h
    obtain ⟨r1, r2⟩ := ht t List.mem_cons_self
    refine ⟨p, q, ?_, trodAll_stay hl hb (fun t h => ht t (List.mem_cons_of_mem _ h)) h2 (fun x hx => hlt x (List.mem_append_right _ hx)) (fun x hx => hs x (List.mem_append_right _ hx)), rfl⟩
    exact Trod_stays hl r1 r2 h1 (fun x hx => hb.same (hlt x (List.mem_append_left _ hx))) (fun x hx => hs x (List.mem_append_left _ hx))
/-- a law's end: it has returned true, and below the old end of memory nothing has turned -/
theorem law_post {f : Func} {s : ChangeSpec} {W W' : World} {args : Array Value} {ds : List (DataW H)} {before : List MemPlace} (hl : laidOutB P = true) (hp : ∀ t ∈ f.params.toList, P.readableRec t = true ∧ t < P.types.size) {tb : TypeId} (hr : f.resultTypes = #[tb]) (htb : P.underlying tb = some .bool)
    (hvars : s.vars = []) (hfn : s.fn H (ds ++ []) = { results := [.lit (.bool true)], args := ds, vars := [] })
    (hW : DataW.Whole enc P f.params.toList s.vars false W args.toList ds [] before) (hA : DataW.TrodAll enc P W 0 (fun _ => true) true f.params.toList args.toList ds before) (hb : Below W.heap.size W W') :
    s.post enc P f false true false false W args (.bool true) W' := by
  have hlt : ∀ p ∈ before, p.block < W.heap.size := fun p hp => hW.lt p hp
  have hold : ∀ p ∈ before, (fun b => decide (b < W.heap.size)) p.block = true := fun p hp => by simpa using hlt p hp
  have hok : ∀ (j : Nat) (t : TypeId) (r : Value), f.resultTypes[j]? = some t → ((Value.bool true).resultList f.resultTypes.size)[j]? = some r → Value.okWide P W' .any 0 t r := ok_one hr rfl (okWide_bool_mk htb _)
  have hres : ∀ (b : Nat) (sp : Nat → Bool) (hd : Bool), DataW.TrodAll enc P W' b sp hd f.resultTypes.toList ((Value.bool true).resultList f.resultTypes.size) (s.fn H (ds ++ [])).results [] := fun b sp hd => by
    rw [hfn, hr]; exact trodAll_mk1 (shut_bool htb _)
  have hargs : ∀ sp : Nat → Bool, (∀ p ∈ before, sp p.block = true) → DataW.TrodAll enc P W' 0 sp true f.params.toList args.toList (s.fn H (ds ++ [])).args before := fun sp hsp => by
    rw [hfn]; exact trodAll_stay hl hb hp hA hlt hsp
  have hvs : ∀ sp : Nat → Bool, DataW.TrodVars enc P W' sp s.vars (s.fn H (ds ++ [])).vars [] := fun sp => by
    rw [hfn, hvars]; simp [DataW.TrodVars]
  refine ⟨ds, [], before, [], before, [], hW, hres _ _ _, hargs _ hold, hvs _, World.keptBut_mono (fun p hp => ⟨hp, .inr (by simpa using hp)⟩) (hb.frame (· ∈ before)), fun _ => ?_⟩
  obtain ⟨_, _, _, _, _, hz, hn⟩ := hW
  refine ⟨hok, _, _, ([] ++ before) ++ [], ⟨[] ++ before, [], trodAll_append (hargs _ (fun _ _ => rfl)) (hres _ _ _), hvs _, rfl, ?_, ?_⟩, ?_⟩
  · intro b off hp
    have hin : MemPlace.cell b off ∈ before := by simpa using hp
    rw [hb.frozen (hlt _ hin)]
    exact hz b off hin
  · intro ha; cases ha
  · intro p hp _
    simpa using hp
end

theorem i64_bd {n : Int} (h : (Lit.int .i64 n).wf = true) : -9223372036854775808 ≤ n ∧ n ≤ 9223372036854775807 := by
  simp only [Lit.wf, Bool.and_eq_true, decide_eq_true_eq] at h
  have e1 : IntKind.i64.min = -9223372036854775808 := rfl
  have e2 : IntKind.i64.max = 9223372036854775807 := rfl
  rw [e1, e2] at h
  exact h
theorem lim_of {W : World} {zs : List Int} {a : Addr} {len cap : Nat} (hl : len ≤ cap) (hz : zs.length = cap) (hc : ∀ i, i < zs.length → W.cell? (a.add i) = some (.int .u32 (zs.getD i 0))) (hw : ∀ n ∈ zs, (Lit.int .u32 n).wf = true) :
    ∃ l : List Nat, Lim W (some a) cap l ∧ len = l.length := by
  have hr : ∀ i, i < zs.length → 0 ≤ zs.getD i 0 ∧ zs.getD i 0 < 4294967296 := fun i hi => by
    have h1 := hw (zs.getD i 0) (by simp [List.getD_eq_getElem?_getD, List.getElem?_eq_getElem hi])
    simp only [Lit.wf, Bool.and_eq_true, decide_eq_true_eq] at h1
    have e1 : IntKind.u32.min = 0 := rfl
    have e2 : IntKind.u32.max = 4294967295 := rfl
    rw [e1, e2] at h1
    omega
  have hat : ∀ j, j < len → at_ ((zs.take len).map Int.toNat) j = (zs.getD j 0).toNat := fun j hj => by
    have : j < zs.length := by omega
    simp [at_, hj, List.getD_eq_getElem?_getD, List.getElem?_eq_getElem this]
  refine ⟨(zs.take len).map Int.toNat, ⟨by simp; omega, fun j => ?_, fun h0 => ⟨a, rfl, ?_, fun j hj => ?_⟩⟩, by simp; omega⟩
  · by_cases hj : j < len
    · rw [hat j hj]; have := hr j (by omega); omega
    · rw [at_ge (by simp; omega)]; omega
  · have := hc 0 (by simp at h0; omega)
    rw [← addr_add_block a 0]
    exact cell_lt this
  · have hj' : j < len := by simp at hj; omega
    rw [hc j (by omega), hat j hj']
    have := hr j (by omega)
    congr 2
    omega
section
variable {H : Type} {enc : TypeId × Value → H}
set_option maxRecDepth 100000 in
theorem open_limbs {W : World} {n : Nat} {v : Value} {y : DataW H × List MemPlace} (h : DataW.trod enc Tryz.prog W 0 (fun _ => true) true n 25 [v] = some y) :
    ∃ A n c l, v = .slice A n c ∧ Lim W A c l ∧ n = l.length ∧ n ≤ 9223372036854775807 := by
  obtain ⟨xs, m, rfl, _, _, hxl, hall⟩ := DataW.trod_struct Tryz.underlying25 h
  have h0 := hall 0 _ rfl
  have hx : xs[0]? = some (xs[0]'(by rw [hxl]; decide)) := List.getElem?_eq_getElem _
  rw [hx] at h0
  have h1 : DataW.trod enc Tryz.prog W 0 (fun _ => true) true m 23 [v] = some (xs[0]'(by rw [hxl]; decide)) := h0
  rcases open_ints Tryz.underlying23 Tryz.underlying110 (by kernel_rfl) h1 with ⟨h2, _⟩ | ⟨a, len, cap, zs, h2, _, hl, hm, hz, _, hc, hw⟩
  · obtain rfl : v = .slice none 0 0 := by simpa using h2
    exact ⟨none, 0, 0, [], rfl, Lim.nil _ _ _, rfl, by omega⟩
  · obtain rfl : v = .slice (some a) len cap := by simpa using h2
    simp only [if_true] at hz
    obtain ⟨l, hL, hn⟩ := lim_of hl hz hc hw
    unfold maxLen at hm
    exact ⟨some a, len, cap, l, rfl, hL, hn, by omega⟩
end

set_option maxRecDepth 100000 in
theorem tab_of_reads {W : World} {d : DataW Unit} (hd : d = Lib.tabData .u64 Lib.pow10Tab) (h : Lib.VarReads Tryz.prog W "internal/strconv.uint64pow10" d) : Tab W := by
  subst hd
  obtain ⟨g, t, cs, fuel, p, h1, h2, h3, h4⟩ := h
  have hg : Tryz.prog.globalNamed "internal/strconv.uint64pow10" = some 3 := by kernel_rfl
  obtain rfl := Option.some.inj (hg.symm.trans h1)
  have ht : (Tryz.prog.globals[3]?).map (·.type) = some 187 := by kernel_rfl
  obtain rfl := Option.some.inj (ht.symm.trans h2)
  show Lib.TabIs _ _ _ _ _
  unfold Lib.TabIs
  rw [h3, ← Lib.cells_of_tab Tryz.underlying187 Tryz.underlying73 (by kernel_rfl) (by kernel_rfl) h4]
end Go.Proofs.YtajddhkepbnilaaGreatDoor

namespace Go.Proofs.YtajddhkepbnilaaGreatDoor
open Go.Joins Go.ChangeShapes Go.WideShapes Go.ChangeAt Go.WideMaps Go.WideElems Go.RowKit Go.Proofs Go

section
variable {H : Type} {enc : TypeId × Value → H}
set_option maxRecDepth 100000 in
theorem open_frac {W : World} {base : Nat} {v : Value} {d : DataW H} {p : List MemPlace} (hv : Value.okWide Tryz.prog W .any base 27 v) (h : DataW.Trod enc Tryz.prog W 0 (fun _ => true) true 27 v d p) :
    ∃ s A n c B m d', v = .agg #[.bool s, .slice A n c, .slice B m d'] ∧ Arg W s A n c B m d' := by
  obtain ⟨v0, v1, v2, y0, y1, y2, n, rfl, _, _, h0, h1, h2⟩ := open_agg3 Tryz.underlying27 (by kernel_rfl) (by kernel_rfl) hv h
  obtain ⟨s, e0, _⟩ := DataW.trod_bool Tryz.underlying4 h0
  obtain rfl : v0 = .bool s := by simpa using e0
  obtain ⟨A, n1, c1, l, rfl, HA, hn1, hb1⟩ := open_limbs h1
  obtain ⟨B, n2, c2, r, rfl, HB, hn2, hb2⟩ := open_limbs h2
  exact ⟨s, A, n1, c1, B, n2, c2, rfl, ⟨⟨l, r, HA, HB, hn1, hn2⟩, hb1, hb2⟩⟩
end
end Go.Proofs.YtajddhkepbnilaaGreatDoor

namespace Go.Proofs.YtajddhkepbnilaaGreatDoor
open Go Go.Proofs

section
variable {H : Type} {enc : TypeId × Value → H}
theorem handed_and_shaped {a : Assume} {C : Checked} {os : Os} {f : FuncId} {fn : Func} {s : ChangeSpec} {conds : List PathCond} {apart fresh handsOn again : Bool} {X : World → Array Value → Prop}
    (hX : ∀ (w w' : World) (args : Array Value), w.heap = w'.heap → X w args → X w' args)
    (own : ownKnob C.prog.godebug = none) (started : os.Started) (noInit : C.prog.inits.idxOf? f = none) (hfn : C.prog.funcs[f]? = some fn)
    (witness : ∃ (w : World) (tape : Tape) (i : Input), w.os = os ∧ (w.forCall tape i).Shaped C.prog ∧ i.vars = [] ∧ Input.okWide C.prog (w.forCall tape i) .any w.heap.size f i ∧
      ((s.pre enc C.prog fn conds apart (w.forCall tape i).memory i.args ∧ X (w.forCall tape i).memory i.args) ∧ sizedMet enc C.prog fn (OpenSpec.ofChange s) apart (w.forCall tape i).memory i.args) ∧ a.holds C.prog (lone (Frame.enter C.prog f i.args .normal) [] (w.forCall tape i)))
    (contract : ∀ (W : World) (base : Nat) (args : Array Value) (ds gs : List (DataW H)) (before : List MemPlace),
      (∀ (j : Nat) t v, fn.params[j]? = some t → args[j]? = some v → Value.okWide C.prog W .any base t v) →
      DataW.Whole enc C.prog fn.params.toList s.vars apart W args.toList ds gs before → X W args → W.ShapedOpen C.prog →
      Calls C.prog f args W fun e W' => ∃ v, e = .returned v ∧ s.post enc C.prog fn apart fresh handsOn again W args v W') :
    ReturnsInHanded a C os f .any (fun w args => (s.pre enc C.prog fn conds apart w args ∧ X w args) ∧ sizedMet enc C.prog fn (OpenSpec.ofChange s) apart w args) (s.post enc C.prog fn apart fresh handsOn again) := by
  refine returnsInHanded_of_calls own started noInit witness ?_
  intro w tape i _ hsh _ hok hpre _
  obtain ⟨_, _, _, fn', hfn', _, _, _, _, hval⟩ := hok
  obtain rfl : fn' = fn := Option.some.inj (hfn'.symm.trans hfn)
  obtain ⟨⟨⟨ds, gs, before, hw, _⟩, hx⟩, _⟩ := hpre
  refine (contract (w.forCall tape i) w.heap.size i.args ds gs before hval (DataW.Whole.of_heap (w' := w.forCall tape i) (by rfl) hw) (hX _ _ _ (by rfl) hx) hsh).mono fun e W' ⟨v, he, hp⟩ => ?_
  subst he
  exact ChangeSpec.post_blind hp
end
end Go.Proofs.YtajddhkepbnilaaGreatDoor

namespace Go.Proofs.YtajddhkepbnilaaGreatDoor
open Go.Joins Go.ChangeShapes Go.WideShapes Go.ChangeAt Go.WideMaps Go.WideElems Go.RowKit Go.Proofs Go

theorem fractionPoints_door (os : Os) (args : Array Value) : laidMetH Tryz.prog Rows.fractionPointsRow.laid ((World.laidAll Tryz.prog os Rows.fractionPointsRow.laid).forCall (fun _ _ => 0) ⟨#[], args, []⟩).memory := by
  rw [MakeChecks.laidMetH_plain _ _ _ (by kernel_rfl)]
  exact laidMet_laidAll _ (by kernel_rfl) (by kernel_rfl)
theorem fractionPoints_tab {W : World} (h : laidMetH Tryz.prog Rows.fractionPointsRow.laid W) : Tab W := by
  rw [MakeChecks.laidMetH_plain _ _ _ (by kernel_rfl)] at h
  exact tab_of_reads rfl (Lib.laidMet.reads h (.tail _ (.tail _ (.head _))))

set_option maxRecDepth 100000 in
theorem fractionPoints_lifted (os : Os) (started : os.Started) (H : Type) (enc : TypeId × Value → H) :
    ReturnsInHanded {} Tryz.checked os 5 .any (fun w args => (Rows.fractionPointsSpec.pre enc Tryz.prog Tryz.f5 [] false w args ∧ laidMetH Tryz.prog Rows.fractionPointsRow.laid w) ∧ sizedMet enc Tryz.prog Tryz.f5 (OpenSpec.ofChange Rows.fractionPointsSpec) false w args)
      (Rows.fractionPointsSpec.post enc Tryz.prog Tryz.f5 false true false false) := by
  refine handed_and_shaped (C := Tryz.checked) (X := fun w _ => laidMetH Tryz.prog Rows.fractionPointsRow.laid w) (fun _ _ _ hh h => h.of_heap hh) own started (by kernel_rfl) Tryz.func5
    (ChangeSpec.witness_shaped (enc := enc) (C := Tryz.checked) (os := os) (X := fun w _ => laidMetH Tryz.prog Rows.fractionPointsRow.laid w) false (World.laidAll Tryz.prog os Rows.fractionPointsRow.laid) #[.string ⟨#[]⟩] 8 (World.laidAll_os _ _ _) (World.shaped_of_ZipB (by kernel_rfl) (by kernel_rfl)) (by kernel_rfl) (by kernel_rfl) (by kernel_rfl) (fractionPoints_door os _)) ?_
  intro W base args ds gs before hval0 hW hL hsh
  have hval : ∀ (j : Nat) t v, Tryz.f5.params[j]? = some t → args[j]? = some v → Value.okWide Tryz.prog W .any base t v := hval0
  have hW' := hW
  obtain ⟨p, q, hA0, hV, hbef, hfz, hnd⟩ := hW
  have hA : DataW.TrodAll enc Tryz.prog W 0 (fun _ => true) true Tryz.f5.params.toList args.toList ds p := hA0
  obtain ⟨rfl, rfl⟩ := trodVars_none hV
  have hA2 := hA
  have hpp : before = p := by simpa using hbef
  subst hpp
  rw [Tryz.params5] at hA hval
  obtain ⟨v0, d0, rfl, rfl, h0⟩ := trodAll_one hA
  have hT := fractionPoints_tab hL
  have hM := mx_of_shape hsh
  have hfin : ∀ W' : World, Below W.heap.size W W' → Rows.fractionPointsSpec.post enc Tryz.prog Tryz.f5 false true false false W _ (.bool true) W' := fun W' hb =>
    law_post (s := Rows.fractionPointsSpec) laidOut (by rw [Tryz.params5]; exact fun t ht => of_decide_eq_true (List.all_eq_true.1 (show ([9].all fun t => decide (Tryz.prog.readableRec t = true ∧ t < Tryz.prog.types.size)) = true by kernel_rfl) t (by simpa using ht))) (by kernel_rfl) Tryz.underlying4 rfl rfl hW' hA2 hb
  clear hA0 hval0
  obtain ⟨s0, rfl, _, _, w0⟩ := Go.ChangeMaps.open_string Tryz.underlying9 (hval 0 _ _ rfl rfl) h0
  obtain ⟨L0, rfl⟩ : ∃ L, s0 = str L := ⟨s0.data.toList, by simp [str]⟩
  replace w0 : L0.length ≤ 9223372036854775807 := by rw [str_size] at w0; exact w0
  refine (fpoints_any L0 W hT hM w0).mono fun e W' he => ?_
  obtain ⟨rfl, hb⟩ := he
  exact ⟨_, rfl, hfin W' hb⟩

theorem fractionPoints_row : Rows.FractionPointsSaid :=
  OpenClaim.holds_of_wide 5 Tryz.f5 rfl rfl rfl rfl rfl rfl rfl ⟨rfl, rfl, rfl, rfl, rfl⟩ rfl rfl rfl rfl rfl (by kernel_rfl) Tryz.func5 (by kernel_rfl)
    (of_decide_eq_true (by kernel_rfl)) (by unfold Func.isWrapper; first | (rw [if_pos (by decide +kernel)]; kernel_rfl) | (rw [if_neg (by decide +kernel)]; exact ⟨rfl, rfl⟩))
    (fun os started H enc _ => fractionPoints_lifted os started H enc)
theorem fractionPoints_holds : Rows.FractionPointsCardSaid :=
  Claim7.holds_tied_plain_at .later [] [.data, .data, .data, .data, .sentinel, .sentinel, .pinned] true (true, "2189d618782eca09c7c70b47c3758ab4ccac6195e5183eaecbfa92a83726d1bb") true
    fractionPoints_row (fun _ h => by cases h) (by kernel_rfl) (fun _ h => by cases h) fractionPoints_row_tie rfl ⟨rfl, rfl⟩ (by kernel_rfl) rfl
    (fun f fn hf hfn => by
      obtain rfl : f = 5 := Option.some.inj ((show Tryz.prog.funcNamed "coinage/coinagelaw02.FractionPoints" = some 5 by kernel_rfl).symm.trans hf) |>.symm
      obtain rfl : fn = Tryz.f5 := (Option.some.inj (Tryz.func5.symm.trans hfn)).symm
      exact ⟨by kernel_rfl, fun j t ht => by
        rw [Tryz.params5] at ht
        have hm : t ∈ [9] := by simpa using Array.mem_of_getElem? ht
        have hall : ([9].all fun u => !Tryz.prog.wantsStandIn u) = true := by kernel_rfl
        exact (show Tryz.prog.wantsStandIn t = false by simpa using List.all_eq_true.1 hall t hm)⟩)
    (by kernel_rfl)
#print axioms fractionPoints_holds
end Go.Proofs.YtajddhkepbnilaaGreatDoor
