/- Plain: numbers in decimal notation, taken apart. -/
import Derived.Test.YtajddhkepbnilaaGreatDoorSCut
import Derived.Test.YtajddhkepbnilaaGreatDoorQPow
import Derived.Lib.TrimByte
namespace Go.Proofs.YtajddhkepbnilaaGreatDoor
open Go.RowKit Go.Proofs Go

def dwh (L : List UInt8) : List UInt8 := (cutAt 46 (frest L)).1
def dpt (L : List UInt8) : List UInt8 := (cutAt 46 (frest L)).2.1
def dfo (L : List UInt8) : Bool := (cutAt 46 (frest L)).2.2
def digs (M : List UInt8) : Bool := M.all isDig && !M.isEmpty
def lead (M : List UInt8) : Bool := decide (1 < M.length) && (M.head? == some 48)
def dok (L : List UInt8) : Bool := digs (dwh L) && !(dfo L && !digs (dpt L)) && !lead (dwh L)
def dq (L : List UInt8) : Rat := rv (fneg L) (dval 0 (dwh L ++ dpt L)) (10 ^ (dpt L).length)
def zs (M : List UInt8) : List UInt8 := if (Lib.trimLeftB M 48).isEmpty then [48] else Lib.trimLeftB M 48
/-- what ParseDecimal returns -/
def RetD (w : World) (L : List UInt8) (e : Ending) (w' : World) : Prop :=
  if 200 < L.length then RetZE w 6 e w' else if dok L = true then RetGE w (dq L) 30 e w' else RetZE w 3 e w'
theorem cut_found {c : UInt8} : ∀ l : List UInt8, (cutAt c l).2.2 = false → (cutAt c l).2.1 = []
  | [], _ => rfl
  | b :: l, h => by
    rw [cutAt] at h ⊢
    split at h
    · cases h
    · next hb => rw [if_neg hb]; exact cut_found l h
theorem cut_both {c : UInt8} : ∀ l : List UInt8, (cutAt c l).1.length + (cutAt c l).2.1.length ≤ l.length
  | [] => Nat.le_refl _
  | b :: l => by
    have ih := cut_both (c := c) l
    rw [cutAt]
    split
    · simp
    · simp only [List.length_cons]; omega
theorem frest_len (L : List UInt8) : (frest L).length ≤ L.length := by
  rw [frest]; split
  · simp
  · exact Nat.le_refl _
theorem tlb_all {M : List UInt8} (h : M.all isDig = true) : (Lib.trimLeftB M 48).all isDig = true := by
  rw [List.all_eq_true] at h ⊢
  exact fun x hx => h x (List.dropWhile_sublist _ |>.subset hx)
theorem tlb_val : ∀ M : List UInt8, dval 0 (Lib.trimLeftB M 48) = dval 0 M
  | [] => rfl
  | b :: l => by
    rw [Lib.trimLeftB, List.dropWhile_cons]
    by_cases hb : b = 48
    · subst hb
      have ih := tlb_val l
      rw [Lib.trimLeftB] at ih
      rw [if_pos (by decide), ih, dval_cons]
      rfl
    · rw [if_neg (by simpa using hb)]
theorem tlb_head : ∀ M : List UInt8, (Lib.trimLeftB M 48).head? ≠ some 48
  | [] => by simp [Lib.trimLeftB]
  | b :: l => by
    have ih := tlb_head l
    rw [Lib.trimLeftB] at ih ⊢
    rw [List.dropWhile_cons]
    by_cases hb : b = 48
    · rw [if_pos (by simpa using hb)]; exact ih
    · rw [if_neg (by simpa using hb)]; simpa using hb
theorem tlb_len (M : List UInt8) : (Lib.trimLeftB M 48).length ≤ M.length := (List.dropWhile_sublist _).length_le
theorem zs_num {M : List UInt8} (h : M.all isDig = true) : numeral (zs M) = true := by
  rw [zs]
  split
  · decide +kernel
  · next hn => exact numeral_of (by simpa using hn) (tlb_all h) (.inr (tlb_head M))
theorem zs_val (M : List UInt8) : dval 0 (zs M) = dval 0 M := by
  rw [zs]
  split
  · next h =>
    rw [← tlb_val M, List.isEmpty_iff.1 h]; rfl
  · exact tlb_val M
theorem zs_len (M : List UInt8) : (zs M).length ≤ M.length + 1 := by
  have := tlb_len M
  rw [zs]; split
  · simp
  · omega
theorem zs_parse {M : List UInt8} (h : M.all isDig = true) (hl : M.length ≤ 3000) : parseV (zs M) = dval 0 M ∧ parseE (zs M) = 0 := by
  have h2 := zs_len M
  obtain ⟨a, b⟩ := parse_ok (L := zs M) (by omega) (zs_num h)
  exact ⟨by rw [a, zs_val], b⟩
/-- a row whose first j bytes are zeros, cut there -/
theorem zs_drop {M : List UInt8} {j : Nat} (hj : j < M.length) (h0 : ∀ b ∈ M.take j, b = 48) (he : j + 1 = M.length ∨ M[j]'hj ≠ 48) : M.drop j = zs M := by
  have hd : M.drop j = M[j]'hj :: M.drop (j + 1) := (List.getElem_cons_drop ..).symm
  have ht : Lib.trimLeftB M 48 = Lib.trimLeftB (M.drop j) 48 := by
    conv => lhs; rw [← List.take_append_drop j M]
    rw [Lib.trimLeftB, Lib.trimLeftB, List.dropWhile_append_of_pos (by simpa using h0)]
  by_cases hb : M[j]'hj = 48
  · have h1 : j + 1 = M.length := he.resolve_right (fun h => h hb)
    have hd2 : M.drop j = [48] := by rw [hd, hb, List.drop_eq_nil_of_le (by omega)]
    have : Lib.trimLeftB M 48 = [] := by rw [ht, hd2]; rfl
    rw [zs, this, hd2]; rfl
  · have : Lib.trimLeftB M 48 = M.drop j := by
      rw [ht, hd, Lib.trimLeftB, List.dropWhile_cons, if_neg (by simpa using hb)]
    rw [zs, this, hd]; rfl
theorem ten_len {k : Nat} (h : k ≤ 200) : (dig (10 ^ k)).length ≤ 23 := by
  obtain ⟨K, hK⟩ : ∃ K, K = 23 := ⟨_, rfl⟩
  have : (dig (10 ^ k)).length ≤ K := dig_len_le (by rw [pw_ten]; exact Nat.pow_lt_pow_right (by omega) (by omega))
  omega
theorem val_len {M : List UInt8} (h : M.all isDig = true) (hl : M.length ≤ 200) : (dig (dval 0 M)).length ≤ 23 := by
  obtain ⟨K, hK⟩ : ∃ K, K = 23 := ⟨_, rfl⟩
  have : (dig (dval 0 M)).length ≤ K := dig_len_le (by rw [pw_ten]; exact Nat.lt_of_lt_of_le (dval_lt h) (Nat.pow_le_pow_right (by omega) (by omega)))
  omega
theorem quot_ten (σ : Bool) (N k : Nat) : rv σ N 1 * (tenp k)⁻¹ = rv σ N (10 ^ k) := by
  rw [tenp, rv_inv, rv_mul]
  congr 1
  · cases σ <;> rfl
  · omega
  · omega
end Go.Proofs.YtajddhkepbnilaaGreatDoor
