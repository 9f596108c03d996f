/- Plain: the texts of numbers, taken apart. -/
import Derived.Test.YtajddhkepbnilaaGreatDoorFrac7
import Derived.Test.YtajddhkepbnilaaGreatDoorPMath
import Derived.Lib.IndexMore
namespace Go.Proofs.YtajddhkepbnilaaGreatDoor
open Go

/-- a row of bytes, cut at the first c -/
def cutAt (c : UInt8) : List UInt8 → List UInt8 × List UInt8 × Bool
  | [] => ([], [], false)
  | b :: l => if b = c then ([], l, true) else (b :: (cutAt c l).1, (cutAt c l).2.1, (cutAt c l).2.2)
theorem cutAt_none {c : UInt8} : ∀ {l : List UInt8}, c ∉ l → cutAt c l = (l, [], false)
  | [], _ => rfl
  | b :: l, h => by
    have hb : b ≠ c := fun e => h (by rw [e]; exact List.mem_cons_self)
    rw [cutAt, if_neg hb, cutAt_none (fun m => h (List.mem_cons_of_mem _ m))]
theorem cutAt_some {c : UInt8} : ∀ {a r : List UInt8}, c ∉ a → cutAt c (a ++ c :: r) = (a, r, true)
  | [], r, _ => by rw [List.nil_append, cutAt, if_pos rfl]
  | b :: a, r, h => by
    have hb : b ≠ c := fun e => h (by rw [e]; exact List.mem_cons_self)
    rw [List.cons_append, cutAt, if_neg hb, cutAt_some (fun m => h (List.mem_cons_of_mem _ m))]
theorem index_cons (b c : UInt8) (l : List UInt8) : Lib.index (b :: l) [c] = if b = c then 0 else if Lib.index l [c] = -1 then -1 else Lib.index l [c] + 1 := by
  rw [Lib.index]
  by_cases h : b = c
  · subst h; simp [List.isPrefixOf]
  · rw [if_neg h]
    have : (List.isPrefixOf [c] (b :: l)) = false := by simp [List.isPrefixOf]; exact fun e => h e.symm
    rw [this]
    simp
theorem lib_cut (c : UInt8) : ∀ l : List UInt8, Lib.cut l [c] = cutAt c l
  | [] => by
    have : Lib.index [] [c] = -1 := rfl
    rw [Lib.cut, this]; rfl
  | b :: l => by
    have ih := lib_cut c l
    have hge := Lib.index_ge l [c]
    rw [Lib.cut, index_cons, cutAt, ← ih, Lib.cut]
    by_cases h : b = c
    · rw [if_pos h]; simp [h]
    · simp only [if_neg h]
      by_cases h1 : Lib.index l [c] = -1
      · simp [h1]
      · have h2 : 0 ≤ Lib.index l [c] := by omega
        have h3 : 0 ≤ Lib.index l [c] + 1 := by omega
        have h4 : (Lib.index l [c] + 1).toNat = (Lib.index l [c]).toNat + 1 := by omega
        rw [if_neg h1, if_pos h3, if_pos h2, h4]
        have h5 : (Lib.index l [c]).toNat + 1 + [c].length = (Lib.index l [c]).toNat + [c].length + 1 := by omega
        rw [h5]
        simp

def fneg (L : List UInt8) : Bool := L.head? == some 45
def frest (L : List UInt8) : List UInt8 := if fneg L then L.tail else L
def fnum (L : List UInt8) : List UInt8 := (cutAt 47 (frest L)).1
def fden (L : List UInt8) : List UInt8 := if (cutAt 47 (frest L)).2.2 then (cutAt 47 (frest L)).2.1 else [49]
def fq (L : List UInt8) : Rat := rv (fneg L) (dval 0 (fnum L)) (dval 0 (fden L))
def fok (L : List UInt8) : Bool := numeral (fnum L) && numeral (fden L) && (fracText (fq L) == L)
theorem not_dig {c : UInt8} (h : isDig c = false) (n : Nat) : c ∉ Lib.decDigits n := fun m => by
  have := List.all_eq_true.1 (dec_all n) c m
  rw [h] at this; cases this
theorem dec_cons (n : Nat) : ∃ b l, Lib.decDigits n = b :: l ∧ isDig b = true := by
  cases h : Lib.decDigits n with
  | nil => have := dec_len_pos n; rw [h] at this; simp at this
  | cons b l => exact ⟨b, l, rfl, List.all_eq_true.1 (dec_all n) b (by rw [h]; exact List.mem_cons_self)⟩
theorem text_rest (q : Rat) : fneg (fracText q) = sg q ∧ frest (fracText q) = Lib.decDigits (nu q) ++ (if q.den = 1 then [] else 47 :: Lib.decDigits q.den) := by
  obtain ⟨b, l, e, hb⟩ := dec_cons (nu q)
  have hb45 : b ≠ 45 := fun h => by rw [h] at hb; revert hb; decide
  cases hs : sg q
  · have h1 : fneg (fracText q) = false := by
      rw [fneg, fracText, hs, e]
      simp [hb45]
    refine ⟨h1, ?_⟩
    rw [frest, h1, fracText, hs]; simp
  · have h1 : fneg (fracText q) = true := by
      rw [fneg, fracText, hs]; simp
    refine ⟨h1, ?_⟩
    rw [frest, h1, fracText, hs]; simp
theorem text_parts (q : Rat) : fnum (fracText q) = Lib.decDigits (nu q) ∧ fden (fracText q) = Lib.decDigits q.den := by
  obtain ⟨_, h⟩ := text_rest q
  rw [fnum, fden, h]
  by_cases h1 : q.den = 1
  · rw [if_pos h1, List.append_nil, cutAt_none (not_dig (by decide) _), h1]
    have h49 : Lib.decDigits 1 = [49] := by decide +kernel
    rw [h49]
    exact ⟨rfl, rfl⟩
  · rw [if_neg h1, cutAt_some (not_dig (by decide) _)]
    exact ⟨rfl, rfl⟩
theorem fq_text (q : Rat) : fq (fracText q) = q := by
  obtain ⟨h1, h2⟩ := text_parts q
  rw [fq, h1, h2, (text_rest q).1, dval_dec, dval_dec, rv_self]
theorem fok_text (q : Rat) : fok (fracText q) = true := by
  obtain ⟨h1, h2⟩ := text_parts q
  rw [fok, h1, h2, numeral_dec, numeral_dec, fq_text]
  simp
theorem text_inj {p q : Rat} : fracText p = fracText q ↔ p = q :=
  ⟨fun h => by rw [← fq_text p, h, fq_text], fun h => by rw [h]⟩
theorem fok_num {L : List UInt8} (h : fok L = true) : numeral (fnum L) = true ∧ numeral (fden L) = true ∧ fracText (fq L) = L := by
  rw [fok, Bool.and_eq_true, Bool.and_eq_true, beq_iff_eq] at h
  exact ⟨h.1.1, h.1.2, h.2⟩
theorem fok_den {L : List UInt8} (h : fok L = true) : 0 < dval 0 (fden L) := by
  obtain ⟨h1, h2, h3⟩ := fok_num h
  rcases Nat.eq_zero_or_pos (dval 0 (fden L)) with h0 | h0
  · exfalso
    have hz : fq L = 0 := by rw [fq, h0, rv_den0]
    have hL : L = [48] := by rw [← h3, hz]; decide +kernel
    rw [hL] at h0
    revert h0; decide +kernel
  · exact h0
theorem cut_len {c : UInt8} : ∀ l : List UInt8, (cutAt c l).1.length ≤ l.length ∧ (cutAt c l).2.1.length ≤ l.length
  | [] => ⟨Nat.le_refl _, Nat.le_refl _⟩
  | b :: l => by
    have ih := cut_len (c := c) l
    rw [cutAt]
    split
    · exact ⟨by simp, by simp⟩
    · exact ⟨by simp; exact ih.1, by simp; omega⟩
theorem fnum_len (L : List UInt8) : (fnum L).length ≤ L.length := by
  refine Nat.le_trans (cut_len _).1 ?_
  rw [frest]; split
  · simp
  · exact Nat.le_refl _
theorem fden_len (L : List UInt8) : (fden L).length ≤ L.length + 1 := by
  have h1 : (frest L).length ≤ L.length := by
    rw [frest]; split
    · simp
    · exact Nat.le_refl _
  rw [fden]; split
  · exact Nat.le_trans (cut_len (frest L)).2 (by omega)
  · simp
end Go.Proofs.YtajddhkepbnilaaGreatDoor
