/- Plain: sorting by exchanges of neighbours. No program. -/
import Derived.Test.YtolkijelldlmeaaGreatDoorWMath
namespace Go.Proofs.YtolkijelldlmeaaGreatDoor

def exch (o : List Int) (k : Nat) : List Int := (o.set k (at0 o (k - 1))).set (k - 1) (at0 o k)
theorem exch_len (o : List Int) (k : Nat) : (exch o k).length = o.length := by rw [exch, List.length_set, List.length_set]
theorem exch_perm {o : List Int} {k : Nat} (h0 : 0 < k) (h : k < o.length) : (exch o k).Perm o := by
  have e1 : at0 o (k - 1) = o[k - 1] := by rw [at0, List.getElem?_eq_getElem (by omega)]; rfl
  have e2 : at0 o k = o[k] := by rw [at0, List.getElem?_eq_getElem h]; rfl
  rw [exch, e1, e2]
  exact List.set_set_perm h (by omega)
theorem exch_at {o : List Int} {k j : Nat} (h0 : 0 < k) (h : k < o.length) : at0 (exch o k) j = if j = k - 1 then at0 o k else if j = k then at0 o (k - 1) else at0 o j := by
  by_cases h1 : j = k - 1
  · rw [if_pos h1, h1, at0, exch, List.getElem?_set_self (by rw [List.length_set]; omega)]; rfl
  · rw [if_neg h1]
    by_cases h2 : j = k
    · rw [if_pos h2, h2, at0, exch, List.getElem?_set_ne (by omega), List.getElem?_set_self h]; rfl
    · rw [if_neg h2, at0, exch, List.getElem?_set_ne (by omega), List.getElem?_set_ne (by omega)]; rfl
/-- the first i are in order -/
def Upto (o : List Int) (i : Nat) : Prop := ∀ a b, a < b → b < i → at0 o a ≤ at0 o b
/-- the first i + 1 are in order but for what stands at k -/
def Ins (o : List Int) (i k : Nat) : Prop := ∀ a b, a < b → b ≤ i → b ≠ k → at0 o a ≤ at0 o b
theorem Upto.one (o : List Int) : Upto o 1 := fun a b h1 h2 => by omega
theorem Upto.start {o : List Int} {i : Nat} (h : Upto o i) : Ins o i i := fun a b h1 h2 h3 => h a b h1 (by omega)
theorem Ins.zero {o : List Int} {i : Nat} (h : Ins o i 0) : Upto o (i + 1) := fun a b h1 h2 => h a b h1 (by omega) (by omega)
theorem Ins.stop {o : List Int} {i k : Nat} (h : Ins o i k) (h0 : 0 < k) (hle : ¬ at0 o k < at0 o (k - 1)) (hk : k ≤ i) : Upto o (i + 1) := fun a b h1 h2 => by
  by_cases hb : b = k
  · subst hb
    by_cases ha : a = b - 1
    · subst ha; omega
    · have := h a (b - 1) (by omega) (by omega) (by omega); omega
  · exact h a b h1 (by omega) hb
theorem Ins.step {o : List Int} {i k : Nat} (h : Ins o i k) (h0 : 0 < k) (hk : k < o.length) (hki : k ≤ i) (hlt : at0 o k < at0 o (k - 1)) : Ins (exch o k) i (k - 1) := fun a b h1 h2 h3 => by
  rw [exch_at h0 hk, exch_at h0 hk, if_neg h3]
  by_cases hb : b = k
  · rw [if_pos hb]
    by_cases ha : a = k - 1
    · rw [if_pos ha]; omega
    · rw [if_neg ha, if_neg (by omega)]; exact h a (k - 1) (by omega) (by omega) (by omega)
  · rw [if_neg hb]
    by_cases ha : a = k - 1
    · rw [if_pos ha]; exact h k b (by omega) h2 hb
    · rw [if_neg ha]
      by_cases ha2 : a = k
      · rw [if_pos ha2]; exact h (k - 1) b (by omega) h2 hb
      · rw [if_neg ha2]; exact h a b h1 h2 hb
theorem Upto.done {o l : List Int} (hp : o.Perm l) (h : Upto o l.length) : o = srt l := by
  refine srt_unique hp (List.pairwise_iff_getElem.2 fun i j hi hj hij => ?_)
  have := h i j hij (by rw [← hp.length_eq]; exact hj)
  rwa [at0, at0, List.getElem?_eq_getElem hi, List.getElem?_eq_getElem hj] at this
end Go.Proofs.YtolkijelldlmeaaGreatDoor
