/- The naturals' contracts, second part: digits, texts, machine words, powers, parses; few, same. -/
import Derived.Test.YtjacffmoccpogaaDoorNOps
namespace Go.Proofs.YtjacffmoccpogaaDoor
open Go.RowKit Go.Proofs Go

def powV (p : Nat) (k : Int) : Nat := if 0 ≤ k ∧ k ≤ 256 ∧ Lib.nDigits p * k.toNat ≤ 4000 then p ^ k.toNat else 0
def powE (p : Nat) (k : Int) : Int := if k < 0 ∨ 256 < k then 2 else if 4000 < Lib.nDigits p * k.toNat then 6 else 0
def RetT (w : World) (L : List UInt8) (e : Ending) (w' : World) : Prop := e = .returned (.string (str L)) ∧ Below w.heap.size w w'
def RetIB (w : World) (x : Int) (b : Bool) (e : Ending) (w' : World) : Prop := e = .returned (.tuple #[.int .u64 x, .bool b]) ∧ Below w.heap.size w w'
section
variable {w w' : World} {A B : Option Addr} {n m c d p q u v k k' j i : Nat}
theorem ndigits_h {x : Int} (hu : Hid ((Lib.nDigits p : Int) = x)) (h : Nr w A n c p k) (hk : k ≤ 536870910) (hT : Tab w) :
    Calls Tryd.prog 20 #[.agg #[.slice A n c]] w (RetI w x) := by
  obtain ⟨l, a1, a2, rfl, a4⟩ := h
  exact (ndigits_any A n c l w a1 a2 (by omega) hT).mono fun _ _ h => ⟨by rw [h.1, hu.out], h.2⟩
theorem ntext_h {L : List UInt8} (hu : Hid (Lib.decDigits p = L)) (h : Nr w A n c p k) (hk : k ≤ 536870910) (hT : Tab w) :
    Calls Tryd.prog 15 #[.agg #[.slice A n c]] w (RetT w L) := by
  obtain ⟨l, a1, a2, rfl, a4⟩ := h
  exact (ntext_any A n c l w a1 a2 (by omega) hT).mono fun _ _ h => ⟨by rw [h.1, hu.out], h.2⟩
theorem nsmall_h {x : Int} {b : Bool} (hx : Hid ((smallV p : Int) = x)) (hb : Hid (decide (p < 18446744073709551616) = b)) (h : Nr w A n c p k) (hk : k ≤ 536870910) :
    Calls Tryd.prog 22 #[.agg #[.slice A n c]] w (RetIB w x b) := by
  obtain ⟨l, a1, a2, rfl, a4⟩ := h
  exact (nsmall_any A n c l w a1 a2 (by omega)).mono fun _ _ h => ⟨by rw [h.1, hx.out, hb.out], h.2⟩
theorem npow_h {x r : Int} (hu : Hid (powV p x = u)) (hr : Hid (powE p x = r)) (hs : (dig u).length ≤ j) (h : Nr w A n c p k) (hk : k ≤ 536870910) (hT : Tab w) :
    Calls Tryd.prog 29 #[.agg #[.slice A n c], .int .i64 x] w (RetNcE w u j r) := by
  obtain ⟨l, a1, a2, rfl, a4⟩ := h
  obtain rfl := hr.out
  refine Calls.mono ?_ fun _ _ h => RetNE.toC h hu hs
  by_cases h1 : x < 0 ∨ 256 < x
  · rw [powV, powE, if_pos h1, if_neg (by omega)]
    exact npow_range A n c x w h1
  · obtain ⟨N, rfl⟩ : ∃ N : Nat, x = N := ⟨x.toNat, by omega⟩
    rw [powV, powE, if_neg h1, Int.toNat_natCast]
    by_cases h2 : 4000 < Lib.nDigits (val l) * N
    · rw [if_pos h2, if_neg (by omega)]
      exact npow_full A n c l N w a1 a2 (by omega) hT (by omega) h2
    · rw [if_neg h2, if_pos (by omega)]
      exact npow_any A n c l N w a1 a2 (by omega) hT (by omega) (by omega)
theorem nparse_h {L : List UInt8} {r : Int} (hu : Hid (parseV L = u)) (hr : Hid (parseE L = r)) (hl : Hid (L.length ≤ 9223372036854775807)) (hs : (dig u).length ≤ j) :
    Calls Tryd.prog 16 #[.string (str L)] w (RetNcE w u j r) := by
  obtain rfl := hr.out
  exact (nparse_any L w hl.out).mono fun _ _ h => RetNE.toC h hu hs
theorem rdigits_h {x : Int} (hu : Hid ((Lib.nDigits p : Int) = x)) (h : Nr w A n c p k) (hk : k ≤ 536870910) :
    Calls Tryd.prog 39 #[.agg #[.slice A n c]] w (RetI w x) := by
  obtain ⟨l, a1, a2, rfl, a4⟩ := h
  exact (rdigits_any A n c l w a1 a2 (by omega)).mono fun _ _ h => ⟨by rw [h.1, hu.out], h.2⟩
theorem rtext_h {L : List UInt8} (hu : Hid (Lib.decDigits p = L)) (h : Nr w A n c p k) (hk : k ≤ 536870910) :
    Calls Tryd.prog 17 #[.agg #[.slice A n c]] w (RetT w L) := by
  obtain ⟨l, a1, a2, rfl, a4⟩ := h
  exact (rtext_any A n c l w a1 a2 (by omega)).mono fun _ _ h => ⟨by rw [h.1, hu.out], h.2⟩
theorem rsmall_h {x : Int} {b : Bool} (hx : Hid ((smallV p : Int) = x)) (hb : Hid (decide (p < 18446744073709551616) = b)) (h : Nr w A n c p k) (hk : k ≤ 536870910) :
    Calls Tryd.prog 23 #[.agg #[.slice A n c]] w (RetIB w x b) := by
  obtain ⟨l, a1, a2, rfl, a4⟩ := h
  exact (rsmall_any A n c l w a1 a2 (by omega)).mono fun _ _ h => ⟨by rw [h.1, hx.out, hb.out], h.2⟩
theorem rpow_h {x r : Int} (hu : Hid (powV p x = u)) (hr : Hid (powE p x = r)) (hs : (dig u).length ≤ j) (h : Nr w A n c p k) (hk : k ≤ 536870910) :
    Calls Tryd.prog 30 #[.agg #[.slice A n c], .int .i64 x] w (RetNcE w u j r) := by
  obtain ⟨l, a1, a2, rfl, a4⟩ := h
  obtain rfl := hr.out
  refine Calls.mono ?_ fun _ _ h => RetNE.toC h hu hs
  by_cases h1 : x < 0 ∨ 256 < x
  · rw [powV, powE, if_pos h1, if_neg (by omega)]
    exact rpow_range A n c x w h1
  · obtain ⟨N, rfl⟩ : ∃ N : Nat, x = N := ⟨x.toNat, by omega⟩
    rw [powV, powE, if_neg h1, Int.toNat_natCast]
    by_cases h2 : 4000 < Lib.nDigits (val l) * N
    · rw [if_pos h2, if_neg (by omega)]
      exact rpow_full A n c l N w a1 a2 (by omega) (by omega) h2
    · rw [if_neg h2, if_pos (by omega)]
      exact rpow_any A n c l N w a1 a2 (by omega) (by omega) (by omega)
theorem rparse_h {L : List UInt8} {r : Int} (hu : Hid (parseV L = u)) (hr : Hid (parseE L = r)) (hl : Hid (L.length ≤ 9223372036854775807)) (hs : (dig u).length ≤ j) :
    Calls Tryd.prog 21 #[.string (str L)] w (RetNcE w u j r) := by
  obtain rfl := hr.out
  exact (rparse_any L w hl.out).mono fun _ _ h => RetNE.toC h hu hs
theorem rfew_h {b : Bool} (hb : Hid (fewN n m = b)) (hn : n ≤ 9223372036854775807) (hm : m ≤ 9223372036854775807) :
    Calls Tryd.prog 14 #[.agg #[.slice A n c], .agg #[.slice B m d]] w (RetB w b) := (rfew_any A B n m c d w hn hm).mono fun _ _ h => ⟨by rw [h.1, hb.out], h.2⟩
set_option maxRecDepth 100000 in
theorem same_h {b : Bool} (hb : Hid (decide (p = q) = b)) (h : Nc w A c p k) (h' : Nc w B d q k') (hk : k ≤ 1099511627776) (hk' : k' ≤ 1099511627776) :
    Calls Tryd.prog 18 #[.agg #[.slice A (dig p).length c], .agg #[.slice B (dig q).length d]] w (RetB w b) := by
  have hz1 := h.sz
  have hz2 := h'.sz
  go_enter Tryd.func18, Tryd.ntmps18
  go_wp2_with fail
  have HX := BL.two w #[.slice A (dig p).length c] #[.slice B (dig q).length d] 24 24
  refine (bnat_h hb (h.ext HX.below) (h'.ext HX.below) (by omega) (by omega)).mono ?_
  rintro e w1 ⟨rfl, hb1⟩
  go_wp2
  go_ret
  exact ⟨rfl, (HX.ext hb1).below⟩
end
end Go.Proofs.YtjacffmoccpogaaDoor
