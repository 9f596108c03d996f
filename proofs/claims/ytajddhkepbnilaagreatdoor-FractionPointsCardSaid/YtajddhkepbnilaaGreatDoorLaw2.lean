/- few: lists of fractions. -/
import Derived.Test.YtajddhkepbnilaaGreatDoorLaw1
namespace Go.Proofs.YtajddhkepbnilaaGreatDoor
open Go.RowKit Go.Proofs Go

/-- a fraction's value, as three cells -/
structure FE where
  s : Bool
  A : Option Addr
  n : Nat
  c : Nat
  B : Option Addr
  m : Nat
  d : Nat
def FE.val (x : FE) : Value := .agg #[.bool x.s, .slice x.A x.n x.c, .slice x.B x.m x.d]
def fewB (fs : List FE) : Bool := fs.all (fun x => decide (x.n ≤ 6) && decide (x.m ≤ 6)) && decide (fs.length ≤ 20)
/-- a slice of fractions -/
def FS (w : World) (A : Option Addr) (fs : List FE) : Prop :=
  0 < fs.length → ∃ ad, A = some ad ∧ ad.block < w.heap.size ∧ ∀ i x, fs[i]? = some x → w.cell? (ad.add (i * 3)) = some (.bool x.s) ∧ w.cell? ⟨(ad.add (i * 3)).block, (ad.add (i * 3)).off + 1, none⟩ = some (.slice x.A x.n x.c) ∧ w.cell? ⟨(ad.add (i * 3)).block, (ad.add (i * 3)).off + 2, none⟩ = some (.slice x.B x.m x.d)
theorem all_take {fs : List FE} {p : FE → Bool} {k : Nat} {x : FE} (h : (fs.take k).all p = true) (hx : fs[k]? = some x) (hp : p x = true) : (fs.take (k + 1)).all p = true := by
  obtain ⟨hk, rfl⟩ := List.getElem?_eq_some_iff.1 hx
  rw [List.take_succ_eq_append_getElem hk, List.all_append, h]
  simp [hp]
theorem all_not {fs : List FE} {p : FE → Bool} {k : Nat} {x : FE} (hx : fs[k]? = some x) (hp : p x = false) : fs.all p = false := by
  rw [← Bool.not_eq_true]
  intro h
  have := List.all_eq_true.1 h x (List.mem_of_getElem? hx)
  rw [hp] at this; cases this

set_option maxHeartbeats 400000 in
set_option maxRecDepth 100000 in
theorem few_any (A : Option Addr) (n c : Nat) (fs : List FE) (w : World) (H : FS w A fs) (hn : n = fs.length) (hl : n ≤ 9223372036854775807) (hlen : ∀ x ∈ fs, x.n ≤ 9223372036854775807 ∧ x.m ≤ 9223372036854775807) :
    Calls Tryz.prog 14 #[.slice A n c] w fun e w' => e = .returned (.bool (fewB fs)) ∧ w = w' := by
  subst hn
  have HL := Lib.hid hlen
  clear hlen
  go_enter Tryz.func14, Tryz.ntmps14
  go_wp2
  go_loop [3] (fun i => ∃ k : Nat, k ≤ fs.length ∧ i = .int .i64 (k : Int) ∧ (fs.take k).all (fun x => decide (x.n ≤ 6) && decide (x.m ≤ 6)) = true) (fun i => (fs.length - intOf i).toNat)
  case atStart => exact ⟨0, Nat.zero_le _, rfl, rfl⟩
  case round =>
    obtain ⟨k, hk, rfl, he⟩ := hrel
    have HE := Lib.hid he
    clear he
    by_cases hk0 : k < fs.length
    · obtain ⟨ad, rfl, hb, hc⟩ := H (by omega)
      obtain ⟨hc0, hc1, hc2⟩ := hc k _ (List.getElem?_eq_getElem hk0)
      have hx := Lib.hid (List.getElem?_eq_getElem hk0)
      have hbd := HL.out _ (List.getElem_mem hk0)
      clear hc
      generalize fs[k] = x at *
      obtain ⟨hb1, hb2⟩ := hbd
      by_cases h1 : x.n ≤ 6
      · have t1 : decide ((6 : Int) < (x.n : Int)) = false := decide_eq_false (by omega)
        by_cases h2 : x.m ≤ 6
        · have t2 : decide ((6 : Int) < (x.m : Int)) = false := decide_eq_false (by omega)
          have hp := Lib.hid (show (decide (x.n ≤ 6) && decide (x.m ≤ 6)) = true by simp [h1, h2])
          go_wp2
          go_round
          case rel => exact ⟨k + 1, by omega, by go_num, all_take HE.out hx.out hp.out⟩
          case measure => simp [intOf]; omega
        · have hp := Lib.hid (show (decide (x.n ≤ 6) && decide (x.m ≤ 6)) = false by simp [h2])
          have hfin := Lib.hid (show fewB fs = false by rw [fewB, all_not hx.out hp.out]; rfl)
          have t2 : decide ((6 : Int) < (x.m : Int)) = true := decide_eq_true (by omega)
          go_wp2
          go_ret
          exact ⟨by rw [hfin.out]; rfl, rfl⟩
      · have hp := Lib.hid (show (decide (x.n ≤ 6) && decide (x.m ≤ 6)) = false by simp [h1])
        have hfin := Lib.hid (show fewB fs = false by rw [fewB, all_not hx.out hp.out]; rfl)
        have t1 : decide ((6 : Int) < (x.n : Int)) = true := decide_eq_true (by omega)
        go_wp2
        go_ret
        exact ⟨by rw [hfin.out]; rfl, rfl⟩
    · have hfin := Lib.hid (show fewB fs = decide (fs.length ≤ 20) by rw [fewB, ← List.take_of_length_le (l := fs) (i := k) (by omega), HE.out]; simp)
      go_wp2
      go_ret
      exact ⟨ret_bool (by rw [hfin.out]; exact decide_eq_decide.2 (by omega)), rfl⟩
end Go.Proofs.YtajddhkepbnilaaGreatDoor
