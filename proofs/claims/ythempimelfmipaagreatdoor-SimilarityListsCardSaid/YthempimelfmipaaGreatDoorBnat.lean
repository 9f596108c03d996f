/- coinagebase.Natural: two naturals compared limb by limb. -/
import Derived.Test.YthempimelfmipaaGreatDoorNat9
namespace Go.Proofs.YthempimelfmipaaGreatDoor
open Go.RowKit Go.Proofs Go

def RetI (w : World) (n : Int) (e : Ending) (w' : World) : Prop := e = .returned (.int .i64 n) ∧ Below w.heap.size w w'
def RetB (w : World) (b : Bool) (e : Ending) (w' : World) : Prop := e = .returned (.bool b) ∧ Below w.heap.size w w'
theorem ext_eq {l r : List Nat} (hl : l.length = r.length) (h : ∀ j, j < l.length → at_ l j = at_ r j) : l = r := ext_at hl h

set_option maxHeartbeats 400000 in
set_option maxRecDepth 100000 in
theorem bnat_any (A B : Option Addr) (n m c d : Nat) (l r : List Nat) (w : World) (HA : Lim w A c l) (HB : Lim w B d r) (hn : n = l.length) (hm : m = r.length) (hl : n ≤ 1099511627776) (hl2 : m ≤ 1099511627776) :
    Calls Tryz.prog 42 #[.agg #[.slice A n c], .agg #[.slice B m d]] w fun e w' => e = .returned (.bool (decide (l = r))) ∧ Below w.heap.size w w' := by
  subst hn hm
  have HX := Bx.two w #[.slice A l.length c] #[.slice B r.length d] 31 31
  by_cases hlen : l.length = r.length
  · have hne : ((l.length : Int) != (r.length : Int)) = false := by rw [hlen]; simp
    have HLEN := Lib.hid hlen
    clear hlen
    go_enter Tryz.func42, Tryz.ntmps42
    go_wp2_with fail
    obtain ⟨W, hW⟩ : ∃ W, W = (w.alloc (.cells #[.slice A l.length c] 31)).alloc (.cells #[.slice B r.length d] 31) := ⟨_, rfl⟩
    rw [← hW] at HX
    rw [← hW]
    clear hW
    have HA := HA.ext HX.below
    have HB := HB.ext HX.below
    have hc0 := HX.cell0 0 rfl rfl
    have hc1 := HX.cell 1 0 rfl rfl
    go_loopw [5] (fun i wr => ∃ k q : Nat, k ≤ l.length ∧ i = .int .i64 (k : Int) ∧ (∀ j, j < k → at_ l j = at_ r j) ∧ wr = W.drewN q) (fun i _ => (l.length - intOf i).toNat)
    case atStart => exact ⟨0, 0, Nat.zero_le _, rfl, fun j hj => absurd hj (by omega), rfl⟩
    case round =>
      obtain ⟨k, q, hk, rfl, he, rfl⟩ := hrel
      have HE := Lib.hid he
      clear he
      by_cases hk0 : k < l.length
      · obtain ⟨ad, rfl, _, ha⟩ := HA.cellAt (j := k) (by omega)
        obtain ⟨bd, rfl, _, hb⟩ := HB.cellAt (j := k) (by have := HLEN.out; omega)
        have h1 : (k : Int) < l.length := by omega
        have h2 : (k : Int) < r.length := by have := HLEN.out; omega
        by_cases hat : at_ l k = at_ r k
        · have hb1 : (((at_ l k : Nat) : Int) != ((at_ r k : Nat) : Int)) = false := by rw [hat]; simp
          have HAT := Lib.hid hat
          clear hat
          go_wp2
          go_quiet (fail)
          go_wp2
          go_roundw
          case rel => exact ⟨k + 1, _, by omega, by go_num, fun j hj => if e : j = k then e ▸ HAT.out else HE.out j (by omega), rfl⟩
          case measure => simp [intOf]; omega
        · have hb1 : (((at_ l k : Nat) : Int) != ((at_ r k : Nat) : Int)) = true := by rw [bne_iff_ne]; omega
          have hfin := Lib.hid (decide_eq_false (fun e : l = r => hat (by rw [e])))
          clear hat
          go_wp2
          go_quiet (fail)
          go_wp2
          go_ret
          exact ⟨by rw [hfin.out]; rfl, by first | exact drew_below HX.below _ | exact drew_below (drew_below HX.below _) _⟩
      · have hfin := Lib.hid (decide_eq_true (ext_at HLEN.out fun j hj => HE.out j (by omega)))
        go_wp2
        go_ret
        exact ⟨by rw [hfin.out]; rfl, by first | exact drew_below HX.below _ | exact drew_below (drew_below HX.below _) _⟩
  · have hne : ((l.length : Int) != (r.length : Int)) = true := by rw [bne_iff_ne]; omega
    have hfin := Lib.hid (decide_eq_false (fun e : l = r => hlen (by rw [e])))
    clear hlen
    go_enter Tryz.func42, Tryz.ntmps42
    go_wp2
    go_ret
    exact ⟨by rw [hfin.out]; rfl, HX.below⟩
end Go.Proofs.YthempimelfmipaaGreatDoor
