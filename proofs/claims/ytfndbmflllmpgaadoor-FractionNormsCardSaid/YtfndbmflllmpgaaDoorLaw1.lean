/- The statements' own helpers: coinagebase.Natural, coinagebase.Fraction, few. -/
import Derived.Test.YtfndbmflllmpgaaDoorFrac8
namespace Go.Proofs.YtfndbmflllmpgaaDoor
open Go.RowKit Go.Proofs Go

theorem ext_eq {l r : List Nat} (hl : l.length = r.length) (h : ∀ j, j < l.length → at_ l j = at_ r j) : l = r := ext_at hl h

set_option maxHeartbeats 400000 in
set_option maxRecDepth 100000 in
theorem bnat_any (A B : Option Addr) (n m c d : Nat) (l r : List Nat) (w : World) (HA : Lim w A c l) (HB : Lim w B d r) (hn : n = l.length) (hm : m = r.length) (hl : n ≤ 1099511627776) (hl2 : m ≤ 1099511627776) :
    Calls Tryd.prog 50 #[.agg #[.slice A n c], .agg #[.slice B m d]] w fun e w' => e = .returned (.bool (decide (l = r))) ∧ Below w.heap.size w w' := by
  subst hn hm
  have HX := Bx.two w #[.slice A l.length c] #[.slice B r.length d] 24 24
  by_cases hlen : l.length = r.length
  · have hne : ((l.length : Int) != (r.length : Int)) = false := by rw [hlen]; simp
    have HLEN := Lib.hid hlen
    clear hlen
    go_enter Tryd.func50, Tryd.ntmps50
    go_wp2_with fail
    obtain ⟨W, hW⟩ : ∃ W, W = (w.alloc (.cells #[.slice A l.length c] 24)).alloc (.cells #[.slice B r.length d] 24) := ⟨_, rfl⟩
    rw [← hW] at HX
    rw [← hW]
    clear hW
    have HA := HA.ext HX.below
    have HB := HB.ext HX.below
    have hc0 := HX.cell0 0 rfl rfl
    have hc1 := HX.cell 1 0 rfl rfl
    go_loopw [5] (fun i wr => ∃ k q : Nat, k ≤ l.length ∧ i = .int .i64 (k : Int) ∧ (∀ j, j < k → at_ l j = at_ r j) ∧ wr = W.drewN q) (fun i _ => (l.length - intOf i).toNat)
    case atStart => exact ⟨0, 0, Nat.zero_le _, rfl, fun j hj => absurd hj (by omega), rfl⟩
    case round =>
      obtain ⟨k, q, hk, rfl, he, rfl⟩ := hrel
      have HE := Lib.hid he
      clear he
      by_cases hk0 : k < l.length
      · obtain ⟨ad, rfl, _, ha⟩ := HA.cellAt (j := k) (by omega)
        obtain ⟨bd, rfl, _, hb⟩ := HB.cellAt (j := k) (by have := HLEN.out; omega)
        have h1 : (k : Int) < l.length := by omega
        have h2 : (k : Int) < r.length := by have := HLEN.out; omega
        by_cases hat : at_ l k = at_ r k
        · have hb1 : (((at_ l k : Nat) : Int) != ((at_ r k : Nat) : Int)) = false := by rw [hat]; simp
          have HAT := Lib.hid hat
          clear hat
          go_wp2
          go_quiet (fail)
          go_wp2
          go_roundw
          case rel => exact ⟨k + 1, _, by omega, by go_num, fun j hj => if e : j = k then e ▸ HAT.out else HE.out j (by omega), rfl⟩
          case measure => simp [intOf]; omega
        · have hb1 : (((at_ l k : Nat) : Int) != ((at_ r k : Nat) : Int)) = true := by rw [bne_iff_ne]; omega
          have hfin := Lib.hid (decide_eq_false (fun e : l = r => hat (by rw [e])))
          clear hat
          go_wp2
          go_quiet (fail)
          go_wp2
          go_ret
          exact ⟨by rw [hfin.out]; rfl, by first | exact drew_below HX.below _ | exact drew_below (drew_below HX.below _) _⟩
      · have hfin := Lib.hid (decide_eq_true (ext_at HLEN.out fun j hj => HE.out j (by omega)))
        go_wp2
        go_ret
        exact ⟨by rw [hfin.out]; rfl, by first | exact drew_below HX.below _ | exact drew_below (drew_below HX.below _) _⟩
  · have hne : ((l.length : Int) != (r.length : Int)) = true := by rw [bne_iff_ne]; omega
    have hfin := Lib.hid (decide_eq_false (fun e : l = r => hlen (by rw [e])))
    clear hlen
    go_enter Tryd.func50, Tryd.ntmps50
    go_wp2
    go_ret
    exact ⟨by rw [hfin.out]; rfl, HX.below⟩

set_option maxHeartbeats 800000 in
set_option maxRecDepth 100000 in
/-- two fractions are the same, limb by limb -/
theorem bfrac_any {s t : Bool} {A B A' B' : Option Addr} {n c m d n' c' m' d' : Nat} {l r l' r' : List Nat} (w : World) (HA : Lim w A c l) (HB : Lim w B d r) (HA' : Lim w A' c' l') (HB' : Lim w B' d' r') (hn : n = l.length) (hm : m = r.length) (hn' : n' = l'.length) (hm' : m' = r'.length)
    (h1 : n ≤ 1099511627776) (h2 : m ≤ 1099511627776) (h3 : n' ≤ 1099511627776) (h4 : m' ≤ 1099511627776) :
    Calls Tryd.prog 14 #[.agg #[.bool s, .slice A n c, .slice B m d], .agg #[.bool t, .slice A' n' c', .slice B' m' d']] w fun e w' => e = .returned (.bool (decide (s = t ∧ l = l' ∧ r = r'))) ∧ Below w.heap.size w w' := by
  have HN := Lib.hid hn
  have HM := Lib.hid hm
  have HN' := Lib.hid hn'
  have HM' := Lib.hid hm'
  clear hn hm hn' hm'
  by_cases hst : s = t
  · have hb : (s == t) = true := by simp [hst]
    by_cases hll : l = l'
    · have hd1 := decide_eq_true hll
      by_cases hrr : r = r'
      · have hd2 := decide_eq_true hrr
        have hfin := Lib.hid (decide_eq_true (And.intro hst (And.intro hll hrr)))
        clear hst hll hrr
        go_enter Tryd.func14, Tryd.ntmps14
        go_wp2_with fail
        have HX := Bx.two w #[.bool s, .slice A n c, .slice B m d] #[.bool t, .slice A' n' c', .slice B' m' d'] 26 26
        refine (bnat_any A A' n n' c c' l l' _ (HA.ext HX.below) (HA'.ext HX.below) HN.out HN'.out h1 h3).mono ?_
        rintro e w1 ⟨rfl, hb1⟩
        rw [hd1]
        have HX := HX.ext hb1
        have hc02 := HX.cell0 2 rfl rfl
        have hc12 := HX.cell 1 2 rfl rfl
        go_wp2_with fail
        refine (bnat_any B B' m m' d d' r r' _ (HB.ext HX.below) (HB'.ext HX.below) HM.out HM'.out h2 h4).mono ?_
        rintro e w2 ⟨rfl, hb2⟩
        rw [hd2]
        have HX := HX.ext hb2
        go_wp2
        go_ret
        exact ⟨by rw [hfin.out]; rfl, HX.below⟩
      · have hd2 := decide_eq_false hrr
        have hfin := Lib.hid (decide_eq_false (fun h : s = t ∧ l = l' ∧ r = r' => hrr h.2.2))
        clear hst hll hrr
        go_enter Tryd.func14, Tryd.ntmps14
        go_wp2_with fail
        have HX := Bx.two w #[.bool s, .slice A n c, .slice B m d] #[.bool t, .slice A' n' c', .slice B' m' d'] 26 26
        refine (bnat_any A A' n n' c c' l l' _ (HA.ext HX.below) (HA'.ext HX.below) HN.out HN'.out h1 h3).mono ?_
        rintro e w1 ⟨rfl, hb1⟩
        rw [hd1]
        have HX := HX.ext hb1
        have hc02 := HX.cell0 2 rfl rfl
        have hc12 := HX.cell 1 2 rfl rfl
        go_wp2_with fail
        refine (bnat_any B B' m m' d d' r r' _ (HB.ext HX.below) (HB'.ext HX.below) HM.out HM'.out h2 h4).mono ?_
        rintro e w2 ⟨rfl, hb2⟩
        rw [hd2]
        have HX := HX.ext hb2
        go_wp2
        go_ret
        exact ⟨by rw [hfin.out]; rfl, HX.below⟩
    · have hd1 := decide_eq_false hll
      have hfin := Lib.hid (decide_eq_false (fun h : s = t ∧ l = l' ∧ r = r' => hll h.2.1))
      clear hst hll
      go_enter Tryd.func14, Tryd.ntmps14
      go_wp2_with fail
      have HX := Bx.two w #[.bool s, .slice A n c, .slice B m d] #[.bool t, .slice A' n' c', .slice B' m' d'] 26 26
      refine (bnat_any A A' n n' c c' l l' _ (HA.ext HX.below) (HA'.ext HX.below) HN.out HN'.out h1 h3).mono ?_
      rintro e w1 ⟨rfl, hb1⟩
      rw [hd1]
      have HX := HX.ext hb1
      go_wp2
      go_ret
      exact ⟨by rw [hfin.out]; rfl, HX.below⟩
  · have hb : (s == t) = false := by simp [hst]
    have hfin := Lib.hid (decide_eq_false (fun h : s = t ∧ l = l' ∧ r = r' => hst h.1))
    clear hst
    have HX := Bx.two w #[.bool s, .slice A n c, .slice B m d] #[.bool t, .slice A' n' c', .slice B' m' d'] 26 26
    go_enter Tryd.func14, Tryd.ntmps14
    go_wp2
    go_ret
    exact ⟨by rw [hfin.out]; rfl, HX.below⟩
theorem nat_small (x : Nat) (h : x ≤ 1073741824) : x ≤ 1099511627776 := by omega
/-- two canonical fractions are the same just if their numbers are -/
theorem bfrac_q {A B A' B' : Option Addr} {c d c' d' : Nat} {p q : Rat} {k k' : Nat} (w : World) (HA : Lim w A c (dig (nu p))) (HB : Lim w B d (dig p.den)) (HA' : Lim w A' c' (dig (nu q))) (HB' : Lim w B' d' (dig q.den)) (hp : Sz p k) (hq : Sz q k') (hk : k ≤ 1073741824) (hk' : k' ≤ 1073741824) :
    Calls Tryd.prog 14 #[.agg #[.bool (sg p), .slice A (dig (nu p)).length c, .slice B (dig p.den).length d], .agg #[.bool (sg q), .slice A' (dig (nu q)).length c', .slice B' (dig q.den).length d']] w fun e w' => e = .returned (.bool (decide (p = q))) ∧ Below w.heap.size w w' := by
  have e : decide (p = q) = decide (sg p = sg q ∧ dig (nu p) = dig (nu q) ∧ dig p.den = dig q.den) := by
    rw [decide_eq_decide, dig_eq_iff, dig_eq_iff, terms_eq]
  rw [e]
  exact bfrac_any w HA HB HA' HB' rfl rfl rfl rfl (by have := hp.1; omega) (by have := hp.2; omega) (by have := hq.1; omega) (by have := hq.2; omega)
end Go.Proofs.YtfndbmflllmpgaaDoor
