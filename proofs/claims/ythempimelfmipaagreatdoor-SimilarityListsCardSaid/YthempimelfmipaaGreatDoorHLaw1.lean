/- The statements' own helpers: coinagebase.Fraction. -/
import Derived.Test.YthempimelfmipaaGreatDoorFrac7
import Derived.Test.YthempimelfmipaaGreatDoorBnat
namespace Go.Proofs.YthempimelfmipaaGreatDoor
open Go.RowKit Go.Proofs Go

set_option maxHeartbeats 800000 in
set_option maxRecDepth 100000 in
/-- two fractions are the same, limb by limb -/
theorem bfrac_any {s t : Bool} {A B A' B' : Option Addr} {n c m d n' c' m' d' : Nat} {l r l' r' : List Nat} (w : World) (HA : Lim w A c l) (HB : Lim w B d r) (HA' : Lim w A' c' l') (HB' : Lim w B' d' r') (hn : n = l.length) (hm : m = r.length) (hn' : n' = l'.length) (hm' : m' = r'.length)
    (h1 : n ≤ 1099511627776) (h2 : m ≤ 1099511627776) (h3 : n' ≤ 1099511627776) (h4 : m' ≤ 1099511627776) :
    Calls Tryz.prog 14 #[.agg #[.bool s, .slice A n c, .slice B m d], .agg #[.bool t, .slice A' n' c', .slice B' m' d']] w fun e w' => e = .returned (.bool (decide (s = t ∧ l = l' ∧ r = r'))) ∧ Below w.heap.size w w' := by
  have HN := Lib.hid hn
  have HM := Lib.hid hm
  have HN' := Lib.hid hn'
  have HM' := Lib.hid hm'
  clear hn hm hn' hm'
  by_cases hst : s = t
  · have hb : (s == t) = true := by simp [hst]
    by_cases hll : l = l'
    · have hd1 := decide_eq_true hll
      by_cases hrr : r = r'
      · have hd2 := decide_eq_true hrr
        have hfin := Lib.hid (decide_eq_true (And.intro hst (And.intro hll hrr)))
        clear hst hll hrr
        go_enter Tryz.func14, Tryz.ntmps14
        go_wp2_with fail
        have HX := Bx.two w #[.bool s, .slice A n c, .slice B m d] #[.bool t, .slice A' n' c', .slice B' m' d'] 33 33
        refine (bnat_any A A' n n' c c' l l' _ (HA.ext HX.below) (HA'.ext HX.below) HN.out HN'.out h1 h3).mono ?_
        rintro e w1 ⟨rfl, hb1⟩
        rw [hd1]
        have HX := HX.ext hb1
        have hc02 := HX.cell0 2 rfl rfl
        have hc12 := HX.cell 1 2 rfl rfl
        go_wp2_with fail
        refine (bnat_any B B' m m' d d' r r' _ (HB.ext HX.below) (HB'.ext HX.below) HM.out HM'.out h2 h4).mono ?_
        rintro e w2 ⟨rfl, hb2⟩
        rw [hd2]
        have HX := HX.ext hb2
        go_wp2
        go_ret
        exact ⟨by rw [hfin.out]; rfl, HX.below⟩
      · have hd2 := decide_eq_false hrr
        have hfin := Lib.hid (decide_eq_false (fun h : s = t ∧ l = l' ∧ r = r' => hrr h.2.2))
        clear hst hll hrr
        go_enter Tryz.func14, Tryz.ntmps14
        go_wp2_with fail
        have HX := Bx.two w #[.bool s, .slice A n c, .slice B m d] #[.bool t, .slice A' n' c', .slice B' m' d'] 33 33
        refine (bnat_any A A' n n' c c' l l' _ (HA.ext HX.below) (HA'.ext HX.below) HN.out HN'.out h1 h3).mono ?_
        rintro e w1 ⟨rfl, hb1⟩
        rw [hd1]
        have HX := HX.ext hb1
        have hc02 := HX.cell0 2 rfl rfl
        have hc12 := HX.cell 1 2 rfl rfl
        go_wp2_with fail
        refine (bnat_any B B' m m' d d' r r' _ (HB.ext HX.below) (HB'.ext HX.below) HM.out HM'.out h2 h4).mono ?_
        rintro e w2 ⟨rfl, hb2⟩
        rw [hd2]
        have HX := HX.ext hb2
        go_wp2
        go_ret
        exact ⟨by rw [hfin.out]; rfl, HX.below⟩
    · have hd1 := decide_eq_false hll
      have hfin := Lib.hid (decide_eq_false (fun h : s = t ∧ l = l' ∧ r = r' => hll h.2.1))
      clear hst hll
      go_enter Tryz.func14, Tryz.ntmps14
      go_wp2_with fail
      have HX := Bx.two w #[.bool s, .slice A n c, .slice B m d] #[.bool t, .slice A' n' c', .slice B' m' d'] 33 33
      refine (bnat_any A A' n n' c c' l l' _ (HA.ext HX.below) (HA'.ext HX.below) HN.out HN'.out h1 h3).mono ?_
      rintro e w1 ⟨rfl, hb1⟩
      rw [hd1]
      have HX := HX.ext hb1
      go_wp2
      go_ret
      exact ⟨by rw [hfin.out]; rfl, HX.below⟩
  · have hb : (s == t) = false := by simp [hst]
    have hfin := Lib.hid (decide_eq_false (fun h : s = t ∧ l = l' ∧ r = r' => hst h.1))
    clear hst
    have HX := Bx.two w #[.bool s, .slice A n c, .slice B m d] #[.bool t, .slice A' n' c', .slice B' m' d'] 33 33
    go_enter Tryz.func14, Tryz.ntmps14
    go_wp2
    go_ret
    exact ⟨by rw [hfin.out]; rfl, HX.below⟩
theorem nat_small (x : Nat) (h : x ≤ 1073741824) : x ≤ 1099511627776 := by omega
/-- two canonical fractions are the same just if their numbers are -/
theorem bfrac_q {A B A' B' : Option Addr} {c d c' d' : Nat} {p q : Rat} {k k' : Nat} (w : World) (HA : Lim w A c (dig (nu p))) (HB : Lim w B d (dig p.den)) (HA' : Lim w A' c' (dig (nu q))) (HB' : Lim w B' d' (dig q.den)) (hp : Sz p k) (hq : Sz q k') (hk : k ≤ 1073741824) (hk' : k' ≤ 1073741824) :
    Calls Tryz.prog 14 #[.agg #[.bool (sg p), .slice A (dig (nu p)).length c, .slice B (dig p.den).length d], .agg #[.bool (sg q), .slice A' (dig (nu q)).length c', .slice B' (dig q.den).length d']] w fun e w' => e = .returned (.bool (decide (p = q))) ∧ Below w.heap.size w w' := by
  have e : decide (p = q) = decide (sg p = sg q ∧ dig (nu p) = dig (nu q) ∧ dig p.den = dig q.den) := by
    rw [decide_eq_decide, dig_eq_iff, dig_eq_iff, terms_eq]
  rw [e]
  exact bfrac_any w HA HB HA' HB' rfl rfl rfl rfl (by have := hp.1; omega) (by have := hp.2; omega) (by have := hq.1; omega) (by have := hq.2; omega)
end Go.Proofs.YthempimelfmipaaGreatDoor
