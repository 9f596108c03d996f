/- The number of a type, of all types. -/
import Derived.Test.YthempimelfmipaaGreatDoorHbase
namespace Go.Proofs.YthempimelfmipaaGreatDoor
open Go.RowKit Go.Proofs Go

set_option maxRecDepth 100000 in
theorem value1_any {k v t : Int} {b : Bool} (g : Nat) (w : World) (hg : w.cell? ⟨g, 0, none⟩ = some (.int .i64 t)) (hb : Tells b (k = t)) :
    Calls Tryz.prog 109 #[.agg #[.int .i64 k, .int .i64 v], .pointer (some ⟨g, 0, none⟩)] w (RetB w b) := by
  have hlt := cell_lt hg
  have hne : g ≠ w.heap.size := by have : g < w.heap.size := hlt; omega
  have hg2 : (w.alloc (.cells #[.int .i64 k, .int .i64 v] 46)).cell? ⟨g, 0, none⟩ = some (.int .i64 t) := al_old hg
  have hkt : (k == t) = b := by
    cases b with
    | true => rw [beq_iff_eq]; exact hb.1 rfl
    | false => rw [beq_eq_false_iff_ne]; exact fun h => by have := hb.2 h; cases this
  go_enter Tryz.func109, Tryz.ntmps109
  go_wp2
  go_ret
  exact ⟨by first | rfl | simp, below_alloc _ _⟩
/-- what the look for a type leaves -/
def Found (l : List (Int × Int)) (t r : Int) : Prop := (∃ (k : Nat) (x : Int × Int), r = (k : Int) ∧ l[k]? = some x ∧ valE l t = some x.2) ∨ (r = -1 ∧ valE l t = none)
def RetX (w : World) (l : List (Int × Int)) (t : Int) (e : Ending) (w' : World) : Prop := ∃ r : Int, e = .returned (.int .i64 r) ∧ Found l t r ∧ Below w.heap.size w w'
set_option maxHeartbeats 1000000 in
set_option maxRecDepth 100000 in
theorem index_any {t : Int} (A : Option Addr) (c : Nat) (l : List (Int × Int)) (g : Nat) (w : World) (H : Es w A l) (hl : l.length ≤ 9223372036854775807) (hg : w.cell? ⟨g, 0, none⟩ = some (.int .i64 t)) :
    Calls Tryz.prog 108 #[.slice A l.length c, (Value.func (Fn.func 109) #[] #[.pointer (some ⟨g, 0, none⟩)])] w (RetX w l t) := by
  have hg0 := hg
  clear hg
  go_enter Tryz.func108, Tryz.ntmps108
  go_wp2
  go_loopg [8] l.length (fun k i wr => ∃ j : Nat, j + k = l.length ∧ i = .int .i64 (j : Int) ∧ Hid (∀ i x, i < j → l[i]? = some x → x.1 ≠ t) ∧ Below w.heap.size w wr)
  case atStart => exact ⟨0, by omega, rfl, Lib.hid (fun i x h => absurd h (by omega)), Below.refl _ _⟩
  case round =>
    obtain ⟨j, hj, rfl, hok, hbw⟩ := hrel
    by_cases hj0 : j < l.length
    · have hx := Lib.hid (List.getElem?_eq_getElem hj0)
      obtain ⟨ad, rfl, hbk, c0, c1⟩ := (H.ext hbw).at_ hx.out
      have hgw : wr.cell? ⟨g, 0, none⟩ = some (.int .i64 t) := by rw [hbw.cell (cell_lt hg0)]; exact hg0
      generalize l[j] = x at *
      by_cases hk : x.1 = t
      · have hf := Lib.hid (val_first hx.out hk fun i y hi hy => hok.out i y hi hy)
        have HK := yes hk
        clear hk
        go_wp2_with fail
        refine (value1_any (b := true) g _ hgw HK).mono ?_
        rintro e w2 ⟨rfl, hb2⟩
        go_wp2
        go_ret
        exact ⟨_, rfl, .inl ⟨j, x, rfl, hx.out, hf.out⟩, bel_trans hbw hb2⟩
      · have hnx := Lib.hid (show ∀ i y, i < j + 1 → l[i]? = some y → y.1 ≠ t from fun i y hi hy => by
          by_cases hij : i < j
          · exact hok.out i y hij hy
          · obtain rfl : i = j := by omega
            rw [hx.out] at hy
            obtain rfl := Option.some.inj hy
            exact hk)
        have HK := no hk
        clear hk
        go_wp2_with fail
        refine (value1_any (b := false) g _ hgw HK).mono ?_
        rintro e w2 ⟨rfl, hb2⟩
        go_wp2
        go_roundg (l.length - (j + 1))
        case measure => omega
        case rel => exact ⟨j + 1, by omega, by go_num, hnx, bel_trans hbw hb2⟩
    · have hf := Lib.hid (val_no fun i y hi hy => hok.out i y (by omega) hy)
      go_wp2
      go_ret
      exact ⟨_, rfl, .inr ⟨rfl, hf.out⟩, hbw⟩
set_option maxRecDepth 100000 in
theorem value_some {t v : Int} (A : Option Addr) (c : Nat) (l : List (Int × Int)) (w : World) (H : Es w A l) (hl : l.length ≤ 9223372036854775807) (hv : Hid (valE l t = some v)) :
    Calls Tryz.prog 81 #[.slice A l.length c, .int .i64 t] w fun e w' => e = .returned (.tuple #[.int .i64 v, .bool true]) ∧ Below w.heap.size w w' := by
  have hb1 := below_alloc w (.cells #[.int .i64 t] 3)
  have hg : (w.alloc (.cells #[.int .i64 t] 3)).cell? ⟨w.heap.size, 0, none⟩ = some (.int .i64 t) := al_at rfl _ rfl
  go_enter Tryz.func81, Tryz.ntmps81
  go_wp2_with fail
  refine (index_any A c l _ _ (H.ext hb1) hl hg).mono ?_
  rintro e w2 ⟨r, rfl, hf, hb2⟩
  rcases hf with ⟨k, x, rfl, hx, hv2⟩ | ⟨rfl, hv2⟩
  · rw [hv.out] at hv2
    have hv3 := Lib.hid (Option.some.inj hv2)
    clear hv2
    have hk := (List.getElem?_eq_some_iff.1 hx).1
    obtain ⟨ad, rfl, hbk, c0, c1⟩ := (H.ext (bel_trans hb1 hb2)).at_ hx
    have hx2 := Lib.hid hx
    clear hx c0
    go_wp2
    go_ret2
    exact ⟨by rw [hv3.out]; rfl, bel_trans hb1 hb2⟩
  · rw [hv.out] at hv2; cases hv2
set_option maxRecDepth 100000 in
theorem value_none {t : Int} (A : Option Addr) (c : Nat) (l : List (Int × Int)) (w : World) (H : Es w A l) (hl : l.length ≤ 9223372036854775807) (hv : Hid (valE l t = none)) :
    Calls Tryz.prog 81 #[.slice A l.length c, .int .i64 t] w fun e w' => e = .returned (.tuple #[.int .i64 0, .bool false]) ∧ Below w.heap.size w w' := by
  have hb1 := below_alloc w (.cells #[.int .i64 t] 3)
  have hg : (w.alloc (.cells #[.int .i64 t] 3)).cell? ⟨w.heap.size, 0, none⟩ = some (.int .i64 t) := al_at rfl _ rfl
  go_enter Tryz.func81, Tryz.ntmps81
  go_wp2_with fail
  refine (index_any A c l _ _ (H.ext hb1) hl hg).mono ?_
  rintro e w2 ⟨r, rfl, hf, hb2⟩
  rcases hf with ⟨k, x, rfl, hx, hv2⟩ | ⟨rfl, hv2⟩
  · rw [hv.out] at hv2; cases hv2
  · go_wp2
    go_ret2
    exact ⟨rfl, bel_trans hb1 hb2⟩
/-- the number of a type in a hoard; of all -/
def NumIs (id : Int) (l : List (Int × Int)) (f t s n : Int) : Prop := (HV id l f t → n = numE l s) ∧ (¬ HV id l f t → n = 0)
def TotIs (id : Int) (l : List (Int × Int)) (f t n : Int) : Prop := (HV id l f t → n = totE l) ∧ (¬ HV id l f t → n = 0)
theorem NumIs.ex (id : Int) (l : List (Int × Int)) (f t s : Int) : ∃ n, NumIs id l f t s n := by
  by_cases h : HV id l f t
  · exact ⟨_, fun _ => rfl, fun h2 => absurd h h2⟩
  · exact ⟨_, fun h2 => absurd h2 h, fun _ => rfl⟩
theorem TotIs.ex (id : Int) (l : List (Int × Int)) (f t : Int) : ∃ n, TotIs id l f t n := by
  by_cases h : HV id l f t
  · exact ⟨_, fun _ => rfl, fun h2 => absurd h h2⟩
  · exact ⟨_, fun h2 => absurd h2 h, fun _ => rfl⟩
theorem NumIs.bd {id f t s n : Int} {l : List (Int × Int)} (h : NumIs id l f t s n) : 0 ≤ n ∧ n ≤ 32000 := by
  by_cases hv : HV id l f t
  · have h2 := hv.num l.length s
    rw [List.take_length] at h2
    rw [h.1 hv]; exact h2
  · rw [h.2 hv]; omega
theorem TotIs.bd {id f t n : Int} {l : List (Int × Int)} (h : TotIs id l f t n) : 0 ≤ n ∧ n ≤ 32000 := by
  by_cases hv : HV id l f t
  · have h2 := hv.tot l.length
    rw [List.take_length] at h2
    rw [h.1 hv]; exact h2
  · rw [h.2 hv]; omega
set_option maxRecDepth 100000 in
theorem hnumber_any {id f t s n : Int} (A : Option Addr) (c : Nat) (l : List (Int × Int)) (w : World) (H : Es w A l) (hl : l.length ≤ 9223372036854775807) (hn : NumIs id l f t s n) :
    Calls Tryz.prog 46 #[.agg #[.int .i64 id, .slice A l.length c, .int .i64 f, .int .i64 t], .int .i64 s] w (RetI w n) := by
  by_cases hv : HV id l f t
  · have hn2 := Lib.hid (hn.1 hv)
    have hvn := val_num hv.2.2.1 s
    have HV1 := yes hv
    clear hv hn
    go_enter Tryz.func46, Tryz.ntmps46
    go_wp2_with fail
    have HX := BL.one w #[.int .i64 id, .slice A l.length c, .int .i64 f, .int .i64 t] 26
    replace H := H.ext HX.below
    refine (hvalid_any (b := true) A c l _ H hl HV1).mono ?_
    rintro e w1 ⟨rfl, hb⟩
    replace HX := HX.ext hb
    replace H := H.ext hb
    clear hb
    have hc1 := HX.cell 0 1 rfl rfl
    try simp only [List.getElem_toArray, List.getElem_cons_zero, List.getElem_cons_succ] at hc1
    cases ho : valE l s with
    | none =>
      rw [ho] at hvn
      have hvn := Lib.hid hvn
      have ho := Lib.hid ho
      go_wp2_with fail
      refine (value_none A c l _ H hl ho).mono ?_
      rintro e w2 ⟨rfl, hb⟩
      replace HX := HX.ext hb
      go_wp2
      go_ret
      exact ⟨by rw [hn2.out, ← hvn.out]; rfl, HX.below⟩
    | some v =>
      rw [ho] at hvn
      have hvn := Lib.hid hvn
      have ho := Lib.hid ho
      go_wp2_with fail
      refine (value_some A c l _ H hl ho).mono ?_
      rintro e w2 ⟨rfl, hb⟩
      replace HX := HX.ext hb
      go_wp2
      go_ret
      exact ⟨by rw [hn2.out, ← hvn.out]; rfl, HX.below⟩
  · obtain rfl := hn.2 hv
    have HV1 := no hv
    clear hv hn
    go_enter Tryz.func46, Tryz.ntmps46
    go_wp2_with fail
    have HX := BL.one w #[.int .i64 id, .slice A l.length c, .int .i64 f, .int .i64 t] 26
    replace H := H.ext HX.below
    refine (hvalid_any (b := false) A c l _ H hl HV1).mono ?_
    rintro e w1 ⟨rfl, hb⟩
    replace HX := HX.ext hb
    go_wp2
    go_ret
    exact ⟨rfl, HX.below⟩
set_option maxHeartbeats 1000000 in
set_option maxRecDepth 100000 in
theorem htotal_any {id f t n : Int} (A : Option Addr) (c : Nat) (l : List (Int × Int)) (w : World) (H : Es w A l) (hl : l.length ≤ 9223372036854775807) (hn : TotIs id l f t n) :
    Calls Tryz.prog 47 #[.agg #[.int .i64 id, .slice A l.length c, .int .i64 f, .int .i64 t]] w (RetI w n) := by
  by_cases hv : HV id l f t
  · have hn2 := Lib.hid (hn.1 hv)
    have HV1 := yes hv
    have HV2 := Lib.hid hv
    clear hv hn
    go_enter Tryz.func47, Tryz.ntmps47
    go_wp2_with fail
    have HX := BL.one w #[.int .i64 id, .slice A l.length c, .int .i64 f, .int .i64 t] 26
    replace H := H.ext HX.below
    refine (hvalid_any (b := true) A c l _ H hl HV1).mono ?_
    rintro e w1 ⟨rfl, hb⟩
    replace HX := HX.ext hb
    replace H := H.ext hb
    clear hb
    have hc1 := HX.cell 0 1 rfl rfl
    try simp only [List.getElem_toArray, List.getElem_cons_zero, List.getElem_cons_succ] at hc1
    go_wp2
    go_loopg [3, 12] l.length (fun k u i wr => ∃ j : Nat, j + k = l.length ∧ i = .int .i64 (j : Int) ∧ u = .int .i64 (totE (l.take j)) ∧ Below w1.heap.size w1 wr)
    case atStart => exact ⟨0, by omega, rfl, rfl, Below.refl _ _⟩
    case round =>
      obtain ⟨j, hj, rfl, rfl, hbw⟩ := hrel
      by_cases hj0 : j < l.length
      · have hx := Lib.hid (List.getElem?_eq_getElem hj0)
        obtain ⟨ad, rfl, hbk, c0, c1⟩ := (H.ext hbw).at_ hx.out
        have hsu := Lib.hid (totE_succ hx.out)
        obtain ⟨b1, b2⟩ := HV2.out.tot j
        obtain ⟨b3, b4⟩ := (HV2.out.2.2.1.at_ hx.out).2
        generalize l[j] = x at *
        generalize totE (l.take j) = m at *
        go_wp2
        go_roundg (l.length - (j + 1))
        case measure => omega
        case rel => exact ⟨j + 1, by omega, by go_num, by rw [hsu.out], bel_trans hbw (below_alloc _ _)⟩
      · have hfin := Lib.hid (show l.take j = l from List.take_of_length_le (by omega))
        go_wp2
        go_ret
        exact ⟨by rw [hn2.out, hfin.out]; rfl, (HX.ext hbw).below⟩
  · obtain rfl := hn.2 hv
    have HV1 := no hv
    clear hv hn
    go_enter Tryz.func47, Tryz.ntmps47
    go_wp2_with fail
    have HX := BL.one w #[.int .i64 id, .slice A l.length c, .int .i64 f, .int .i64 t] 26
    replace H := H.ext HX.below
    refine (hvalid_any (b := false) A c l _ H hl HV1).mono ?_
    rintro e w1 ⟨rfl, hb⟩
    replace HX := HX.ext hb
    go_wp2
    go_ret
    exact ⟨rfl, HX.below⟩
set_option maxHeartbeats 1000000 in
set_option maxRecDepth 100000 in
theorem rnumber_any {id f t s n : Int} (A : Option Addr) (c : Nat) (l : List (Int × Int)) (w : World) (H : Es w A l) (hl : l.length ≤ 9223372036854775807) (hn : NumIs id l f t s n) :
    Calls Tryz.prog 96 #[.agg #[.int .i64 id, .slice A l.length c, .int .i64 f, .int .i64 t], .int .i64 s] w (RetI w n) := by
  by_cases hv : HV id l f t
  · have hn2 := Lib.hid (hn.1 hv)
    have HV1 := yes hv
    have HV2 := Lib.hid hv
    clear hv hn
    go_enter Tryz.func96, Tryz.ntmps96
    go_wp2
    have HX0 := BL.one w #[.int .i64 id, .slice A l.length c, .int .i64 f, .int .i64 t] 26
    replace H := H.ext HX0.below
    go_loopg [5, 6] l.length (fun k u i wr => ∃ j : Nat, j + k = l.length ∧ i = .int .i64 (j : Int) ∧ u = .int .i64 (numE (l.take j) s) ∧ Below (w.alloc (.cells #[.int .i64 id, .slice A l.length c, .int .i64 f, .int .i64 t] 26)).heap.size (w.alloc (.cells #[.int .i64 id, .slice A l.length c, .int .i64 f, .int .i64 t] 26)) wr)
    case atStart => exact ⟨0, by omega, rfl, rfl, Below.refl _ _⟩
    case round =>
      obtain ⟨j, hj, rfl, rfl, hbw⟩ := hrel
      have HX := HX0.ext hbw
      have hc0 := HX.cell 0 0 rfl rfl
      have hc1 := HX.cell 0 1 rfl rfl
      have hc2 := HX.cell 0 2 rfl rfl
      have hc3 := HX.cell 0 3 rfl rfl
      try simp only [List.getElem_toArray, List.getElem_cons_zero, List.getElem_cons_succ] at hc0 hc1 hc2 hc3
      by_cases hj0 : j < l.length
      · have hx := Lib.hid (List.getElem?_eq_getElem hj0)
        have hsu := Lib.hid (numE_succ hx.out s)
        obtain ⟨b1, b2⟩ := HV2.out.num j s
        obtain ⟨b3, b4⟩ := (HV2.out.2.2.1.at_ hx.out).2
        generalize l[j] = x at *
        generalize numE (l.take j) s = m at *
        go_wp2_with fail
        refine (bhoard_any (b := true) A c l _ (H.ext hbw) hl HV1).mono ?_
        rintro e w2 ⟨rfl, hb2⟩
        replace HX := HX.ext hb2
        replace hbw := bel_trans hbw hb2
        clear hb2 hc0 hc1 hc2 hc3
        obtain ⟨ad, rfl, hbk, c0, c1⟩ := (H.ext hbw).at_ hx.out
        have hc1 := HX.cell 0 1 rfl rfl
        try simp only [List.getElem_toArray, List.getElem_cons_zero, List.getElem_cons_succ] at hc1
        by_cases hk : x.1 = s
        · have hkb : (x.1 == s) = true := beq_iff_eq.2 hk
          replace hsu := Lib.hid (hsu.out.trans (by rw [if_pos hk]))
          clear hk
          go_wp2
          go_roundg (l.length - (j + 1))
          case measure => omega
          case rel => exact ⟨j + 1, by omega, by go_num, by rw [hsu.out], hbw⟩
        · have hkb : (x.1 == s) = false := beq_eq_false_iff_ne.2 hk
          replace hsu := Lib.hid (hsu.out.trans (by rw [if_neg hk, Int.add_zero]))
          clear hk
          go_wp2
          go_roundg (l.length - (j + 1))
          case measure => omega
          case rel => exact ⟨j + 1, by omega, by go_num, by rw [hsu.out], hbw⟩
      · have hfin := Lib.hid (show l.take j = l from List.take_of_length_le (by omega))
        go_wp2
        go_ret
        exact ⟨by rw [hn2.out, hfin.out]; rfl, HX.below⟩
  · obtain rfl := hn.2 hv
    have HV1 := no hv
    clear hv hn
    have HX := BL.one w #[.int .i64 id, .slice A l.length c, .int .i64 f, .int .i64 t] 26
    replace H := H.ext HX.below
    by_cases hj0 : 0 < l.length
    · go_enter Tryz.func96, Tryz.ntmps96
      go_wp2
      go_loopg [5, 6] 0 (fun k u i wr => u = .int .i64 0 ∧ i = .int .i64 0 ∧ wr = w.alloc (.cells #[.int .i64 id, .slice A l.length c, .int .i64 f, .int .i64 t] 26))
      case atStart => exact ⟨rfl, rfl, rfl⟩
      case round =>
        obtain ⟨rfl, rfl, rfl⟩ := hrel
        go_wp2_with fail
        refine (bhoard_any (b := false) A c l _ H hl HV1).mono ?_
        rintro e w2 ⟨rfl, hb2⟩
        replace HX := HX.ext hb2
        go_wp2
        go_ret
        exact ⟨rfl, HX.below⟩
    · go_enter Tryz.func96, Tryz.ntmps96
      go_wp2
      go_loopg [5, 6] 0 (fun k u i wr => u = .int .i64 0 ∧ i = .int .i64 0 ∧ wr = w.alloc (.cells #[.int .i64 id, .slice A l.length c, .int .i64 f, .int .i64 t] 26))
      case atStart => exact ⟨rfl, rfl, rfl⟩
      case round =>
        obtain ⟨rfl, rfl, rfl⟩ := hrel
        go_wp2
        go_ret
        exact ⟨rfl, HX.below⟩
set_option maxHeartbeats 1000000 in
set_option maxRecDepth 100000 in
theorem rtotal_any {id f t n : Int} (A : Option Addr) (c : Nat) (l : List (Int × Int)) (w : World) (H : Es w A l) (hl : l.length ≤ 9223372036854775807) (hn : TotIs id l f t n) :
    Calls Tryz.prog 97 #[.agg #[.int .i64 id, .slice A l.length c, .int .i64 f, .int .i64 t]] w (RetI w n) := by
  by_cases hv : HV id l f t
  · have hn2 := Lib.hid (hn.1 hv)
    have HV1 := yes hv
    have HV2 := Lib.hid hv
    clear hv hn
    go_enter Tryz.func97, Tryz.ntmps97
    go_wp2
    have HX0 := BL.one w #[.int .i64 id, .slice A l.length c, .int .i64 f, .int .i64 t] 26
    replace H := H.ext HX0.below
    go_loopg [3, 4] l.length (fun k u i wr => ∃ j : Nat, j + k = l.length ∧ i = .int .i64 (j : Int) ∧ u = .int .i64 (totE (l.take j)) ∧ Below (w.alloc (.cells #[.int .i64 id, .slice A l.length c, .int .i64 f, .int .i64 t] 26)).heap.size (w.alloc (.cells #[.int .i64 id, .slice A l.length c, .int .i64 f, .int .i64 t] 26)) wr)
    case atStart => exact ⟨0, by omega, rfl, rfl, Below.refl _ _⟩
    case round =>
      obtain ⟨j, hj, rfl, rfl, hbw⟩ := hrel
      have HX := HX0.ext hbw
      have hc0 := HX.cell 0 0 rfl rfl
      have hc1 := HX.cell 0 1 rfl rfl
      have hc2 := HX.cell 0 2 rfl rfl
      have hc3 := HX.cell 0 3 rfl rfl
      try simp only [List.getElem_toArray, List.getElem_cons_zero, List.getElem_cons_succ] at hc0 hc1 hc2 hc3
      by_cases hj0 : j < l.length
      · have hx := Lib.hid (List.getElem?_eq_getElem hj0)
        have hsu := Lib.hid (totE_succ hx.out)
        obtain ⟨b1, b2⟩ := HV2.out.tot j
        obtain ⟨b3, b4⟩ := (HV2.out.2.2.1.at_ hx.out).2
        generalize l[j] = x at *
        generalize totE (l.take j) = m at *
        go_wp2_with fail
        refine (bhoard_any (b := true) A c l _ (H.ext hbw) hl HV1).mono ?_
        rintro e w2 ⟨rfl, hb2⟩
        replace HX := HX.ext hb2
        replace hbw := bel_trans hbw hb2
        clear hb2 hc0 hc1 hc2 hc3
        obtain ⟨ad, rfl, hbk, c0, c1⟩ := (H.ext hbw).at_ hx.out
        have hc1 := HX.cell 0 1 rfl rfl
        try simp only [List.getElem_toArray, List.getElem_cons_zero, List.getElem_cons_succ] at hc1
        go_wp2
        go_roundg (l.length - (j + 1))
        case measure => omega
        case rel => exact ⟨j + 1, by omega, by go_num, by rw [hsu.out], hbw⟩
      · have hfin := Lib.hid (show l.take j = l from List.take_of_length_le (by omega))
        go_wp2
        go_ret
        exact ⟨by rw [hn2.out, hfin.out]; rfl, HX.below⟩
  · obtain rfl := hn.2 hv
    have HV1 := no hv
    clear hv hn
    have HX := BL.one w #[.int .i64 id, .slice A l.length c, .int .i64 f, .int .i64 t] 26
    replace H := H.ext HX.below
    by_cases hj0 : 0 < l.length
    · go_enter Tryz.func97, Tryz.ntmps97
      go_wp2
      go_loopg [3, 4] 0 (fun k u i wr => u = .int .i64 0 ∧ i = .int .i64 0 ∧ wr = w.alloc (.cells #[.int .i64 id, .slice A l.length c, .int .i64 f, .int .i64 t] 26))
      case atStart => exact ⟨rfl, rfl, rfl⟩
      case round =>
        obtain ⟨rfl, rfl, rfl⟩ := hrel
        go_wp2_with fail
        refine (bhoard_any (b := false) A c l _ H hl HV1).mono ?_
        rintro e w2 ⟨rfl, hb2⟩
        replace HX := HX.ext hb2
        go_wp2
        go_ret
        exact ⟨rfl, HX.below⟩
    · go_enter Tryz.func97, Tryz.ntmps97
      go_wp2
      go_loopg [3, 4] 0 (fun k u i wr => u = .int .i64 0 ∧ i = .int .i64 0 ∧ wr = w.alloc (.cells #[.int .i64 id, .slice A l.length c, .int .i64 f, .int .i64 t] 26))
      case atStart => exact ⟨rfl, rfl, rfl⟩
      case round =>
        obtain ⟨rfl, rfl, rfl⟩ := hrel
        go_wp2
        go_ret
        exact ⟨rfl, HX.below⟩
end Go.Proofs.YthempimelfmipaaGreatDoor
