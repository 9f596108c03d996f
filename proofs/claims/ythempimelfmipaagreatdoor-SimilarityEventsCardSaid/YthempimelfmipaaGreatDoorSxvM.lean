/- The statement SimilarityEvents: its walk. -/
import Derived.Test.YthempimelfmipaaGreatDoorSxdM
import Derived.Test.YthempimelfmipaaGreatDoorSq0M
namespace Go.Proofs.YthempimelfmipaaGreatDoor
open Go.RowKit Go.Proofs Go

theorem nd_len : ∀ (n : Nat) (l : List Int), l.Nodup → (∀ x ∈ l, 0 ≤ x ∧ x < (n : Int)) → l.length ≤ n
  | 0, [], _, _ => Nat.le_refl _
  | 0, x :: l, _, h => by have := h x List.mem_cons_self; omega
  | n + 1, l, hn, h => by
    by_cases hm : (n : Int) ∈ l
    · have h1 := nd_len n (l.erase (n : Int)) (hn.erase _) fun x hx => by
        obtain ⟨h2, h3⟩ := (List.Nodup.mem_erase_iff hn).1 hx
        have := h x h3
        omega
      rw [List.length_erase_of_mem hm] at h1
      omega
    · have h1 := nd_len n l hn fun x hx => by
        have h2 := h x hx
        have h3 : x ≠ (n : Int) := fun e => hm (e ▸ hx)
        omega
      omega
theorem nd_perm : ∀ (n : Nat) (l : List Int), l.Nodup → (∀ x ∈ l, 0 ≤ x ∧ x < (n : Int)) → l.length = n → l.Perm (ups n)
  | 0, l, _, _, hl => by rw [List.eq_nil_of_length_eq_zero hl]; exact List.Perm.refl _
  | n + 1, l, hn, h, hl => by
    have hm : (n : Int) ∈ l := Classical.byContradiction fun hm => by
      have := nd_len n l hn fun x hx => by
        have h2 := h x hx
        have h3 : x ≠ (n : Int) := fun e => hm (e ▸ hx)
        omega
      omega
    have ih := nd_perm n (l.erase (n : Int)) (hn.erase _) (fun x hx => by
      obtain ⟨h2, h3⟩ := (List.Nodup.mem_erase_iff hn).1 hx
      have := h x h3
      omega) (by rw [List.length_erase_of_mem hm]; omega)
    rw [ups_snoc]
    exact (List.perm_cons_erase hm).trans ((List.Perm.cons _ ih).trans (List.perm_append_singleton _ _).symm)
theorem ups_nodup (n : Nat) : (ups n).Nodup := by
  rw [List.Nodup, ups, List.pairwise_map]
  exact List.pairwise_lt_range.imp fun h => by omega
theorem ord_iff {l : List Int} {n : Nat} (hl : l.length = n) (h1 : ∀ i, i < n → 0 ≤ el l i ∧ el l i < (n : Int)) (h2 : ∀ i k, i < n → k < i → el l i ≠ el l k) : IsOrd l n := by
  refine nd_perm n l ?_ ?_ hl
  · rw [List.Nodup, List.pairwise_iff_getElem]
    intro i j hi hj hij e
    refine h2 j i (by omega) hij ?_
    rw [el, el, List.getElem?_eq_getElem hi, List.getElem?_eq_getElem hj]
    exact e.symm
  · intro x hx
    obtain ⟨i, hi, rfl⟩ := List.getElem_of_mem hx
    have := h1 i (by omega)
    rwa [el, List.getElem?_eq_getElem hi] at this
theorem ord_ne {l : List Int} {n i k : Nat} (h : IsOrd l n) (hi : i < n) (hk : k < i) : el l i ≠ el l k := by
  have h1 := h.nodup_iff.2 (ups_nodup n)
  rw [List.Nodup, List.pairwise_iff_getElem] at h1
  have hl := h.len
  rw [el, el, List.getElem?_eq_getElem (show i < l.length by omega), List.getElem?_eq_getElem (show k < l.length by omega)]
  exact fun e => h1 k i (by omega) (by omega) hk e.symm
set_option maxHeartbeats 2000000 in
set_option maxRecDepth 100000 in
theorem order_any {b : Bool} (A : Option Addr) (c : Nat) (l : List Int) (n : Nat) (w : World) (H : IEs w A l) (hl : l.length ≤ 1000000) (hb : Hid (Tells b (IsOrd l n))) :
    Calls Tryz.prog 57 #[.slice A l.length c, .int .i64 (n : Int)] w (RetB w b) := by
  by_cases hln : l.length = n
  · have hne : ((l.length : Int) != (n : Int)) = false := by rw [bne_eq_false_iff_eq]; omega
    have hne2 : (l.length != n) = false := by rw [bne_eq_false_iff_eq]; exact hln
    have HLN := Lib.hid hln
    clear hln
    go_enter Tryz.func57, Tryz.ntmps57
    go_wp2
    go_loopg [5] n (fun g i wr => ∃ k : Nat, k + g = n ∧ i = .int .i64 (k : Int) ∧ Hid (∀ i, i < k → 0 ≤ el l i ∧ el l i < (n : Int)) ∧ Hid (∀ i j, i < k → j < i → el l i ≠ el l j) ∧ Below w.heap.size w wr)
    case atStart => exact ⟨0, by omega, rfl, Lib.hid (fun i h => by omega), Lib.hid (fun i j h => by omega), Below.refl _ _⟩
    case round =>
      obtain ⟨k, hk, rfl, h1, h2, hbw⟩ := hrel
      have hn6 : n ≤ 1000000 := by have := HLN.out; omega
      by_cases hk0 : k < n
      · have hkl : k < l.length := by have := HLN.out; omega
        obtain ⟨ad, rfl, hbk, c0⟩ := (H.ext hbw).at_ (el_get hkl)
        obtain ⟨x, hx⟩ : ∃ x, Hid (el l k = x) := ⟨_, Lib.hid rfl⟩
        rw [hx.out] at c0
        by_cases hr : 0 ≤ x ∧ x < (n : Int)
        · have d1 : decide (x < 0) = false := decide_eq_false (by omega)
          have d2 : decide ((n : Int) ≤ x) = false := decide_eq_false (by omega)
          have h1n := Lib.hid (show ∀ i, i < k + 1 → 0 ≤ el l i ∧ el l i < (n : Int) from fun i hi => by
            by_cases h : i < k
            · exact h1.out i h
            · obtain rfl : i = k := by omega
              rw [hx.out]; exact hr)
          clear hr h1
          go_wp2
          go_loopg [6] k (fun g u wr => ∃ m : Nat, m + g = k ∧ u = .int .i64 (m : Int) ∧ Hid (∀ j, j < m → el l k ≠ el l j) ∧ Below w.heap.size w wr)
          case atStart => exact ⟨0, by omega, rfl, Lib.hid (fun j h => by omega), hbw⟩
          case round =>
            clear hbw c0
            obtain ⟨m, hm, rfl, h3, hbw⟩ := hrel
            by_cases hm0 : m < k
            · have hml : m < l.length := by omega
              obtain ⟨ad2, hade, _, c0⟩ := (H.ext hbw).at_ (el_get hkl)
              obtain rfl := Option.some.inj hade
              obtain ⟨ad2, hade2, _, c1⟩ := (H.ext hbw).at_ (el_get hml)
              obtain rfl := Option.some.inj hade2
              obtain ⟨y, hy⟩ : ∃ x, Hid (el l m = x) := ⟨_, Lib.hid rfl⟩
              rw [hx.out] at c0
              rw [hy.out] at c1
              clear hade hade2
              by_cases hxy : x = y
              · obtain rfl : b = false := hb.out.f fun h => ord_ne h hk0 hm0 (by rw [hx.out, hy.out]; exact hxy)
                have d3 : (x == y) = true := by rw [beq_iff_eq]; exact hxy
                clear hxy
                go_upto_region 11 with fail
                go_quiet (fail)
                go_wp2
                go_ret
                exact ⟨rfl, drew_below hbw _⟩
              · have d3 : (x == y) = false := by rw [beq_eq_false_iff_ne]; exact hxy
                have h3n := Lib.hid (show ∀ j, j < m + 1 → el l k ≠ el l j from fun j hj => by
                  by_cases h : j < m
                  · exact h3.out j h
                  · obtain rfl : j = m := by omega
                    rw [hx.out, hy.out]; exact hxy)
                clear hxy
                go_upto_region 11 with fail
                go_quiet (fail)
                go_wp2
                go_roundg (k - (m + 1))
                case measure => omega
                case rel => exact ⟨m + 1, by omega, by go_num, h3n, drew_below hbw _⟩
            · obtain rfl : m = k := by omega
              have h2n := Lib.hid (show ∀ i j, i < m + 1 → j < i → el l i ≠ el l j from fun i j hi hj => by
                by_cases h : i < m
                · exact h2.out i j h hj
                · obtain rfl : i = m := by omega
                  exact h3.out j hj)
              go_wp2
              go_roundg (n - (m + 1))
              case measure => omega
              case rel => exact ⟨m + 1, by omega, by go_num, h1n, h2n, hbw⟩
        · obtain rfl : b = false := hb.out.f fun h => hr (by rw [← hx.out]; exact h.bd (el_mem hkl))
          by_cases hx0 : x < 0
          · have d1 : decide (x < 0) = true := decide_eq_true hx0
            clear hr
            go_wp2
            go_ret
            exact ⟨rfl, hbw⟩
          · have d1 : decide (x < 0) = false := decide_eq_false hx0
            have d2 : decide ((n : Int) ≤ x) = true := decide_eq_true (by omega)
            clear hr
            go_wp2
            go_ret
            exact ⟨rfl, hbw⟩
      · obtain rfl : k = n := by omega
        obtain rfl : b = true := hb.out.t (ord_iff HLN.out h1.out fun i j hi hj => h2.out i j hi hj)
        go_wp2
        go_ret
        exact ⟨rfl, hbw⟩
  · have hne : ((l.length : Int) != (n : Int)) = true := by rw [bne_iff_ne]; omega
    have hne2 : (l.length != n) = true := bne_iff_ne.2 hln
    obtain rfl : b = false := hb.out.f fun h => hln h.len
    clear hln
    go_enter Tryz.func57, Tryz.ntmps57
    go_wp2
    go_ret
    exact ⟨rfl, Below.refl _ _⟩
set_option maxHeartbeats 8000000 in
set_option maxRecDepth 100000 in
theorem rvalid_any {b : Bool} (A : Option Addr) (c : Nat) (rs : List RR) (w : World) (H : ML w A rs) (hl : rs.length ≤ 9223372036854775807) (hb : Hid (Tells b (MxV rs))) :
    Calls Tryz.prog 56 #[.slice A rs.length c] w (RetB w b) := by
  by_cases h6 : rs.length ≤ 6
  · have h6b : decide ((6 : Int) < (rs.length : Int)) = false := decide_eq_false (by omega)
    go_enter Tryz.func56, Tryz.ntmps56
    go_wp2
    go_loopg [3] rs.length (fun g i wr => ∃ k : Nat, k + g = rs.length ∧ i = .int .i64 (k : Int) ∧ Hid (∀ (j : Nat) (r : RR), j < k → rs[j]? = some r → r.fs.length = rs.length) ∧ Below w.heap.size w wr)
    case atStart => exact ⟨0, by omega, rfl, Lib.hid (fun j r h => by omega), Below.refl _ _⟩
    case round =>
      obtain ⟨k, hk, rfl, hok, hbw⟩ := hrel
      by_cases hk0 : k < rs.length
      · have hr := Lib.hid (List.getElem?_eq_getElem hk0)
        obtain ⟨ad, rfl, hbk, c0, _, _, hrl⟩ := (H.ext hbw).at_ hr.out
        generalize rs[k] = r at *
        by_cases he : r.fs.length = rs.length
        · have hnx := Lib.hid (show ∀ (j : Nat) (r : RR), j < k + 1 → rs[j]? = some r → r.fs.length = rs.length from fun j r' hj hr' => by
            by_cases h : j < k
            · exact hok.out j r' h hr'
            · obtain rfl : j = k := by omega
              rw [hr.out] at hr'
              obtain rfl := Option.some.inj hr'
              exact he)
          rw [he] at c0
          clear he
          go_wp2
          go_roundg (rs.length - (k + 1))
          case measure => omega
          case rel => exact ⟨k + 1, by omega, by go_num, hnx, hbw⟩
        · obtain rfl : b = false := hb.out.f fun h => he (h.2.1.2 k r hr.out)
          have hne : ((r.fs.length : Int) != (rs.length : Int)) = true := bne_iff_ne.2 fun h => he (by omega)
          clear he
          go_wp2
          go_ret
          exact ⟨rfl, hbw⟩
      · have HS : Hid (Sqr rs rs.length) := Lib.hid ⟨rfl, fun j r hr => hok.out j r (by have := (List.getElem?_eq_some_iff.1 hr).1; omega) hr⟩
        clear hok
        obtain ⟨M, hM⟩ : ∃ M, Hid (mq (qOf rs) = M) := ⟨_, Lib.hid rfl⟩
        go_wp2
        go_loopg [4] rs.length (fun g i wr => ∃ k : Nat, k + g = rs.length ∧ i = .int .i64 (k : Int) ∧ Hid (∀ i j : Nat, j < i → i < k → M i j = M j i) ∧ Below w.heap.size w wr)
        case atStart => exact ⟨0, by omega, rfl, Lib.hid (fun i j h1 h2 => by omega), hbw⟩
        case round =>
          clear hbw
          obtain ⟨i, hi, rfl, hok, hbw⟩ := hrel
          by_cases hi0 : i < rs.length
          · obtain ⟨ad, ra, rca, fa, qa, hA1, hb1, hb2, ra0, na, FSa, FKa, ea⟩ := (H.ext hbw).rowN HS.out hi0
            subst hA1
            obtain ⟨V, hV⟩ : ∃ V, V = wr := ⟨_, rfl⟩
            have hVb : Below V.heap.size V wr := by rw [hV]; exact Below.refl _ _
            have RA := ra0
            rw [← hV] at FSa FKa RA
            clear hV
            go_wp2
            go_loopg [5] i (fun g u wr => ∃ k : Nat, k + g = i ∧ u = .int .i64 (k : Int) ∧ Hid (∀ j : Nat, j < k → M i j = M j i) ∧ Below w.heap.size w wr ∧ Below V.heap.size V wr)
            case atStart => exact ⟨0, by omega, rfl, Lib.hid (fun j h => by omega), hbw, hVb⟩
            case round =>
              clear hbw hVb
              obtain ⟨k, hk, rfl, hkk, hbw, hVb⟩ := hrel
              by_cases hk0 : k < i
              · have hkn : k < rs.length := by omega
                obtain ⟨ad', rb, rcb, fb, qb, hA2, hb3, hb4, rb0, nb, FSb, FKb, eb⟩ := (H.ext hbw).rowN HS.out hkn
                obtain rfl := Option.some.inj hA2
                have ra0 := below_up hVb RA
                obtain ⟨x, x0, x1, x2, Fx⟩ := elN (FSa.ext hVb) (FKa.ext hVb) na hkn
                obtain ⟨y, y0, y1, y2, Fy⟩ := elN FSb FKb nb hi0
                rw [ea k, hM.out] at Fx
                rw [eb i, hM.out] at Fy
                clear FSb FKb nb eb hA2
                obtain ⟨s, H1⟩ : ∃ s, Hid (cmpQ (M i k) (M k i) = s) := ⟨_, Lib.hid rfl⟩
                by_cases hs0 : s = 0
                · subst hs0
                  have hnx := Lib.hid (show ∀ j : Nat, j < k + 1 → M i j = M j i from fun j hj => by
                    by_cases h : j < k
                    · exact hkk.out j h
                    · obtain rfl : j = k := by omega
                      exact cmpQ_zero.1 H1.out)
                  go_upto_region 14 with fail
                  have HX := BL.nil wr
                  have held : ∀ {W' : World}, BL wr W' [] → W'.cell? (ad.add i) = some (.slice (some ra) rs.length rca) ∧ W'.cell? (ra.add (k * 3)) = some (.bool x.s) ∧ W'.cell? ⟨(ra.add (k * 3)).block, (ra.add (k * 3)).off + 1, none⟩ = some (.slice x.A x.n x.c) ∧ W'.cell? ⟨(ra.add (k * 3)).block, (ra.add (k * 3)).off + 2, none⟩ = some (.slice x.B x.m x.d) ∧ W'.cell? (ad.add k) = some (.slice (some rb) rs.length rcb) ∧ W'.cell? (rb.add (i * 3)) = some (.bool y.s) ∧ W'.cell? ⟨(rb.add (i * 3)).block, (rb.add (i * 3)).off + 1, none⟩ = some (.slice y.A y.n y.c) ∧ W'.cell? ⟨(rb.add (i * 3)).block, (rb.add (i * 3)).off + 2, none⟩ = some (.slice y.B y.m y.d) := fun h => ⟨below_up h.below ra0, below_up h.below x0, below_up h.below x1, below_up h.below x2, below_up h.below rb0, below_up h.below y0, below_up h.below y1, below_up h.below y2⟩
                  replace HX := HX.ext (drew_ext _)
                  replace Fx := Fx.ext (drew_ext _)
                  replace Fy := Fy.ext (drew_ext _)
                  go_region_held3 (fun W' => W'.cell? (ad.add i) = some (.slice (some ra) rs.length rca) ∧ W'.cell? (ra.add (k * 3)) = some (.bool x.s) ∧ W'.cell? ⟨(ra.add (k * 3)).block, (ra.add (k * 3)).off + 1, none⟩ = some (.slice x.A x.n x.c) ∧ W'.cell? ⟨(ra.add (k * 3)).block, (ra.add (k * 3)).off + 2, none⟩ = some (.slice x.B x.m x.d) ∧ W'.cell? (ad.add k) = some (.slice (some rb) rs.length rcb) ∧ W'.cell? (rb.add (i * 3)) = some (.bool y.s) ∧ W'.cell? ⟨(rb.add (i * 3)).block, (rb.add (i * 3)).off + 1, none⟩ = some (.slice y.A y.n y.c) ∧ W'.cell? ⟨(rb.add (i * 3)).block, (rb.add (i * 3)).off + 2, none⟩ = some (.slice y.B y.m y.d))
                    (exact held HX)
                    (first
                      | (go_at_call 58; refine (qcmp_r H1 Fx Fy (by omega) (by omega)).mono ?_; rintro e wz ⟨rfl, hb⟩; replace HX := HX.ext hb; replace Fx := Fx.ext hb; replace Fy := Fy.ext hb; clear hb))
                  clear held
                  all_goals (
                    go_wp2
                    go_roundg (i - (k + 1))
                    case measure => omega
                    case rel => exact ⟨k + 1, by omega, by go_num, hnx, bel_trans hbw HX.below, bel_trans hVb HX.below⟩)
                · obtain rfl : b = false := hb.out.f fun h => hs0 (by rw [← H1.out]; exact cmpQ_eq (by rw [← hM.out]; exact h.2.2 i k hk0 hi0))
                  have hne : (s != 0) = true := bne_iff_ne.2 hs0
                  clear hs0
                  go_upto_region 14 with fail
                  have HX := BL.nil wr
                  have held : ∀ {W' : World}, BL wr W' [] → W'.cell? (ad.add i) = some (.slice (some ra) rs.length rca) ∧ W'.cell? (ra.add (k * 3)) = some (.bool x.s) ∧ W'.cell? ⟨(ra.add (k * 3)).block, (ra.add (k * 3)).off + 1, none⟩ = some (.slice x.A x.n x.c) ∧ W'.cell? ⟨(ra.add (k * 3)).block, (ra.add (k * 3)).off + 2, none⟩ = some (.slice x.B x.m x.d) ∧ W'.cell? (ad.add k) = some (.slice (some rb) rs.length rcb) ∧ W'.cell? (rb.add (i * 3)) = some (.bool y.s) ∧ W'.cell? ⟨(rb.add (i * 3)).block, (rb.add (i * 3)).off + 1, none⟩ = some (.slice y.A y.n y.c) ∧ W'.cell? ⟨(rb.add (i * 3)).block, (rb.add (i * 3)).off + 2, none⟩ = some (.slice y.B y.m y.d) := fun h => ⟨below_up h.below ra0, below_up h.below x0, below_up h.below x1, below_up h.below x2, below_up h.below rb0, below_up h.below y0, below_up h.below y1, below_up h.below y2⟩
                  replace HX := HX.ext (drew_ext _)
                  replace Fx := Fx.ext (drew_ext _)
                  replace Fy := Fy.ext (drew_ext _)
                  go_region_held3 (fun W' => W'.cell? (ad.add i) = some (.slice (some ra) rs.length rca) ∧ W'.cell? (ra.add (k * 3)) = some (.bool x.s) ∧ W'.cell? ⟨(ra.add (k * 3)).block, (ra.add (k * 3)).off + 1, none⟩ = some (.slice x.A x.n x.c) ∧ W'.cell? ⟨(ra.add (k * 3)).block, (ra.add (k * 3)).off + 2, none⟩ = some (.slice x.B x.m x.d) ∧ W'.cell? (ad.add k) = some (.slice (some rb) rs.length rcb) ∧ W'.cell? (rb.add (i * 3)) = some (.bool y.s) ∧ W'.cell? ⟨(rb.add (i * 3)).block, (rb.add (i * 3)).off + 1, none⟩ = some (.slice y.A y.n y.c) ∧ W'.cell? ⟨(rb.add (i * 3)).block, (rb.add (i * 3)).off + 2, none⟩ = some (.slice y.B y.m y.d))
                    (exact held HX)
                    (first
                      | (go_at_call 58; refine (qcmp_r H1 Fx Fy (by omega) (by omega)).mono ?_; rintro e wz ⟨rfl, hb⟩; replace HX := HX.ext hb; replace Fx := Fx.ext hb; replace Fy := Fy.ext hb; clear hb))
                  clear held
                  all_goals (
                    go_wp2
                    go_ret
                    exact ⟨rfl, bel_trans hbw HX.below⟩)
              · obtain rfl : k = i := by omega
                have hnx := Lib.hid (show ∀ a j : Nat, j < a → a < k + 1 → M a j = M j a from fun a j h1 h2 => by
                  by_cases h : a < k
                  · exact hok.out a j h1 h
                  · obtain rfl : a = k := by omega
                    exact hkk.out j h1)
                go_wp2
                go_roundg (rs.length - (k + 1))
                case measure => omega
                case rel => exact ⟨k + 1, by omega, by go_num, hnx, hbw⟩
          · obtain rfl : b = true := hb.out.t ⟨h6, HS.out, fun a j h1 h2 => by rw [hM.out]; exact hok.out a j h1 (by omega)⟩
            go_wp2
            go_ret
            exact ⟨rfl, hbw⟩
  · obtain rfl : b = false := hb.out.f fun h => h6 h.1
    have h6b : decide ((6 : Int) < (rs.length : Int)) = true := decide_eq_true (by omega)
    go_enter Tryz.func56, Tryz.ntmps56
    go_wp2
    go_ret
    exact ⟨rfl, Below.refl _ _⟩
end Go.Proofs.YthempimelfmipaaGreatDoor

namespace Go.Proofs.YthempimelfmipaaGreatDoor
open Go.RowKit Go.Proofs Go

theorem sumF_le {f : Nat → Nat} {a b : Nat} : ∀ {n : Nat}, (∀ i, f (a + i) ≤ b) → sumF f a n ≤ n * b
  | 0, _ => by simp [sumF]
  | n + 1, h => by
    have h1 := sumF_le (n := n) h
    have h2 := h n
    rw [sumF, Nat.succ_mul]; omega
theorem sumF_next {f : Nat → Nat} {a r : Nat} (h : a ≤ r) : sumF f a (r + 1 - a) = sumF f a (r - a) + f r := by
  rw [show r + 1 - a = r - a + 1 by omega, sumF, show a + (r - a) = r by omega]
theorem sumF_none (f : Nat → Nat) (a : Nat) : sumF f a (a - a) = 0 := by rw [Nat.sub_self]; rfl
set_option maxHeartbeats 8000000 in
set_option maxRecDepth 100000 in
theorem revents_go {ev : Nat} (A Ao : Option Addr) (c co : Nat) (rs : List RR) (l : List Int) (w : World) (H : ML w A rs) (hlr : rs.length ≤ 9223372036854775807) (Ho : IEs w Ao l) (hl : l.length ≤ 10) (hmx : Hid (MxV rs)) (hord : Hid (IsOrd l rs.length)) (hev : Hid (evs (mq (qOf rs)) l = ev)) :
    Calls Tryz.prog 23 #[.slice A rs.length c, .slice Ao l.length co] w (RetII w ev 0) := by
  have T1 := Lib.hid (yes hmx.out)
  have T2 := Lib.hid (yes hord.out)
  have HS := Lib.hid hmx.out.2.1
  have h6 := hmx.out.1
  obtain ⟨n, hn⟩ : ∃ n, Hid (rs.length = n) := ⟨_, Lib.hid rfl⟩
  have HB := Lib.hid (show ∀ x ∈ l, 0 ≤ x ∧ x < (n : Int) from fun x hx => by rw [← hn.out]; exact hord.out.bd hx)
  rw [hn.out] at HS h6 hlr T2
  obtain ⟨M, hM⟩ : ∃ M, Hid (mq (qOf rs) = M) := ⟨_, Lib.hid rfl⟩
  obtain ⟨T, hT⟩ : ∃ T : Nat → Nat → Nat → Nat, Hid ((fun p q r => tri M (el l p) (el l q) (el l r)) = T) := ⟨_, Lib.hid rfl⟩
  obtain ⟨G, hG⟩ : ∃ G : Nat → Nat → Nat, Hid ((fun p q => sumF (fun r => T p q r) (q + 1) (l.length - (q + 1))) = G) := ⟨_, Lib.hid rfl⟩
  obtain ⟨F, hF⟩ : ∃ F : Nat → Nat, Hid ((fun p => sumF (fun q => G p q) (p + 1) (l.length - (p + 1))) = F) := ⟨_, Lib.hid rfl⟩
  have hE := Lib.hid (show sumB F l.length = ev by rw [← hev.out, evs_ref, ← hF.out, ← hG.out, ← hT.out, hM.out])
  have hT2 : Hid (∀ p q r, T p q r ≤ 2) := Lib.hid (fun p q r => by rw [← hT.out]; exact tri_le _ _ _ _)
  have hG2 : Hid (∀ p q k, k ≤ 10 → sumF (fun r => T p q r) (q + 1) k ≤ 20) := Lib.hid (fun p q k h => by have := sumF_le (n := k) (a := q + 1) (f := fun r => T p q r) fun i => hT2.out p q _; omega)
  have hF2 : Hid (∀ p k, k ≤ 10 → sumF (fun q => G p q) (p + 1) k ≤ 200) := Lib.hid (fun p k h => by
    have := sumF_le (n := k) (a := p + 1) (f := fun q => G p q) (b := 20) fun i => by rw [← hG.out]; exact hG2.out p _ _ (by omega)
    omega)
  have hE2 : Hid (∀ p, p ≤ 10 → sumB F p ≤ 2000) := Lib.hid (fun p h => by
    have := sumB_le (n := p) (f := F) (b := 200) fun i hi => by rw [← hF.out]; exact hF2.out i _ (by omega)
    omega)
  have cV : ∀ W : World, ML W A rs → Calls Tryz.prog 56 #[.slice A n c] W (RetB W true) := fun W h => by
    have := rvalid_any (b := true) A c rs W h (by rw [hn.out]; exact hlr) T1
    rwa [hn.out] at this
  rw [hn.out]
  clear hev hmx hord T1
  go_enter Tryz.func23, Tryz.ntmps23
  go_wp2_with fail
  refine (cV _ H).mono ?_
  rintro e w1 ⟨rfl, hb1⟩
  clear cV
  go_wp2_with fail
  refine (order_any (b := true) Ao co l n _ (Ho.ext hb1) (by omega) T2).mono ?_
  rintro e w2 ⟨rfl, hb2⟩
  have hbw0 := bel_trans hb1 hb2
  clear hb1 hb2 T2
  go_wp2
  go_loopg [6, 7] l.length (fun g u i wr => ∃ p : Nat, p + g = l.length ∧ u = .int .i64 ((sumB F p : Nat) : Int) ∧ i = .int .i64 (p : Int) ∧ Below w.heap.size w wr)
  case atStart => exact ⟨0, by omega, rfl, rfl, hbw0⟩
  case round =>
    clear hbw0
    obtain ⟨p, hp, rfl, rfl, hbw⟩ := hrel
    by_cases hp0 : p < l.length
    · have hE3 := hE2.out p (by omega)
      have hsp := Lib.hid (show sumB F (p + 1) = sumB F p + sumF (fun q => G p q) (p + 1) (l.length - (p + 1)) by rw [sumB, ← hF.out])
      generalize sumB F p = s1 at *
      go_wp2
      go_loopg [6, 8] (l.length - (p + 1)) (fun g u i wr => ∃ q : Nat, q + g = l.length ∧ p + 1 ≤ q ∧ u = .int .i64 (((s1 + sumF (fun q => G p q) (p + 1) (q - (p + 1)) : Nat)) : Int) ∧ i = .int .i64 (q : Int) ∧ Below w.heap.size w wr)
      case atStart => exact ⟨p + 1, by omega, by omega, by rw [sumF_none]; rfl, by go_num, hbw⟩
      case round =>
        clear hbw
        obtain ⟨q, hq, hpq, rfl, rfl, hbw⟩ := hrel
        by_cases hq0 : q < l.length
        · have hF3 := hF2.out p (q - (p + 1)) (by omega)
          have hsq := Lib.hid (show sumF (fun q => G p q) (p + 1) (q + 1 - (p + 1)) = sumF (fun q => G p q) (p + 1) (q - (p + 1)) + sumF (fun r => T p q r) (q + 1) (l.length - (q + 1)) by rw [sumF_next hpq, ← hG.out])
          generalize sumF (fun q => G p q) (p + 1) (q - (p + 1)) = s2 at *
          go_wp2
          go_loopg [6, 9] (l.length - (q + 1)) (fun g u i wr => ∃ r : Nat, r + g = l.length ∧ q + 1 ≤ r ∧ u = .int .i64 (((s1 + s2 + sumF (fun r => T p q r) (q + 1) (r - (q + 1)) : Nat)) : Int) ∧ i = .int .i64 (r : Int) ∧ Below w.heap.size w wr)
          case atStart => exact ⟨q + 1, by omega, by omega, by rw [sumF_none]; rfl, by go_num, hbw⟩
          case round =>
            clear hbw
            obtain ⟨r, hr, hqr, rfl, rfl, hbw⟩ := hrel
            by_cases hr0 : r < l.length
            · have hG3 := hG2.out p q (r - (q + 1)) (by omega)
              have hsu0 := show sumF (fun r => T p q r) (q + 1) (r + 1 - (q + 1)) = sumF (fun r => T p q r) (q + 1) (r - (q + 1)) + tri M (el l p) (el l q) (el l r) by rw [sumF_next hqr, ← hT.out]
              generalize sumF (fun r => T p q r) (q + 1) (r - (q + 1)) = s3 at *
              obtain ⟨ao, hao, hbo, op⟩ := (Ho.ext hbw).at_ (el_get (show p < l.length by omega))
              obtain ⟨ao2, hao2, _, oq⟩ := (Ho.ext hbw).at_ (el_get (show q < l.length by omega))
              obtain ⟨ao3, hao3, _, or_⟩ := (Ho.ext hbw).at_ (el_get (show r < l.length by omega))
              obtain rfl := Option.some.inj (hao.symm.trans hao2)
              obtain rfl := Option.some.inj (hao.symm.trans hao3)
              have bp := HB.out _ (el_mem (show p < l.length by omega))
              have bq := HB.out _ (el_mem (show q < l.length by omega))
              have br := HB.out _ (el_mem (show r < l.length by omega))
              generalize el l p = xp at *
              generalize el l q = xq at *
              generalize el l r = xr at *
              obtain ⟨i, rfl⟩ := Int.eq_ofNat_of_zero_le bp.1
              obtain ⟨j, rfl⟩ := Int.eq_ofNat_of_zero_le bq.1
              obtain ⟨k, rfl⟩ := Int.eq_ofNat_of_zero_le br.1
              have hi : i < n := by omega
              have hj : j < n := by omega
              have hk : k < n := by omega
              clear bp bq br hao2 hao3
              obtain ⟨ad, ra, rca, fa, qa, hA1, hb1, hb2, ra0, na, FSa, FKa, ea⟩ := (H.ext hbw).rowN HS.out hi
              obtain ⟨ad', rb, rcb, fb, qb, hA2, hb3, hb4, rb0, nb, FSb, FKb, eb⟩ := (H.ext hbw).rowN HS.out hj
              obtain rfl := Option.some.inj (hA1.symm.trans hA2)
              clear hA2
              obtain ⟨z, z0, z1, z2, Fz⟩ := elN FSa FKa na hk
              obtain ⟨x, x0, x1, x2, Fx⟩ := elN FSa FKa na hj
              obtain ⟨y, y0, y1, y2, Fy⟩ := elN FSb FKb nb hk
              rw [ea k, hM.out] at Fz
              rw [ea j, hM.out] at Fx
              rw [eb k, hM.out] at Fy
              clear FSa FSb FKa FKb na nb ea eb
              obtain ⟨s1c, H1⟩ : ∃ s, Hid (cmpQ (M i k) (M i j) = s) := ⟨_, Lib.hid rfl⟩
              obtain ⟨s2c, H2⟩ : ∃ s, Hid (cmpQ (M i k) (M j k) = s) := ⟨_, Lib.hid rfl⟩
              rw [tri, gtQ_cmp H1.out, gtQ_cmp H2.out] at hsu0
              have HSU := Lib.hid hsu0
              clear hsu0
              subst hA1
              subst hao
              have hpl : p < l.length := by omega
              have hql : q < l.length := by omega
              have hrl : r < l.length := by omega
              go_upto_region 15 with fail
              have HX := BL.nil wr
              refine wp_region_x (al := [13]) (late := []) (dst := fun i => 10) (zt := fun _ => (#[.bool false, .slice none 0 0, .slice none 0 0], 33)) (B := wr.heap.size) (n := 13) (r := 1) (by kernel_rfl) (by kernel_rfl) (by decide) ?_ (by kernel_rfl) (by kernel_rfl) (by intro _ _ _ d _ h; cases d <;> exact h) (sz := 15) (by rfl) (by rfl) (Nat.le_refl _) ?_
              · intro i hi
                simp only [List.mem_cons, List.not_mem_nil, or_false] at hi
                subst hi
                exact ⟨_, rfl, rfl, rfl, rfl, fun _ _ => by kernel_rfl⟩
              have hE : Ext wr wr.drew := drew_ext wr
              replace HX := HX.ext hE
              replace Fz := Fz.ext hE
              replace Fx := Fx.ext hE
              replace Fy := Fy.ext hE
              clear hE
              refine wpX_take (i := 0) (v := .slice (some ad) n c) (by simp only [List.getElem?_toArray, List.getElem?_cons_zero]; rfl) (by kernel_rfl) (by kernel_rfl) (by kernel_rfl) (by exact fun _ _ _ h => h) (Or.inl ⟨by rfl, fun W hW => ?_⟩) ?_
              · go_simp
                try rfl
              try simp only [Act.put, List.setIfInBounds_toArray, List.set_cons_zero, List.set_cons_succ]
              refine wpX_take (i := 1) (v := .slice (some ao) l.length co) (by simp only [List.getElem?_toArray, List.getElem?_cons_succ, List.getElem?_cons_zero]; rfl) (by kernel_rfl) (by kernel_rfl) (by kernel_rfl) (by exact fun _ _ _ h => h) (Or.inl ⟨by rfl, fun W hW => ?_⟩) ?_
              · go_simp
                try rfl
              try simp only [Act.put, List.setIfInBounds_toArray, List.set_cons_zero, List.set_cons_succ]
              refine wpX_take (i := 2) (v := .int .i64 (p : Int)) (by simp only [List.getElem?_toArray, List.getElem?_cons_succ, List.getElem?_cons_zero]; rfl) (by kernel_rfl) (by kernel_rfl) (by kernel_rfl) (by exact fun _ _ _ h => h) (Or.inl ⟨by rfl, fun W hW => ?_⟩) ?_
              · go_simp
                try rfl
              try simp only [Act.put, List.setIfInBounds_toArray, List.set_cons_zero, List.set_cons_succ]
              refine wpX_take (i := 3) (v := .pointer (some (ao.add p))) (by simp only [List.getElem?_toArray, List.getElem?_cons_succ, List.getElem?_cons_zero]; rfl) (by kernel_rfl) (by kernel_rfl) (by kernel_rfl) (by exact fun _ _ _ h => h) (Or.inl ⟨by rfl, fun W hW => ?_⟩) ?_
              · go_simp
                try rfl
              try simp only [Act.put, List.setIfInBounds_toArray, List.set_cons_zero, List.set_cons_succ]
              refine wpX_take (i := 4) (v := .int .i64 (i : Int)) (by simp only [List.getElem?_toArray, List.getElem?_cons_succ, List.getElem?_cons_zero]; rfl) (by kernel_rfl) (by kernel_rfl) (by kernel_rfl) (by exact fun _ _ _ h => h) (Or.inl ⟨by rfl, fun W hW => ?_⟩) ?_
              · have h0 := below_up (bel_trans HX.below hW) op
                go_simp
                try rfl
              try simp only [Act.put, List.setIfInBounds_toArray, List.set_cons_zero, List.set_cons_succ]
              refine wpX_take (i := 5) (v := .pointer (some (ad.add i))) (by simp only [List.getElem?_toArray, List.getElem?_cons_succ, List.getElem?_cons_zero]; rfl) (by kernel_rfl) (by kernel_rfl) (by kernel_rfl) (by exact fun _ _ _ h => h) (Or.inl ⟨by rfl, fun W hW => ?_⟩) ?_
              · go_simp
                try rfl
              try simp only [Act.put, List.setIfInBounds_toArray, List.set_cons_zero, List.set_cons_succ]
              refine wpX_take (i := 6) (v := .slice (some ra) n rca) (by simp only [List.getElem?_toArray, List.getElem?_cons_succ, List.getElem?_cons_zero]; rfl) (by kernel_rfl) (by kernel_rfl) (by kernel_rfl) (by exact fun _ _ _ h => h) (Or.inl ⟨by rfl, fun W hW => ?_⟩) ?_
              · have h0 := below_up (bel_trans HX.below hW) ra0
                go_simp
                try rfl
              try simp only [Act.put, List.setIfInBounds_toArray, List.set_cons_zero, List.set_cons_succ]
              refine wpX_take (i := 7) (v := .slice (some ao) l.length co) (by simp only [List.getElem?_toArray, List.getElem?_cons_succ, List.getElem?_cons_zero]; rfl) (by kernel_rfl) (by kernel_rfl) (by kernel_rfl) (by exact fun _ _ _ h => h) (Or.inl ⟨by rfl, fun W hW => ?_⟩) ?_
              · go_simp
                try rfl
              try simp only [Act.put, List.setIfInBounds_toArray, List.set_cons_zero, List.set_cons_succ]
              refine wpX_take (i := 8) (v := .int .i64 (r : Int)) (by simp only [List.getElem?_toArray, List.getElem?_cons_succ, List.getElem?_cons_zero]; rfl) (by kernel_rfl) (by kernel_rfl) (by kernel_rfl) (by exact fun _ _ _ h => h) (Or.inl ⟨by rfl, fun W hW => ?_⟩) ?_
              · go_simp
                try rfl
              try simp only [Act.put, List.setIfInBounds_toArray, List.set_cons_zero, List.set_cons_succ]
              refine wpX_take (i := 9) (v := .pointer (some (ao.add r))) (by simp only [List.getElem?_toArray, List.getElem?_cons_succ, List.getElem?_cons_zero]; rfl) (by kernel_rfl) (by kernel_rfl) (by kernel_rfl) (by exact fun _ _ _ h => h) (Or.inl ⟨by rfl, fun W hW => ?_⟩) ?_
              · go_simp
                try rfl
              try simp only [Act.put, List.setIfInBounds_toArray, List.set_cons_zero, List.set_cons_succ]
              refine wpX_take (i := 10) (v := .int .i64 (k : Int)) (by simp only [List.getElem?_toArray, List.getElem?_cons_succ, List.getElem?_cons_zero]; rfl) (by kernel_rfl) (by kernel_rfl) (by kernel_rfl) (by exact fun _ _ _ h => h) (Or.inl ⟨by rfl, fun W hW => ?_⟩) ?_
              · have h0 := below_up (bel_trans HX.below hW) or_
                go_simp
                try rfl
              try simp only [Act.put, List.setIfInBounds_toArray, List.set_cons_zero, List.set_cons_succ]
              refine wpX_take (i := 11) (v := .pointer (some (ra.add (k * 3)))) (by simp only [List.getElem?_toArray, List.getElem?_cons_succ, List.getElem?_cons_zero]; rfl) (by kernel_rfl) (by kernel_rfl) (by kernel_rfl) (by exact fun _ _ _ h => h) (Or.inl ⟨by rfl, fun W hW => ?_⟩) ?_
              · go_simp
                try rfl
              try simp only [Act.put, List.setIfInBounds_toArray, List.set_cons_zero, List.set_cons_succ]
              refine wpX_take (i := 12) (v := .agg #[.bool z.s, .slice z.A z.n z.c, .slice z.B z.m z.d]) (by simp only [List.getElem?_toArray, List.getElem?_cons_succ, List.getElem?_cons_zero]; rfl) (by kernel_rfl) (by kernel_rfl) (by kernel_rfl) (by exact fun _ _ _ h => h) (Or.inl ⟨by rfl, fun W hW => ?_⟩) ?_
              · have h0 := below_up (bel_trans HX.below hW) z0
                have h1 := below_up (bel_trans HX.below hW) z1
                have h2 := below_up (bel_trans HX.below hW) z2
                go_simp
                try rfl
              try simp only [Act.put, List.setIfInBounds_toArray, List.set_cons_zero, List.set_cons_succ]
              refine wpX_end (by kernel_rfl) (fun W5 ga m hE hg hm => ?_)
              replace HX := HX.ext hE
              replace Fz := Fz.ext hE
              replace Fx := Fx.ext hE
              replace Fy := Fy.ext hE
              clear hE
              have hgg := hg.1 13 (by simp)
              have hlg9 := hgg.1
              have hkg9 := hgg.2
              clear hgg
              clear hg
              simp only [putAll]
              try simp only [Act.put, List.setIfInBounds_toArray, List.set_cons_zero, List.set_cons_succ]
              generalize ga 13 = g9 at hlg9 hkg9 ⊢
              try clear ga
              replace HX := HX.add hkg9
              clear hkg9
              simp only [List.nil_append] at HX
              have hc00 := HX.cell 0 0 rfl rfl
              have hf00 := HX.free 0 0 rfl
              have hc01 := HX.cell 0 1 rfl rfl
              have hf01 := HX.free 0 1 rfl
              have hc02 := HX.cell 0 2 rfl rfl
              have hf02 := HX.free 0 2 rfl
              try simp only [List.getElem_toArray, List.getElem_cons_zero, List.getElem_cons_succ] at hc00 hf00 hc01 hf01 hc02 hf02
              refine wpAny_step (i := 14) (by kernel_rfl) (by simp only [List.getElem?_toArray, List.getElem?_cons_succ, List.getElem?_cons_zero]; rfl) (by omega) (fun K hK => ?_)
              go_simp
              refine hK.out _ _ ?_
              clear hK K
              clear hc00 hf00 hc01 hf01 hc02 hf02
              have hk := HX.keep3 0 rfl rfl rfl rfl (by omega) (.bool z.s) (.slice z.A z.n z.c) (.slice z.B z.m z.d)
              replace HX := HX.put3 0 rfl (by omega) (by intro k q hk hne; match k, hk with | 0, hk => (simp at hk; subst hk; simp at hne ⊢; try omega) | k + 1, hk => simp at hk) (.bool z.s) (.slice z.A z.n z.c) (.slice z.B z.m z.d)
              replace Fz := Fz.stay hk
              replace Fx := Fx.stay hk
              replace Fy := Fy.stay hk
              clear hk
              simp only [List.set_cons_zero] at HX
              generalize ((W5.setCell ⟨g9, 0, none⟩ (.bool z.s)).setCell ⟨g9, 1, none⟩ (.slice z.A z.n z.c)).setCell ⟨g9, 2, none⟩ (.slice z.B z.m z.d) = V9 at HX Fz Fx Fy ⊢
              refine wpAny_done (by kernel_rfl) ?_ _
              by_cases hx1 : 0 < s1c
              · have hd1 : decide (0 < s1c) = true := decide_eq_true hx1
                go_upto_region 16 with fail
                have held : ∀ {W' : World}, BL wr W' [(g9, #[.bool z.s, .slice z.A z.n z.c, .slice z.B z.m z.d], 33)] → W'.cell? ⟨g9, 0, none⟩ = some (.bool z.s) ∧ W'.cell? ⟨g9, 1, none⟩ = some (.slice z.A z.n z.c) ∧ W'.cell? ⟨g9, 2, none⟩ = some (.slice z.B z.m z.d) ∧ W'.cell? (ao.add p) = some (.int .i64 (i : Int)) ∧ W'.cell? (ad.add i) = some (.slice (some ra) n rca) ∧ W'.cell? (ao.add q) = some (.int .i64 (j : Int)) ∧ W'.cell? (ra.add (j * 3)) = some (.bool x.s) ∧ W'.cell? ⟨(ra.add (j * 3)).block, (ra.add (j * 3)).off + 1, none⟩ = some (.slice x.A x.n x.c) ∧ W'.cell? ⟨(ra.add (j * 3)).block, (ra.add (j * 3)).off + 2, none⟩ = some (.slice x.B x.m x.d) := fun h => ⟨h.cell 0 0 rfl rfl, h.cell 0 1 rfl rfl, h.cell 0 2 rfl rfl, below_up h.below op, below_up h.below ra0, below_up h.below oq, below_up h.below x0, below_up h.below x1, below_up h.below x2⟩
                replace HX := HX.ext (drew_ext _)
                replace Fz := Fz.ext (drew_ext _)
                replace Fx := Fx.ext (drew_ext _)
                replace Fy := Fy.ext (drew_ext _)
                go_region_held3 (fun W' => W'.cell? ⟨g9, 0, none⟩ = some (.bool z.s) ∧ W'.cell? ⟨g9, 1, none⟩ = some (.slice z.A z.n z.c) ∧ W'.cell? ⟨g9, 2, none⟩ = some (.slice z.B z.m z.d) ∧ W'.cell? (ao.add p) = some (.int .i64 (i : Int)) ∧ W'.cell? (ad.add i) = some (.slice (some ra) n rca) ∧ W'.cell? (ao.add q) = some (.int .i64 (j : Int)) ∧ W'.cell? (ra.add (j * 3)) = some (.bool x.s) ∧ W'.cell? ⟨(ra.add (j * 3)).block, (ra.add (j * 3)).off + 1, none⟩ = some (.slice x.A x.n x.c) ∧ W'.cell? ⟨(ra.add (j * 3)).block, (ra.add (j * 3)).off + 2, none⟩ = some (.slice x.B x.m x.d))
                  (exact held HX)
                  (first
                    | (go_at_call 58; refine (qcmp_r H1 Fz Fx (by omega) (by omega)).mono ?_; rintro e wz ⟨rfl, hb⟩; replace HX := HX.ext hb; replace Fz := Fz.ext hb; replace Fx := Fx.ext hb; replace Fy := Fy.ext hb; clear hb))
                clear held
                all_goals (
                  clear Fx
                  by_cases hx2 : 0 < s2c
                  · have hd2 : decide (0 < s2c) = true := decide_eq_true hx2
                    go_upto_region 18 with fail
                    have held : ∀ {W' : World}, BL wr W' [(g9, #[.bool z.s, .slice z.A z.n z.c, .slice z.B z.m z.d], 33)] → W'.cell? ⟨g9, 0, none⟩ = some (.bool z.s) ∧ W'.cell? ⟨g9, 1, none⟩ = some (.slice z.A z.n z.c) ∧ W'.cell? ⟨g9, 2, none⟩ = some (.slice z.B z.m z.d) ∧ W'.cell? (ao.add q) = some (.int .i64 (j : Int)) ∧ W'.cell? (ad.add j) = some (.slice (some rb) n rcb) ∧ W'.cell? (ao.add r) = some (.int .i64 (k : Int)) ∧ W'.cell? (rb.add (k * 3)) = some (.bool y.s) ∧ W'.cell? ⟨(rb.add (k * 3)).block, (rb.add (k * 3)).off + 1, none⟩ = some (.slice y.A y.n y.c) ∧ W'.cell? ⟨(rb.add (k * 3)).block, (rb.add (k * 3)).off + 2, none⟩ = some (.slice y.B y.m y.d) := fun h => ⟨h.cell 0 0 rfl rfl, h.cell 0 1 rfl rfl, h.cell 0 2 rfl rfl, below_up h.below oq, below_up h.below rb0, below_up h.below or_, below_up h.below y0, below_up h.below y1, below_up h.below y2⟩
                    replace HX := HX.ext (drew_ext _)
                    replace Fz := Fz.ext (drew_ext _)
                    replace Fy := Fy.ext (drew_ext _)
                    go_region_held3 (fun W' => W'.cell? ⟨g9, 0, none⟩ = some (.bool z.s) ∧ W'.cell? ⟨g9, 1, none⟩ = some (.slice z.A z.n z.c) ∧ W'.cell? ⟨g9, 2, none⟩ = some (.slice z.B z.m z.d) ∧ W'.cell? (ao.add q) = some (.int .i64 (j : Int)) ∧ W'.cell? (ad.add j) = some (.slice (some rb) n rcb) ∧ W'.cell? (ao.add r) = some (.int .i64 (k : Int)) ∧ W'.cell? (rb.add (k * 3)) = some (.bool y.s) ∧ W'.cell? ⟨(rb.add (k * 3)).block, (rb.add (k * 3)).off + 1, none⟩ = some (.slice y.A y.n y.c) ∧ W'.cell? ⟨(rb.add (k * 3)).block, (rb.add (k * 3)).off + 2, none⟩ = some (.slice y.B y.m y.d))
                      (exact held HX)
                      (first
                        | (go_at_call 58; refine (qcmp_r H2 Fz Fy (by omega) (by omega)).mono ?_; rintro e wz ⟨rfl, hb⟩; replace HX := HX.ext hb; replace Fz := Fz.ext hb; replace Fy := Fy.ext hb; clear hb))
                    clear held
                    all_goals (
                      go_wp2
                      go_roundg (l.length - (r + 1))
                      case measure => omega
                      case rel => exact ⟨r + 1, by omega, by omega, by rw [HSU.out, if_pos (by omega), if_pos (by omega)]; try go_num, by go_num, bel_trans hbw HX.below⟩)
                  · have hd2 : decide (0 < s2c) = false := decide_eq_false hx2
                    go_upto_region 18 with fail
                    have held : ∀ {W' : World}, BL wr W' [(g9, #[.bool z.s, .slice z.A z.n z.c, .slice z.B z.m z.d], 33)] → W'.cell? ⟨g9, 0, none⟩ = some (.bool z.s) ∧ W'.cell? ⟨g9, 1, none⟩ = some (.slice z.A z.n z.c) ∧ W'.cell? ⟨g9, 2, none⟩ = some (.slice z.B z.m z.d) ∧ W'.cell? (ao.add q) = some (.int .i64 (j : Int)) ∧ W'.cell? (ad.add j) = some (.slice (some rb) n rcb) ∧ W'.cell? (ao.add r) = some (.int .i64 (k : Int)) ∧ W'.cell? (rb.add (k * 3)) = some (.bool y.s) ∧ W'.cell? ⟨(rb.add (k * 3)).block, (rb.add (k * 3)).off + 1, none⟩ = some (.slice y.A y.n y.c) ∧ W'.cell? ⟨(rb.add (k * 3)).block, (rb.add (k * 3)).off + 2, none⟩ = some (.slice y.B y.m y.d) := fun h => ⟨h.cell 0 0 rfl rfl, h.cell 0 1 rfl rfl, h.cell 0 2 rfl rfl, below_up h.below oq, below_up h.below rb0, below_up h.below or_, below_up h.below y0, below_up h.below y1, below_up h.below y2⟩
                    replace HX := HX.ext (drew_ext _)
                    replace Fz := Fz.ext (drew_ext _)
                    replace Fy := Fy.ext (drew_ext _)
                    go_region_held3 (fun W' => W'.cell? ⟨g9, 0, none⟩ = some (.bool z.s) ∧ W'.cell? ⟨g9, 1, none⟩ = some (.slice z.A z.n z.c) ∧ W'.cell? ⟨g9, 2, none⟩ = some (.slice z.B z.m z.d) ∧ W'.cell? (ao.add q) = some (.int .i64 (j : Int)) ∧ W'.cell? (ad.add j) = some (.slice (some rb) n rcb) ∧ W'.cell? (ao.add r) = some (.int .i64 (k : Int)) ∧ W'.cell? (rb.add (k * 3)) = some (.bool y.s) ∧ W'.cell? ⟨(rb.add (k * 3)).block, (rb.add (k * 3)).off + 1, none⟩ = some (.slice y.A y.n y.c) ∧ W'.cell? ⟨(rb.add (k * 3)).block, (rb.add (k * 3)).off + 2, none⟩ = some (.slice y.B y.m y.d))
                      (exact held HX)
                      (first
                        | (go_at_call 58; refine (qcmp_r H2 Fz Fy (by omega) (by omega)).mono ?_; rintro e wz ⟨rfl, hb⟩; replace HX := HX.ext hb; replace Fz := Fz.ext hb; replace Fy := Fy.ext hb; clear hb))
                    clear held
                    all_goals (
                      go_wp2
                      go_roundg (l.length - (r + 1))
                      case measure => omega
                      case rel => exact ⟨r + 1, by omega, by omega, by rw [HSU.out, if_pos (by omega), if_neg (by omega)]; try go_num, by go_num, bel_trans hbw HX.below⟩))
              · have hd1 : decide (0 < s1c) = false := decide_eq_false hx1
                go_upto_region 16 with fail
                have held : ∀ {W' : World}, BL wr W' [(g9, #[.bool z.s, .slice z.A z.n z.c, .slice z.B z.m z.d], 33)] → W'.cell? ⟨g9, 0, none⟩ = some (.bool z.s) ∧ W'.cell? ⟨g9, 1, none⟩ = some (.slice z.A z.n z.c) ∧ W'.cell? ⟨g9, 2, none⟩ = some (.slice z.B z.m z.d) ∧ W'.cell? (ao.add p) = some (.int .i64 (i : Int)) ∧ W'.cell? (ad.add i) = some (.slice (some ra) n rca) ∧ W'.cell? (ao.add q) = some (.int .i64 (j : Int)) ∧ W'.cell? (ra.add (j * 3)) = some (.bool x.s) ∧ W'.cell? ⟨(ra.add (j * 3)).block, (ra.add (j * 3)).off + 1, none⟩ = some (.slice x.A x.n x.c) ∧ W'.cell? ⟨(ra.add (j * 3)).block, (ra.add (j * 3)).off + 2, none⟩ = some (.slice x.B x.m x.d) := fun h => ⟨h.cell 0 0 rfl rfl, h.cell 0 1 rfl rfl, h.cell 0 2 rfl rfl, below_up h.below op, below_up h.below ra0, below_up h.below oq, below_up h.below x0, below_up h.below x1, below_up h.below x2⟩
                replace HX := HX.ext (drew_ext _)
                replace Fz := Fz.ext (drew_ext _)
                replace Fx := Fx.ext (drew_ext _)
                replace Fy := Fy.ext (drew_ext _)
                go_region_held3 (fun W' => W'.cell? ⟨g9, 0, none⟩ = some (.bool z.s) ∧ W'.cell? ⟨g9, 1, none⟩ = some (.slice z.A z.n z.c) ∧ W'.cell? ⟨g9, 2, none⟩ = some (.slice z.B z.m z.d) ∧ W'.cell? (ao.add p) = some (.int .i64 (i : Int)) ∧ W'.cell? (ad.add i) = some (.slice (some ra) n rca) ∧ W'.cell? (ao.add q) = some (.int .i64 (j : Int)) ∧ W'.cell? (ra.add (j * 3)) = some (.bool x.s) ∧ W'.cell? ⟨(ra.add (j * 3)).block, (ra.add (j * 3)).off + 1, none⟩ = some (.slice x.A x.n x.c) ∧ W'.cell? ⟨(ra.add (j * 3)).block, (ra.add (j * 3)).off + 2, none⟩ = some (.slice x.B x.m x.d))
                  (exact held HX)
                  (first
                    | (go_at_call 58; refine (qcmp_r H1 Fz Fx (by omega) (by omega)).mono ?_; rintro e wz ⟨rfl, hb⟩; replace HX := HX.ext hb; replace Fz := Fz.ext hb; replace Fx := Fx.ext hb; replace Fy := Fy.ext hb; clear hb))
                clear held
                all_goals (
                  clear Fx
                  by_cases hx2 : 0 < s2c
                  · have hd2 : decide (0 < s2c) = true := decide_eq_true hx2
                    go_upto_region 18 with fail
                    have held : ∀ {W' : World}, BL wr W' [(g9, #[.bool z.s, .slice z.A z.n z.c, .slice z.B z.m z.d], 33)] → W'.cell? ⟨g9, 0, none⟩ = some (.bool z.s) ∧ W'.cell? ⟨g9, 1, none⟩ = some (.slice z.A z.n z.c) ∧ W'.cell? ⟨g9, 2, none⟩ = some (.slice z.B z.m z.d) ∧ W'.cell? (ao.add q) = some (.int .i64 (j : Int)) ∧ W'.cell? (ad.add j) = some (.slice (some rb) n rcb) ∧ W'.cell? (ao.add r) = some (.int .i64 (k : Int)) ∧ W'.cell? (rb.add (k * 3)) = some (.bool y.s) ∧ W'.cell? ⟨(rb.add (k * 3)).block, (rb.add (k * 3)).off + 1, none⟩ = some (.slice y.A y.n y.c) ∧ W'.cell? ⟨(rb.add (k * 3)).block, (rb.add (k * 3)).off + 2, none⟩ = some (.slice y.B y.m y.d) := fun h => ⟨h.cell 0 0 rfl rfl, h.cell 0 1 rfl rfl, h.cell 0 2 rfl rfl, below_up h.below oq, below_up h.below rb0, below_up h.below or_, below_up h.below y0, below_up h.below y1, below_up h.below y2⟩
                    replace HX := HX.ext (drew_ext _)
                    replace Fz := Fz.ext (drew_ext _)
                    replace Fy := Fy.ext (drew_ext _)
                    go_region_held3 (fun W' => W'.cell? ⟨g9, 0, none⟩ = some (.bool z.s) ∧ W'.cell? ⟨g9, 1, none⟩ = some (.slice z.A z.n z.c) ∧ W'.cell? ⟨g9, 2, none⟩ = some (.slice z.B z.m z.d) ∧ W'.cell? (ao.add q) = some (.int .i64 (j : Int)) ∧ W'.cell? (ad.add j) = some (.slice (some rb) n rcb) ∧ W'.cell? (ao.add r) = some (.int .i64 (k : Int)) ∧ W'.cell? (rb.add (k * 3)) = some (.bool y.s) ∧ W'.cell? ⟨(rb.add (k * 3)).block, (rb.add (k * 3)).off + 1, none⟩ = some (.slice y.A y.n y.c) ∧ W'.cell? ⟨(rb.add (k * 3)).block, (rb.add (k * 3)).off + 2, none⟩ = some (.slice y.B y.m y.d))
                      (exact held HX)
                      (first
                        | (go_at_call 58; refine (qcmp_r H2 Fz Fy (by omega) (by omega)).mono ?_; rintro e wz ⟨rfl, hb⟩; replace HX := HX.ext hb; replace Fz := Fz.ext hb; replace Fy := Fy.ext hb; clear hb))
                    clear held
                    all_goals (
                      go_wp2
                      go_roundg (l.length - (r + 1))
                      case measure => omega
                      case rel => exact ⟨r + 1, by omega, by omega, by rw [HSU.out, if_neg (by omega), if_pos (by omega)]; try go_num, by go_num, bel_trans hbw HX.below⟩)
                  · have hd2 : decide (0 < s2c) = false := decide_eq_false hx2
                    go_upto_region 18 with fail
                    have held : ∀ {W' : World}, BL wr W' [(g9, #[.bool z.s, .slice z.A z.n z.c, .slice z.B z.m z.d], 33)] → W'.cell? ⟨g9, 0, none⟩ = some (.bool z.s) ∧ W'.cell? ⟨g9, 1, none⟩ = some (.slice z.A z.n z.c) ∧ W'.cell? ⟨g9, 2, none⟩ = some (.slice z.B z.m z.d) ∧ W'.cell? (ao.add q) = some (.int .i64 (j : Int)) ∧ W'.cell? (ad.add j) = some (.slice (some rb) n rcb) ∧ W'.cell? (ao.add r) = some (.int .i64 (k : Int)) ∧ W'.cell? (rb.add (k * 3)) = some (.bool y.s) ∧ W'.cell? ⟨(rb.add (k * 3)).block, (rb.add (k * 3)).off + 1, none⟩ = some (.slice y.A y.n y.c) ∧ W'.cell? ⟨(rb.add (k * 3)).block, (rb.add (k * 3)).off + 2, none⟩ = some (.slice y.B y.m y.d) := fun h => ⟨h.cell 0 0 rfl rfl, h.cell 0 1 rfl rfl, h.cell 0 2 rfl rfl, below_up h.below oq, below_up h.below rb0, below_up h.below or_, below_up h.below y0, below_up h.below y1, below_up h.below y2⟩
                    replace HX := HX.ext (drew_ext _)
                    replace Fz := Fz.ext (drew_ext _)
                    replace Fy := Fy.ext (drew_ext _)
                    go_region_held3 (fun W' => W'.cell? ⟨g9, 0, none⟩ = some (.bool z.s) ∧ W'.cell? ⟨g9, 1, none⟩ = some (.slice z.A z.n z.c) ∧ W'.cell? ⟨g9, 2, none⟩ = some (.slice z.B z.m z.d) ∧ W'.cell? (ao.add q) = some (.int .i64 (j : Int)) ∧ W'.cell? (ad.add j) = some (.slice (some rb) n rcb) ∧ W'.cell? (ao.add r) = some (.int .i64 (k : Int)) ∧ W'.cell? (rb.add (k * 3)) = some (.bool y.s) ∧ W'.cell? ⟨(rb.add (k * 3)).block, (rb.add (k * 3)).off + 1, none⟩ = some (.slice y.A y.n y.c) ∧ W'.cell? ⟨(rb.add (k * 3)).block, (rb.add (k * 3)).off + 2, none⟩ = some (.slice y.B y.m y.d))
                      (exact held HX)
                      (first
                        | (go_at_call 58; refine (qcmp_r H2 Fz Fy (by omega) (by omega)).mono ?_; rintro e wz ⟨rfl, hb⟩; replace HX := HX.ext hb; replace Fz := Fz.ext hb; replace Fy := Fy.ext hb; clear hb))
                    clear held
                    all_goals (
                      go_wp2
                      go_roundg (l.length - (r + 1))
                      case measure => omega
                      case rel => exact ⟨r + 1, by omega, by omega, by rw [HSU.out, if_neg (by omega), if_neg (by omega)]; try go_num, by go_num, bel_trans hbw HX.below⟩))
            · obtain rfl : r = l.length := by omega
              have hG3 := hG2.out p q (l.length - (q + 1)) (by omega)
              go_wp2
              go_roundg (l.length - (q + 1))
              case measure => omega
              case rel => exact ⟨q + 1, by omega, by omega, by rw [hsq.out]; try go_num, by go_num, hbw⟩
        · obtain rfl : q = l.length := by omega
          have hF3 := hF2.out p (l.length - (p + 1)) (by omega)
          go_wp2
          go_roundg (l.length - (p + 1))
          case measure => omega
          case rel => exact ⟨p + 1, by omega, by rw [hsp.out]; try go_num, by go_num, hbw⟩
    · obtain rfl : p = l.length := by omega
      have hE3 := hE2.out l.length (by omega)
      have hfin := hE.out
      go_wp2
      go_ret2
      exact ⟨by rw [hfin]; rfl, hbw⟩
set_option maxHeartbeats 2000000 in
set_option maxRecDepth 100000 in
theorem revents_any {n E : Int} (A Ao : Option Addr) (c co : Nat) (rs : List RR) (l : List Int) (w : World) (H : ML w A rs) (hl : rs.length ≤ 9223372036854775807) (Ho : IEs w Ao l) (hlo : l.length ≤ 1000000) (hev : Hid (EvIs rs l n E)) :
    Calls Tryz.prog 23 #[.slice A rs.length c, .slice Ao l.length co] w (RetII w n E) := by
  by_cases h1 : MxV rs
  · by_cases h2 : IsOrd l rs.length
    · obtain ⟨ev, hE⟩ : ∃ ev, Hid (evs (mq (qOf rs)) l = ev) := ⟨_, Lib.hid rfl⟩
      obtain ⟨rfl, rfl⟩ : n = (ev : Int) ∧ E = 0 := by
        rcases hev.out with ⟨h, _⟩ | ⟨_, h, _⟩ | ⟨_, _, h3, h4⟩
        · exact absurd h1 h
        · exact absurd h2 h
        · exact ⟨by rw [h3, hE.out], h4⟩
      exact revents_go A Ao c co rs l w H hl Ho (by have := h2.len; have := h1.1; omega) (Lib.hid h1) (Lib.hid h2) hE
    · have T1 := Lib.hid (yes h1)
      have T2 := Lib.hid (no h2)
      obtain ⟨rfl, rfl⟩ : n = 0 ∧ E = 2 := by
        rcases hev.out with ⟨h, _⟩ | ⟨_, _, h3, h4⟩ | ⟨_, h, _⟩
        · exact absurd h1 h
        · exact ⟨h3, h4⟩
        · exact absurd h h2
      clear h1 h2 hev
      go_enter Tryz.func23, Tryz.ntmps23
      go_wp2_with fail
      refine (rvalid_any (b := true) A c rs _ H hl T1).mono ?_
      rintro e w1 ⟨rfl, hb1⟩
      replace Ho := Ho.ext hb1
      go_wp2_with fail
      refine (order_any (b := false) Ao co l rs.length _ Ho hlo T2).mono ?_
      rintro e w2 ⟨rfl, hb2⟩
      go_wp2
      go_ret2
      exact ⟨rfl, bel_trans hb1 hb2⟩
  · have T1 := Lib.hid (no h1)
    obtain ⟨rfl, rfl⟩ : n = 0 ∧ E = 1 := by
      rcases hev.out with ⟨_, h3, h4⟩ | ⟨h, _⟩ | ⟨h, _⟩
      · exact ⟨h3, h4⟩
      · exact absurd h h1
      · exact absurd h h1
    clear h1 hev
    go_enter Tryz.func23, Tryz.ntmps23
    go_wp2_with fail
    refine (rvalid_any (b := false) A c rs _ H hl T1).mono ?_
    rintro e w1 ⟨rfl, hb1⟩
    go_wp2
    go_ret2
    exact ⟨rfl, hb1⟩
set_option maxHeartbeats 2000000 in
set_option maxRecDepth 100000 in
theorem rrob_any {n E : Int} (A Ao : Option Addr) (c co : Nat) (rs : List RR) (l : List Int) (w : World) (H : ML w A rs) (hl : rs.length ≤ 9223372036854775807) (Ho : IEs w Ao l) (hlo : l.length ≤ 1000000) (hev : Hid (EvIs rs l n E)) :
    Calls Tryz.prog 25 #[.slice A rs.length c, .slice Ao l.length co] w (RetB w (E == 0 && n == 0)) := by
  have hcase : (E == 0) = true ∨ (E == 0) = false := by cases (E == 0) <;> simp
  go_enter Tryz.func25, Tryz.ntmps25
  go_wp2_with fail
  refine (revents_any A Ao c co rs l _ H hl Ho hlo hev).mono ?_
  rintro e w1 ⟨rfl, hb1⟩
  rcases hcase with hc | hc
  · go_wp2
    go_ret
    exact ⟨by rw [hc]; rfl, hb1⟩
  · go_wp2
    go_ret
    exact ⟨by rw [hc]; rfl, hb1⟩
end Go.Proofs.YthempimelfmipaaGreatDoor

namespace Go.Proofs.YthempimelfmipaaGreatDoor
open Go.RowKit Go.Proofs Go

/-- a fraction that is an argument -/
structure ArgF (w : World) (x : FE) : Prop where
  ex : ∃ l r, Lim w x.A x.c l ∧ Lim w x.B x.d r ∧ x.n = l.length ∧ x.m = r.length
  hn : x.n ≤ 9223372036854775807
  hm : x.m ≤ 9223372036854775807
/-- rows of fractions that are an argument -/
structure MG (w : World) (A : Option Addr) (rs : List RR) : Prop where
  row : MRow w A rs
  fs : ∀ (i : Nat) (r : RR), rs[i]? = some r → FS w r.A r.fs ∧ (∀ x ∈ r.fs, ArgF w x) ∧ r.fs.length ≤ 9223372036854775807
theorem MG.at_ {w : World} {A : Option Addr} {rs : List RR} (h : MG w A rs) {i : Nat} {r : RR} (hr : rs[i]? = some r) : ∃ ad, A = some ad ∧ ad.block < w.heap.size ∧ w.cell? (ad.add i) = some (.slice r.A r.fs.length r.c) ∧ FS w r.A r.fs ∧ (∀ x ∈ r.fs, ArgF w x) ∧ r.fs.length ≤ 9223372036854775807 := by
  have hi := (List.getElem?_eq_some_iff.1 hr).1
  obtain ⟨ad, h1, h2, h3⟩ := h.row (by omega)
  exact ⟨ad, h1, h2, h3 i r hr, h.fs i r hr⟩
theorem ArgF.ext {w w' : World} {x : FE} (h : ArgF w x) (hb : Below w.heap.size w w') : ArgF w' x := by
  obtain ⟨l, r, a, b, c, d⟩ := h.ex
  exact ⟨⟨l, r, a.ext hb, b.ext hb, c, d⟩, h.hn, h.hm⟩
theorem MG.ext {w w' : World} {A : Option Addr} {rs : List RR} (h : MG w A rs) (hb : Below w.heap.size w w') : MG w' A rs :=
  ⟨h.row.ext hb, fun i r hr => ⟨(h.fs i r hr).1.ext hb, fun x hx => ((h.fs i r hr).2.1 x hx).ext hb, (h.fs i r hr).2.2⟩⟩
/-- few limbs: the rows' numbers -/
theorem MG.ml {w : World} {A : Option Addr} {rs : List RR} (h : MG w A rs) (hs : ∀ (i : Nat) (r : RR), rs[i]? = some r → ∀ x ∈ r.fs, x.n ≤ 4 ∧ x.m ≤ 4) : ∃ rs' : List RR, rs'.length = rs.length ∧ ML w A rs' := by
  obtain ⟨f, hf⟩ : ∃ f : FE → Rat, ∀ x, (∃ q, Fr w x.s x.A x.n x.c x.B x.m x.d q 6) → Fr w x.s x.A x.n x.c x.B x.m x.d (f x) 6 :=
    ⟨fun x => Classical.epsilon fun q => Fr w x.s x.A x.n x.c x.B x.m x.d q 6, fun x hx => Classical.epsilon_spec hx⟩
  refine ⟨rs.map fun r => ⟨r.A, r.c, r.fs, r.fs.map f⟩, by rw [List.length_map], fun h0 => ?_, fun i r' hr' => ?_⟩
  · rw [List.length_map] at h0
    obtain ⟨ad, h1, h2, h3⟩ := h.row h0
    refine ⟨ad, h1, h2, fun i r' hr' => ?_⟩
    rw [List.getElem?_map] at hr'
    obtain ⟨r, hr, rfl⟩ := Option.map_eq_some_iff.1 hr'
    exact h3 i r hr
  · rw [List.getElem?_map] at hr'
    obtain ⟨r, hr, rfl⟩ := Option.map_eq_some_iff.1 hr'
    obtain ⟨g1, g2, g3⟩ := h.fs i r hr
    refine ⟨g1, ⟨(List.length_map _).symm, fun j x q hx hq => ?_⟩, g3⟩
    have hq : (r.fs.map f)[j]? = some q := hq
    have hx : r.fs[j]? = some x := hx
    rw [List.getElem?_map, hx] at hq
    obtain rfl := Option.some.inj hq
    have hm := List.mem_of_getElem? hx
    obtain ⟨l, m, a, b, c, d⟩ := (g2 x hm).ex
    obtain ⟨h4, h5⟩ := hs i r hr x hm
    exact hf x ⟨_, ⟨l, m, a, b, c, d, rfl⟩, by omega, by omega⟩
set_option maxHeartbeats 2000000 in
set_option maxRecDepth 100000 in
theorem ev_rows {A Ao : Option Addr} {c co : Nat} {rs : List RR} {l : List Int} (w : World) (hT : Tab w) (_H : MG w A rs) (hl : rs.length ≤ 9223372036854775807) (_Ho : IEs w Ao l) (_hlo : l.length ≤ 9223372036854775807) (h8 : 8 < rs.length) :
    Calls Tryz.prog 5 #[.slice A rs.length c, .slice Ao l.length co] w (RetB w true) := by
  have d1 : decide ((8 : Int) < (rs.length : Int)) = true := decide_eq_true (by omega)
  go_enter Tryz.func5, Tryz.ntmps5
  go_wp2_with fail
  refine (awake_any _ hT).mono ?_
  rintro e w1 ⟨rfl, hbx⟩
  replace hT := hT.ext hbx
  go_wp2_with fail
  refine (awake_any _ hT).mono ?_
  rintro e wz ⟨rfl, hb⟩
  go_wp2
  go_ret
  exact ⟨rfl, bel_trans hbx hb⟩
set_option maxHeartbeats 2000000 in
set_option maxRecDepth 100000 in
theorem ev_long {A Ao : Option Addr} {c co : Nat} {rs : List RR} {l : List Int} (w : World) (hT : Tab w) (_H : MG w A rs) (hl : rs.length ≤ 9223372036854775807) (_Ho : IEs w Ao l) (hlo : l.length ≤ 9223372036854775807) (h8 : rs.length ≤ 8) (h10 : 10 < l.length) :
    Calls Tryz.prog 5 #[.slice A rs.length c, .slice Ao l.length co] w (RetB w true) := by
  have d1 : decide ((8 : Int) < (rs.length : Int)) = false := decide_eq_false (by omega)
  have d2 : decide ((10 : Int) < (l.length : Int)) = true := decide_eq_true (by omega)
  go_enter Tryz.func5, Tryz.ntmps5
  go_wp2_with fail
  refine (awake_any _ hT).mono ?_
  rintro e w1 ⟨rfl, hbx⟩
  replace hT := hT.ext hbx
  go_wp2_with fail
  refine (awake_any _ hT).mono ?_
  rintro e wz ⟨rfl, hb⟩
  go_wp2
  go_ret
  exact ⟨rfl, bel_trans hbx hb⟩
set_option maxHeartbeats 8000000 in
set_option maxRecDepth 100000 in
theorem ev_ok {A Ao : Option Addr} {c co : Nat} {rs : List RR} {l : List Int} (w : World) (hT : Tab w) (H : MG w A rs) (hl : rs.length ≤ 9223372036854775807) (Ho : IEs w Ao l) (hlo : l.length ≤ 9223372036854775807) (h8 : rs.length ≤ 8) (h10 : l.length ≤ 10) :
    Calls Tryz.prog 5 #[.slice A rs.length c, .slice Ao l.length co] w (RetB w true) := by
  have d1 : decide ((8 : Int) < (rs.length : Int)) = false := decide_eq_false (by omega)
  have d2 : decide ((10 : Int) < (l.length : Int)) = false := decide_eq_false (by omega)
  go_enter Tryz.func5, Tryz.ntmps5
  go_wp2_with fail
  refine (awake_any _ hT).mono ?_
  rintro e w1 ⟨rfl, hbx⟩
  replace hT := hT.ext hbx
  replace H := H.ext hbx
  replace Ho := Ho.ext hbx
  clear hT
  go_wp2
  go_loopg [5] rs.length (fun g u wr => ∃ i : Nat, i + g = rs.length ∧ u = .int .i64 (i : Int) ∧ Hid (∀ (j : Nat) (r : RR), j < i → rs[j]? = some r → ∀ x ∈ r.fs, x.n ≤ 4 ∧ x.m ≤ 4) ∧ Below w1.heap.size w1 wr)
  case atStart => exact ⟨0, by omega, rfl, Lib.hid (fun j r h => by omega), Below.refl _ _⟩
  case round =>
    obtain ⟨i, hi, rfl, hsm, hbw⟩ := hrel
    by_cases hi0 : i < rs.length
    · have hr := Lib.hid (List.getElem?_eq_getElem hi0)
      obtain ⟨ad, rfl, hbk, c0, FSr, HAr, hrl⟩ := (H.ext hbw).at_ hr.out
      generalize rs[i] = r at *
      by_cases h9 : 8 < r.fs.length
      · have d3 : decide ((8 : Int) < (r.fs.length : Int)) = true := decide_eq_true (by omega)
        go_wp2
        go_ret
        exact ⟨rfl, bel_trans hbx hbw⟩
      · have d3 : decide ((8 : Int) < (r.fs.length : Int)) = false := decide_eq_false (by omega)
        obtain ⟨V, hV⟩ : ∃ V, V = wr := ⟨_, rfl⟩
        have hVb : Below V.heap.size V wr := by rw [hV]; exact Below.refl _ _
        have RA := c0
        rw [← hV] at FSr RA
        clear hV HAr
        go_wp2
        go_loopg [6] r.fs.length (fun g u wr => ∃ k : Nat, k + g = r.fs.length ∧ u = .int .i64 (k : Int) ∧ Hid (∀ (j : Nat) (x : FE), j < k → r.fs[j]? = some x → x.n ≤ 4 ∧ x.m ≤ 4) ∧ Below w1.heap.size w1 wr ∧ Below V.heap.size V wr)
        case atStart => exact ⟨0, by omega, rfl, Lib.hid (fun j r h => by omega), hbw, hVb⟩
        case round =>
          clear hbw hVb c0
          obtain ⟨k, hk, rfl, hsk, hbw, hVb⟩ := hrel
          have c0 := below_up hVb RA
          by_cases hk0 : k < r.fs.length
          · have hx := Lib.hid (List.getElem?_eq_getElem hk0)
            obtain ⟨ra, hra, _, x0, x1, x2⟩ := (FSr.ext hVb).at_ hx.out
            rw [hra] at c0
            generalize r.fs[k] = x at *
            have hsn0 := show (x.n ≤ 4 ∧ x.m ≤ 4) → ∀ (j : Nat) (y : FE), j < k + 1 → r.fs[j]? = some y → y.n ≤ 4 ∧ y.m ≤ 4 from fun h j y hj hy => by
              by_cases hjk : j < k
              · exact hsk.out j y hjk hy
              · obtain rfl : j = k := by omega
                rw [hx.out] at hy
                obtain rfl := Option.some.inj hy
                exact h
            have hsn := Lib.hid hsn0
            clear hsn0
            by_cases hxn : x.n ≤ 4
            · have e1 : decide ((4 : Int) < (x.n : Int)) = false := decide_eq_false (by omega)
              by_cases hxm : x.m ≤ 4
              · have e2 : decide ((4 : Int) < (x.m : Int)) = false := decide_eq_false (by omega)
                have hsk2 := Lib.hid (hsn.out ⟨hxn, hxm⟩)
                clear hsn hra
                go_wp2
                go_roundg (r.fs.length - (k + 1))
                case measure => omega
                case rel => exact ⟨k + 1, by omega, by go_num, hsk2, hbw, hVb⟩
              · have e2 : decide ((4 : Int) < (x.m : Int)) = true := decide_eq_true (by omega)
                clear hsn hra
                go_wp2
                go_ret
                exact ⟨rfl, bel_trans hbx hbw⟩
            · have e1 : decide ((4 : Int) < (x.n : Int)) = true := decide_eq_true (by omega)
              clear hsn hra
              go_wp2
              go_ret
              exact ⟨rfl, bel_trans hbx hbw⟩
          · have hsn := Lib.hid (show ∀ (j : Nat) (r : RR), j < i + 1 → rs[j]? = some r → ∀ x ∈ r.fs, x.n ≤ 4 ∧ x.m ≤ 4 from fun j r' hj hr' x hx => by
              by_cases hji : j < i
              · exact hsm.out j r' hji hr' x hx
              · obtain rfl : j = i := by omega
                rw [hr.out] at hr'
                obtain rfl := Option.some.inj hr'
                obtain ⟨m, hm⟩ := List.getElem?_of_mem hx
                have hml := (List.getElem?_eq_some_iff.1 hm).1
                exact hsk.out m x (by omega) hm)
            go_wp2
            go_roundg (rs.length - (i + 1))
            case measure => omega
            case rel => exact ⟨i + 1, by omega, by go_num, hsn, hbw⟩
    · obtain ⟨rs2, hrl2, HM⟩ := (H.ext hbw).ml fun j r hr => hsm.out j r (by have := (List.getElem?_eq_some_iff.1 hr).1; omega) hr
      have hrl := Lib.hid hrl2
      replace Ho := Ho.ext hbw
      replace hbx := bel_trans hbx hbw
      obtain ⟨n, E, hev⟩ := EvIs.ex rs2 l
      have HE := Lib.hid hev
      obtain ⟨b, hb⟩ : ∃ b, (E == 0 && n == 0) = b := ⟨_, rfl⟩
      have HB := Lib.hid hb
      clear hev hb hbw hrl2 hsm H
      have cE : Calls Tryz.prog 22 #[.slice A rs.length c, .slice Ao l.length co] wr (RetII wr n E) := by
        have h := Events_any A Ao c co rs2 l wr HM (by rw [hrl.out]; exact hl) Ho (by omega) HE
        rw [hrl.out] at h
        exact h
      go_wp2_with fail
      refine cE.mono ?_
      rintro e w5 ⟨rfl, hb⟩
      clear cE
      replace HM := HM.ext hb
      replace Ho := Ho.ext hb
      replace hbx := bel_trans hbx hb
      clear hb
      have cE : Calls Tryz.prog 23 #[.slice A rs.length c, .slice Ao l.length co] w5 (RetII w5 n E) := by
        have h := revents_any A Ao c co rs2 l w5 HM (by rw [hrl.out]; exact hl) Ho (by omega) HE
        rw [hrl.out] at h
        exact h
      go_wp2_with fail
      refine cE.mono ?_
      rintro e w6 ⟨rfl, hb⟩
      clear cE
      replace HM := HM.ext hb
      replace Ho := Ho.ext hb
      replace hbx := bel_trans hbx hb
      clear hb
      have cE : Calls Tryz.prog 24 #[.slice A rs.length c, .slice Ao l.length co] w6 (RetB w6 b) := by
        have h := robinson_any A Ao c co rs2 l w6 HM (by rw [hrl.out]; exact hl) Ho (by omega) HE
        rw [hrl.out] at h
        rw [HB.out] at h
        exact h
      go_wp2_with fail
      refine cE.mono ?_
      rintro e w7 ⟨rfl, hb⟩
      clear cE
      replace HM := HM.ext hb
      replace Ho := Ho.ext hb
      replace hbx := bel_trans hbx hb
      clear hb
      have cE : Calls Tryz.prog 25 #[.slice A rs.length c, .slice Ao l.length co] w7 (RetB w7 b) := by
        have h := rrob_any A Ao c co rs2 l w7 HM (by rw [hrl.out]; exact hl) Ho (by omega) HE
        rw [hrl.out] at h
        rw [HB.out] at h
        exact h
      go_wp2_with fail
      refine cE.mono ?_
      rintro e w8 ⟨rfl, hb⟩
      clear cE
      replace HM := HM.ext hb
      replace Ho := Ho.ext hb
      replace hbx := bel_trans hbx hb
      clear hb
      cases b <;> (go_wp2; go_ret; exact ⟨by first | rfl | simp, hbx⟩)
set_option maxHeartbeats 1000000 in
set_option maxRecDepth 100000 in
theorem eventsS_any {A Ao : Option Addr} {c co : Nat} {rs : List RR} {l : List Int} (w : World) (hT : Tab w) (H : MG w A rs) (hl : rs.length ≤ 9223372036854775807) (Ho : IEs w Ao l) (hlo : l.length ≤ 9223372036854775807) :
    Calls Tryz.prog 5 #[.slice A rs.length c, .slice Ao l.length co] w (RetB w true) := by
  by_cases h8 : rs.length ≤ 8
  · by_cases h10 : l.length ≤ 10
    · exact ev_ok w hT H hl Ho hlo h8 h10
    · exact ev_long w hT H hl Ho hlo h8 (by omega)
  · exact ev_rows w hT H hl Ho hlo (by omega)
end Go.Proofs.YthempimelfmipaaGreatDoor
