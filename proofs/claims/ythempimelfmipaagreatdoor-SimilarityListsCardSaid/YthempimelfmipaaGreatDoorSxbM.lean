/- The first order with the fewest events. -/
import Derived.Test.YthempimelfmipaaGreatDoorSxmM
import Derived.Test.YthempimelfmipaaGreatDoorSortIM
namespace Go.Proofs.YthempimelfmipaaGreatDoor
open Go.RowKit Go.Proofs Go

theorem ups_asc (n : Nat) : (ups n).Pairwise (· ≤ ·) := by
  rw [ups, List.pairwise_map]
  exact List.pairwise_lt_range.imp fun h => by omega
theorem srt_ord {l : List Int} {n : Nat} (h : IsOrd l n) : srt l = ups n := (srt_unique h.symm (ups_asc n)).symm
theorem el_ups {n i : Nat} (h : i < n) : el (ups n) i = (i : Int) := by
  rw [el, ups, List.getElem?_map, List.getElem?_range h]; rfl
theorem ord_of {l : List Int} (h : ∀ i, i < l.length → el (srt l) i = (i : Int)) : IsOrd l l.length := by
  have e : srt l = ups l.length := by
    refine List.ext_getElem (by rw [srt_len, ups_len]) fun i h1 h2 => ?_
    have h3 := h i (by rw [srt_len] at h1; exact h1)
    have h4 := el_ups (show i < l.length by rw [srt_len] at h1; exact h1)
    rw [el, List.getElem?_eq_getElem h1] at h3
    rw [el, List.getElem?_eq_getElem h2] at h4
    exact h3.trans h4.symm
  rw [IsOrd, ← e]; exact (srt_perm l).symm
set_option maxHeartbeats 2000000 in
set_option maxRecDepth 100000 in
theorem perm_any {b : Bool} (A : Option Addr) (c : Nat) (l : List Int) (n : Nat) (w : World) (H : IEs w A l) (hl : l.length ≤ 1000000) (hb : Hid (Tells b (IsOrd l n))) :
    Calls Tryz.prog 54 #[.slice A l.length c, .int .i64 (n : Int)] w (RetB w b) := by
  go_enter Tryz.func54, Tryz.ntmps54
  go_wp2_with fail
  refine (values_h A l.length c w).mono ?_
  rintro e w1 ⟨rfl, hw⟩
  have hb1 := below_alloc w (.cells #[.slice A l.length c] 50)
  have hg1 : w1.cell? ⟨w.heap.size, 0, none⟩ = some (.slice A l.length c) := by rw [hw]; exact al_at rfl _ rfl
  rw [← hw] at hb1
  replace H := H.ext hb1
  clear hw
  go_wp2_with fail
  refine (sorted_h w1 hg1 H hl).mono ?_
  rintro e w2 ⟨A2, c2, rfl, HS, hcap, hb2⟩
  replace hb1 := bel_trans hb1 hb2
  clear hb2 H hg1
  have hsl := Lib.hid (srt_len l)
  obtain ⟨s, hs⟩ : ∃ s, Hid (srt l = s) := ⟨_, Lib.hid rfl⟩
  rw [hs.out] at HS hcap hsl
  have hsl1 : s.length ≤ 1000000 := by have := hsl.out; omega
  rw [show (srt l).length = s.length by rw [hs.out]]
  go_upto_block 2 with fail
  go_loopg [11] s.length (fun g i wr => ∃ k : Nat, k + g = s.length ∧ i = .int .i64 (k : Int) ∧ Hid (∀ j, j < k → el s j = (j : Int)) ∧ Below w2.heap.size w2 wr)
  case atStart => exact ⟨0, by omega, rfl, Lib.hid (fun j h => by omega), Below.refl _ _⟩
  case round =>
    obtain ⟨k, hk, rfl, hok, hbw⟩ := hrel
    by_cases hk0 : k < s.length
    · obtain ⟨ad, rfl, hbk, c0⟩ := (HS.ext hbw).at_ (el_get hk0)
      by_cases he : el s k = (k : Int)
      · have hnx := Lib.hid (show ∀ j, j < k + 1 → el s j = (j : Int) from fun j hj => by
          by_cases h : j < k
          · exact hok.out j h
          · obtain rfl : j = k := by omega
            exact he)
        rw [he] at c0
        clear he
        go_wp2
        go_roundg (s.length - (k + 1))
        case measure => omega
        case rel => exact ⟨k + 1, by omega, by go_num, hnx, hbw⟩
      · obtain rfl : b = false := hb.out.f fun h => he (by
          have e1 := h.len
          have e2 := hsl.out
          rw [← hs.out, srt_ord h, el_ups (by omega)])
        have hne : ((k : Int) != el s k) = true := bne_iff_ne.2 fun h => he h.symm
        clear he
        generalize el s k = x at *
        go_wp2
        go_ret
        exact ⟨rfl, bel_trans hb1 hbw⟩
    · have hall := Lib.hid (ord_of (l := l) fun i hi => by rw [hs.out]; exact hok.out i (by have := hsl.out; omega))
      have hfin : ((l.length : Int) == (n : Int)) = b := by
        cases b with
        | true => rw [beq_iff_eq]; have := (hb.out.1 rfl).len; omega
        | false =>
          rw [beq_eq_false_iff_ne]
          intro h
          have h : l.length = n := by omega
          have := hb.out.2 (h ▸ hall.out)
          cases this
      go_wp2
      go_ret
      exact ⟨by rw [← hfin]; rfl, bel_trans hb1 hbw⟩
/-- a matrix: at most six rows, square, symmetric -/
def MxV (rs : List RR) : Prop := rs.length ≤ 6 ∧ Sqr rs rs.length ∧ ∀ i j : Nat, j < i → i < rs.length → mq (qOf rs) (i : Int) (j : Int) = mq (qOf rs) (j : Int) (i : Int)
set_option maxHeartbeats 8000000 in
set_option maxRecDepth 100000 in
theorem matrixv_any {b : Bool} (A : Option Addr) (c : Nat) (rs : List RR) (w : World) (H : ML w A rs) (hl : rs.length ≤ 9223372036854775807) (hb : Hid (Tells b (MxV rs))) :
    Calls Tryz.prog 53 #[.slice A rs.length c] w (RetB w b) := by
  go_enter Tryz.func53, Tryz.ntmps53
  go_upto_block 2 with fail
  go_loopg [10] rs.length (fun g i wr => ∃ k : Nat, k + g = rs.length ∧ i = .int .i64 (k : Int) ∧ Hid (∀ (j : Nat) (r : RR), j < k → rs[j]? = some r → r.fs.length = rs.length) ∧ Below w.heap.size w wr)
  case atStart => exact ⟨0, by omega, rfl, Lib.hid (fun j r h => by omega), Below.refl _ _⟩
  case round =>
    obtain ⟨k, hk, rfl, hok, hbw⟩ := hrel
    by_cases hk0 : k < rs.length
    · have hr := Lib.hid (List.getElem?_eq_getElem hk0)
      obtain ⟨ad, rfl, hbk, c0, _, _, hrl⟩ := (H.ext hbw).at_ hr.out
      generalize rs[k] = r at *
      by_cases he : r.fs.length = rs.length
      · have hnx := Lib.hid (show ∀ (j : Nat) (r : RR), j < k + 1 → rs[j]? = some r → r.fs.length = rs.length from fun j r' hj hr' => by
          by_cases h : j < k
          · exact hok.out j r' h hr'
          · obtain rfl : j = k := by omega
            rw [hr.out] at hr'
            obtain rfl := Option.some.inj hr'
            exact he)
        rw [he] at c0
        clear he
        go_wp2
        go_roundg (rs.length - (k + 1))
        case measure => omega
        case rel => exact ⟨k + 1, by omega, by go_num, hnx, hbw⟩
      · obtain rfl : b = false := hb.out.f fun h => he (h.2.1.2 k r hr.out)
        have hne : ((r.fs.length : Int) != (rs.length : Int)) = true := bne_iff_ne.2 fun h => he (by omega)
        clear he
        go_wp2
        go_ret
        exact ⟨rfl, hbw⟩
    · have HS : Hid (Sqr rs rs.length) := Lib.hid ⟨rfl, fun j r hr => hok.out j r (by have := (List.getElem?_eq_some_iff.1 hr).1; omega) hr⟩
      clear hok
      by_cases h6 : rs.length ≤ 6
      · have h6b : decide ((6 : Int) < (rs.length : Int)) = false := decide_eq_false (by omega)
        obtain ⟨M, hM⟩ : ∃ M, Hid (mq (qOf rs) = M) := ⟨_, Lib.hid rfl⟩
        go_wp2
        go_loopg [25] rs.length (fun g i wr => ∃ k : Nat, k + g = rs.length ∧ i = .int .i64 (k : Int) ∧ Hid (∀ i j : Nat, j < i → i < k → M i j = M j i) ∧ Below w.heap.size w wr)
        case atStart => exact ⟨0, by omega, rfl, Lib.hid (fun i j h1 h2 => by omega), hbw⟩
        case round =>
          clear hbw
          obtain ⟨i, hi, rfl, hok, hbw⟩ := hrel
          by_cases hi0 : i < rs.length
          · obtain ⟨ad, ra, rca, fa, qa, hA1, hb1, hb2, ra0, na, FSa, FKa, ea⟩ := (H.ext hbw).rowN HS.out hi0
            subst hA1
            obtain ⟨V, hV⟩ : ∃ V, V = wr := ⟨_, rfl⟩
            have hVb : Below V.heap.size V wr := by rw [hV]; exact Below.refl _ _
            rw [← hV] at FSa FKa
            clear hV
            go_wp2
            go_loopg [31] i (fun g u wr => ∃ k : Nat, k + g = i ∧ u = .int .i64 (k : Int) ∧ Hid (∀ j : Nat, j < k → M i j = M j i) ∧ Below w.heap.size w wr ∧ Below V.heap.size V wr)
            case atStart => exact ⟨0, by omega, rfl, Lib.hid (fun j h => by omega), hbw, hVb⟩
            case round =>
              clear hbw hVb
              obtain ⟨k, hk, rfl, hkk, hbw, hVb⟩ := hrel
              by_cases hk0 : k < i
              · have hkn : k < rs.length := by omega
                obtain ⟨ad', rb, rcb, fb, qb, hA2, hb3, hb4, rb0, nb, FSb, FKb, eb⟩ := (H.ext hbw).rowN HS.out hkn
                obtain rfl := Option.some.inj hA2
                obtain ⟨x, x0, x1, x2, Fx⟩ := elN (FSa.ext hVb) (FKa.ext hVb) na hkn
                obtain ⟨y, y0, y1, y2, Fy⟩ := elN FSb FKb nb hi0
                rw [ea k, hM.out] at Fx
                rw [eb i, hM.out] at Fy
                clear FSb FKb nb eb hA2
                obtain ⟨s, H1⟩ : ∃ s, Hid (cmpQ (M i k) (M k i) = s) := ⟨_, Lib.hid rfl⟩
                by_cases hs0 : s = 0
                · subst hs0
                  have hnx := Lib.hid (show ∀ j : Nat, j < k + 1 → M i j = M j i from fun j hj => by
                    by_cases h : j < k
                    · exact hkk.out j h
                    · obtain rfl : j = k := by omega
                      exact cmpQ_zero.1 H1.out)
                  go_upto_region 15 with fail
                  have HX := BL.nil wr
                  have held : ∀ {W' : World}, BL wr W' [] → W'.cell? (ra.add (k * 3)) = some (.bool x.s) ∧ W'.cell? ⟨(ra.add (k * 3)).block, (ra.add (k * 3)).off + 1, none⟩ = some (.slice x.A x.n x.c) ∧ W'.cell? ⟨(ra.add (k * 3)).block, (ra.add (k * 3)).off + 2, none⟩ = some (.slice x.B x.m x.d) ∧ W'.cell? (ad.add k) = some (.slice (some rb) rs.length rcb) ∧ W'.cell? (rb.add (i * 3)) = some (.bool y.s) ∧ W'.cell? ⟨(rb.add (i * 3)).block, (rb.add (i * 3)).off + 1, none⟩ = some (.slice y.A y.n y.c) ∧ W'.cell? ⟨(rb.add (i * 3)).block, (rb.add (i * 3)).off + 2, none⟩ = some (.slice y.B y.m y.d) := fun h => ⟨below_up h.below x0, below_up h.below x1, below_up h.below x2, below_up h.below rb0, below_up h.below y0, below_up h.below y1, below_up h.below y2⟩
                  replace HX := HX.ext (drew_ext _)
                  replace Fx := Fx.ext (drew_ext _)
                  replace Fy := Fy.ext (drew_ext _)
                  go_region_held3 (fun W' => W'.cell? (ra.add (k * 3)) = some (.bool x.s) ∧ W'.cell? ⟨(ra.add (k * 3)).block, (ra.add (k * 3)).off + 1, none⟩ = some (.slice x.A x.n x.c) ∧ W'.cell? ⟨(ra.add (k * 3)).block, (ra.add (k * 3)).off + 2, none⟩ = some (.slice x.B x.m x.d) ∧ W'.cell? (ad.add k) = some (.slice (some rb) rs.length rcb) ∧ W'.cell? (rb.add (i * 3)) = some (.bool y.s) ∧ W'.cell? ⟨(rb.add (i * 3)).block, (rb.add (i * 3)).off + 1, none⟩ = some (.slice y.A y.n y.c) ∧ W'.cell? ⟨(rb.add (i * 3)).block, (rb.add (i * 3)).off + 2, none⟩ = some (.slice y.B y.m y.d))
                    (exact held HX)
                    (first
                      | (go_at_call 17; refine (fcmp_h H1 Fx Fy (by omega) (by omega)).mono ?_; rintro e wz ⟨rfl, hb⟩; replace HX := HX.ext hb; replace Fx := Fx.ext hb; replace Fy := Fy.ext hb; clear hb))
                  clear held
                  all_goals (
                    go_wp2
                    go_roundg (i - (k + 1))
                    case measure => omega
                    case rel => exact ⟨k + 1, by omega, by go_num, hnx, bel_trans hbw HX.below, bel_trans hVb HX.below⟩)
                · obtain rfl : b = false := hb.out.f fun h => hs0 (by rw [← H1.out]; exact cmpQ_eq (by rw [← hM.out]; exact h.2.2 i k hk0 hi0))
                  have hne : (s != 0) = true := bne_iff_ne.2 hs0
                  clear hs0
                  go_upto_region 15 with fail
                  have HX := BL.nil wr
                  have held : ∀ {W' : World}, BL wr W' [] → W'.cell? (ra.add (k * 3)) = some (.bool x.s) ∧ W'.cell? ⟨(ra.add (k * 3)).block, (ra.add (k * 3)).off + 1, none⟩ = some (.slice x.A x.n x.c) ∧ W'.cell? ⟨(ra.add (k * 3)).block, (ra.add (k * 3)).off + 2, none⟩ = some (.slice x.B x.m x.d) ∧ W'.cell? (ad.add k) = some (.slice (some rb) rs.length rcb) ∧ W'.cell? (rb.add (i * 3)) = some (.bool y.s) ∧ W'.cell? ⟨(rb.add (i * 3)).block, (rb.add (i * 3)).off + 1, none⟩ = some (.slice y.A y.n y.c) ∧ W'.cell? ⟨(rb.add (i * 3)).block, (rb.add (i * 3)).off + 2, none⟩ = some (.slice y.B y.m y.d) := fun h => ⟨below_up h.below x0, below_up h.below x1, below_up h.below x2, below_up h.below rb0, below_up h.below y0, below_up h.below y1, below_up h.below y2⟩
                  replace HX := HX.ext (drew_ext _)
                  replace Fx := Fx.ext (drew_ext _)
                  replace Fy := Fy.ext (drew_ext _)
                  go_region_held3 (fun W' => W'.cell? (ra.add (k * 3)) = some (.bool x.s) ∧ W'.cell? ⟨(ra.add (k * 3)).block, (ra.add (k * 3)).off + 1, none⟩ = some (.slice x.A x.n x.c) ∧ W'.cell? ⟨(ra.add (k * 3)).block, (ra.add (k * 3)).off + 2, none⟩ = some (.slice x.B x.m x.d) ∧ W'.cell? (ad.add k) = some (.slice (some rb) rs.length rcb) ∧ W'.cell? (rb.add (i * 3)) = some (.bool y.s) ∧ W'.cell? ⟨(rb.add (i * 3)).block, (rb.add (i * 3)).off + 1, none⟩ = some (.slice y.A y.n y.c) ∧ W'.cell? ⟨(rb.add (i * 3)).block, (rb.add (i * 3)).off + 2, none⟩ = some (.slice y.B y.m y.d))
                    (exact held HX)
                    (first
                      | (go_at_call 17; refine (fcmp_h H1 Fx Fy (by omega) (by omega)).mono ?_; rintro e wz ⟨rfl, hb⟩; replace HX := HX.ext hb; replace Fx := Fx.ext hb; replace Fy := Fy.ext hb; clear hb))
                  clear held
                  all_goals (
                    go_wp2
                    go_ret
                    exact ⟨rfl, bel_trans hbw HX.below⟩)
              · obtain rfl : k = i := by omega
                have hnx := Lib.hid (show ∀ a j : Nat, j < a → a < k + 1 → M a j = M j a from fun a j h1 h2 => by
                  by_cases h : a < k
                  · exact hok.out a j h1 h
                  · obtain rfl : a = k := by omega
                    exact hkk.out j h1)
                go_wp2
                go_roundg (rs.length - (k + 1))
                case measure => omega
                case rel => exact ⟨k + 1, by omega, by go_num, hnx, hbw⟩
          · obtain rfl : b = true := hb.out.t ⟨h6, HS.out, fun a j h1 h2 => by rw [hM.out]; exact hok.out a j h1 (by omega)⟩
            go_wp2
            go_ret
            exact ⟨rfl, hbw⟩
      · obtain rfl : b = false := hb.out.f fun h => h6 h.1
        have h6b : decide ((6 : Int) < (rs.length : Int)) = true := decide_eq_true (by omega)
        go_wp2
        go_ret
        exact ⟨rfl, hbw⟩
/-- the events of an order, and the error -/
def EvIs (rs : List RR) (l : List Int) (n E : Int) : Prop := (¬ MxV rs ∧ n = 0 ∧ E = 1) ∨ (MxV rs ∧ ¬ IsOrd l rs.length ∧ n = 0 ∧ E = 2) ∨ (MxV rs ∧ IsOrd l rs.length ∧ n = (evs (mq (qOf rs)) l : Int) ∧ E = 0)
theorem EvIs.ex (rs : List RR) (l : List Int) : ∃ n E, EvIs rs l n E := by
  by_cases h1 : MxV rs
  · by_cases h2 : IsOrd l rs.length
    · exact ⟨_, _, .inr (.inr ⟨h1, h2, rfl, rfl⟩)⟩
    · exact ⟨_, _, .inr (.inl ⟨h1, h2, rfl, rfl⟩)⟩
  · exact ⟨_, _, .inl ⟨h1, rfl, rfl⟩⟩
def RetII (w : World) (n E : Int) (e : Ending) (w' : World) : Prop := e = .returned (.tuple #[.int .i64 n, .int .i64 E]) ∧ Below w.heap.size w w'
set_option maxHeartbeats 2000000 in
set_option maxRecDepth 100000 in
theorem Events_any {n E : Int} (A Ao : Option Addr) (c co : Nat) (rs : List RR) (l : List Int) (w : World) (H : ML w A rs) (hl : rs.length ≤ 9223372036854775807) (Ho : IEs w Ao l) (hlo : l.length ≤ 1000000) (hev : Hid (EvIs rs l n E)) :
    Calls Tryz.prog 22 #[.slice A rs.length c, .slice Ao l.length co] w (RetII w n E) := by
  by_cases h1 : MxV rs
  · have T1 := Lib.hid (yes h1)
    by_cases h2 : IsOrd l rs.length
    · have T2 := Lib.hid (yes h2)
      have HS := Lib.hid h1.2.1
      have h6 := h1.1
      have hll := Lib.hid h2.len
      have hbd := Lib.hid (show ∀ x ∈ l, 0 ≤ x ∧ x < (rs.length : Int) from fun x hx => h2.bd hx)
      obtain ⟨ev, hE⟩ : ∃ ev, Hid (evs (mq (qOf rs)) l = ev) := ⟨_, Lib.hid rfl⟩
      obtain ⟨rfl, rfl⟩ : n = (ev : Int) ∧ E = 0 := by
        rcases hev.out with ⟨h, _⟩ | ⟨_, h, _⟩ | ⟨_, _, h3, h4⟩
        · exact absurd h1 h
        · exact absurd h2 h
        · exact ⟨by rw [h3, hE.out], h4⟩
      clear h1 h2 hev
      go_enter Tryz.func22, Tryz.ntmps22
      go_wp2_with fail
      refine (matrixv_any (b := true) A c rs _ H hl T1).mono ?_
      rintro e w1 ⟨rfl, hb1⟩
      replace H := H.ext hb1
      replace Ho := Ho.ext hb1
      go_wp2_with fail
      refine (perm_any (b := true) Ao co l rs.length _ Ho hlo T2).mono ?_
      rintro e w2 ⟨rfl, hb2⟩
      replace H := H.ext hb2
      replace Ho := Ho.ext hb2
      go_wp2_with fail
      refine (events_any A Ao c co rs l rs.length _ H HS.out Ho (by have := hll.out; omega) hbd.out (by omega) hE).mono ?_
      rintro e w3 ⟨rfl, hb3⟩
      go_wp2
      go_ret2
      exact ⟨rfl, bel_trans (bel_trans hb1 hb2) hb3⟩
    · have T2 := Lib.hid (no h2)
      obtain ⟨rfl, rfl⟩ : n = 0 ∧ E = 2 := by
        rcases hev.out with ⟨h, _⟩ | ⟨_, _, h3, h4⟩ | ⟨_, h, _⟩
        · exact absurd h1 h
        · exact ⟨h3, h4⟩
        · exact absurd h h2
      clear h1 h2 hev
      go_enter Tryz.func22, Tryz.ntmps22
      go_wp2_with fail
      refine (matrixv_any (b := true) A c rs _ H hl T1).mono ?_
      rintro e w1 ⟨rfl, hb1⟩
      replace Ho := Ho.ext hb1
      go_wp2_with fail
      refine (perm_any (b := false) Ao co l rs.length _ Ho hlo T2).mono ?_
      rintro e w2 ⟨rfl, hb2⟩
      go_wp2
      go_ret2
      exact ⟨rfl, bel_trans hb1 hb2⟩
  · have T1 := Lib.hid (no h1)
    obtain ⟨rfl, rfl⟩ : n = 0 ∧ E = 1 := by
      rcases hev.out with ⟨_, h3, h4⟩ | ⟨h, _⟩ | ⟨h, _⟩
      · exact ⟨h3, h4⟩
      · exact absurd h h1
      · exact absurd h h1
    clear h1 hev
    go_enter Tryz.func22, Tryz.ntmps22
    go_wp2_with fail
    refine (matrixv_any (b := false) A c rs _ H hl T1).mono ?_
    rintro e w1 ⟨rfl, hb1⟩
    go_wp2
    go_ret2
    exact ⟨rfl, hb1⟩
set_option maxHeartbeats 2000000 in
set_option maxRecDepth 100000 in
theorem robinson_any {n E : Int} (A Ao : Option Addr) (c co : Nat) (rs : List RR) (l : List Int) (w : World) (H : ML w A rs) (hl : rs.length ≤ 9223372036854775807) (Ho : IEs w Ao l) (hlo : l.length ≤ 1000000) (hev : Hid (EvIs rs l n E)) :
    Calls Tryz.prog 24 #[.slice A rs.length c, .slice Ao l.length co] w (RetB w (E == 0 && n == 0)) := by
  have hcase : (E == 0) = true ∨ (E == 0) = false := by cases (E == 0) <;> simp
  go_enter Tryz.func24, Tryz.ntmps24
  go_wp2_with fail
  refine (Events_any A Ao c co rs l _ H hl Ho hlo hev).mono ?_
  rintro e w1 ⟨rfl, hb1⟩
  rcases hcase with hc | hc
  · go_wp2
    go_ret
    exact ⟨by rw [hc]; rfl, hb1⟩
  · go_wp2
    go_ret
    exact ⟨by rw [hc]; rfl, hb1⟩
end Go.Proofs.YthempimelfmipaaGreatDoor

namespace Go.Proofs.YthempimelfmipaaGreatDoor
open Go.RowKit Go.Proofs Go

theorem grown_drew {w W : World} {r : Option Nat} (h : w.grownBy W r) (n : Nat) : w.grownBy (W.drewN n) r := ⟨h.os, h.tape, h.output, h.size, h.block⟩
theorem grown_refl (w : World) (r : Option Nat) : w.grownBy w r := ⟨rfl, rfl, rfl, Nat.le_refl _, fun _ _ _ => rfl⟩
theorem grown_trans {w W W' : World} {r : Option Nat} (h : w.grownBy W r) (k : W.grownBy W' r) : w.grownBy W' r :=
  ⟨k.os.trans h.os, k.tape.trans h.tape, k.output.trans h.output, Nat.le_trans h.size k.size, fun i hi hne => (k.block i (Nat.lt_of_lt_of_le hi h.size) hne).trans (h.block i hi hne)⟩
theorem grown_set {w W : World} {g : Nat} (h : w.grownBy W (some g)) (j : Nat) (v : Value) : w.grownBy (W.setCell ⟨g, j, none⟩ v) (some g) :=
  ⟨h.os, h.tape, h.output, by simpa [World.setCell] using h.size, fun i hi hne => by
    rw [Below.heap_setCell W ⟨g, j, none⟩ v i fun e => hne (by rw [e])]; exact h.block i hi hne⟩
open Go.Sort in
theorem take_put (cur : Array Value) (l d : List Int) (off n : Nat) (hn : n = l.length) (hd : off + d.length = l.length) (hc : n ≤ cur.size) (ht : cur.toList.take n = icells l) :
    (putCells (Value.int .i64) off d.toArray cur).toList.take n = icells (l.take off ++ d) := by
  subst hn
  apply List.ext_getElem?
  intro j
  by_cases hj : j < l.length
  · have h0 : (cur.toList.take l.length)[j]? = (icells l)[j]? := by rw [ht]
    rw [List.getElem?_take_of_lt hj] at h0 ⊢
    have hjc : j < cur.size := by omega
    rw [Array.getElem?_toList, putCells, Array.getElem?_mapIdx]
    rw [Array.getElem?_toList] at h0
    rw [h0, icells, icells, List.map_append, List.getElem?_map, List.getElem?_eq_getElem hj]
    by_cases h1 : off ≤ j
    · rw [List.getElem?_append_right (by simp; omega)]
      have h2 : j - (List.map (fun x => Value.int IntKind.i64 x) (List.take off l)).length = j - off := by simp; omega
      rw [h2, List.getElem?_map, List.getElem?_eq_getElem (show j - off < d.length by omega)]
      simp [h1, show j < off + d.length by omega, getElem!_pos, show j - off < d.length by omega]
    · rw [List.getElem?_append_left (by simp; omega), List.getElem?_map, List.getElem?_take_of_lt (by omega), List.getElem?_eq_getElem hj]
      simp [h1]
  · rw [List.getElem?_take_eq_none (by omega), List.getElem?_eq_none (by simp [icells]; omega)]
open Go.Sort in
/-- part of a row of the call's own, laid anew -/
theorem Own.reput {w : World} {B T g n c off k : Nat} {l d : List Int} (h : Own w B T (some ⟨g, 0, none⟩) n c (icells l)) (hn : n = l.length) (hd : off + d.length = l.length) :
    Own (putRow (Value.int .i64) (Sort.ahead w k) g off d.toArray) B T (some ⟨g, 0, none⟩) n c (icells (l.take off ++ d)) ∧ w.grownBy (putRow (Value.int .i64) (Sort.ahead w k) g off d.toArray) (some g) := by
  rcases h.2 with ⟨hv, _⟩ | ⟨g', cap, cur, hv, h1, hg, h2, h3, h4, h5⟩
  · cases hv
  · injection hv with hA _ hc
    injection hA with hA
    injection hA with hA
    subst hA hc
    refine ⟨⟨by simp [icells]; omega, .inr ⟨g, c, putCells (Value.int .i64) off d.toArray cur, rfl, h1, ?_, h2, h3, by simp [putCells, h4], ?_⟩⟩, ⟨rfl, rfl, rfl, by simp, fun i hi hne => ?_⟩⟩
    · simp [putRow, mapBlock, Sort.ahead, Array.getElem?_modify, hg, onCells]
    · rw [Nat.mul_one] at h5 ⊢
      exact take_put cur l d off n hn hd (by rw [h4]; omega) h5
    · have : g ≠ i := fun e => hne (by rw [e])
      simp [putRow, mapBlock, Sort.ahead, Array.getElem?_modify, this]
open Go.Sort in
/-- the rest of a row, as the library's contracts want it -/
theorem Own.rest {w : World} {B T g n c off : Nat} {l : List Int} (h : Own w B T (some ⟨g, 0, none⟩) n c (icells l)) (_hn : n = l.length) : Holds (Value.int .i64) w g off (l.drop off).toArray := by
  intro j hj
  have hj2 : off + j < l.length := by simp at hj; omega
  refine ⟨?_, h.freeAt _⟩
  rw [h.icell hj2]
  simp [at0, getElem!_pos, show j < l.length - off by omega, List.getElem?_eq_getElem hj2]
theorem piv_lt {l : List Int} : ∀ {k i : Nat}, pivF l k = some i → i < k ∧ ¬ el l i > el l (i + 1)
  | 0, i, h => by cases h
  | k + 1, i, h => by
    rw [pivF] at h
    by_cases hx : el l k > el l (k + 1)
    · rw [if_pos hx] at h
      have := piv_lt h
      exact ⟨by omega, this.2⟩
    · rw [if_neg hx] at h
      obtain rfl := Option.some.inj h
      exact ⟨by omega, hx⟩
theorem el_at0 (l : List Int) (i : Nat) : at0 l i = el l i := rfl
/-- what the next order makes of a row -/
def swL (l : List Int) (i k : Nat) : List Int := (l.set i (el l k)).set k (el l i)
theorem swL_len (l : List Int) (i k : Nat) : (swL l i k).length = l.length := by simp [swL]
theorem next_some {l : List Int} {i : Nat} (h : pivF l (l.length - 1) = some i) : nextL l = some ((swL l i (upF l (el l i) (l.length - 1))).take (i + 1) ++ ((swL l i (upF l (el l i) (l.length - 1))).drop (i + 1)).reverse) := by
  rw [nextL, h]; rfl
theorem next_none {l : List Int} (h : pivF l (l.length - 1) = none) : nextL l = none := by rw [nextL, h]
set_option maxHeartbeats 8000000 in
set_option maxRecDepth 100000 in
theorem next_any {r : Option (List Int)} (g c B : Nat) (l : List Int) (w : World) (HO : Own w B 3 (some ⟨g, 0, none⟩) l.length c (icells l)) (h1 : 1 ≤ l.length) (hl : l.length ≤ 10) (hr : Hid (nextL l = r)) :
    Calls Tryz.prog 60 #[.slice (some ⟨g, 0, none⟩) l.length c] w fun e w' => e = .returned (.bool r.isSome) ∧ Own w' B 3 (some ⟨g, 0, none⟩) l.length c (icells (r.getD l)) ∧ w.grownBy w' (some g) := by
  have hbg : B ≤ g := by
    rcases HO.2 with ⟨hv, _⟩ | ⟨g', cap, cur, hv, h1, _⟩
    · cases hv
    · injection hv with hA _ _
      injection hA with hA
      injection hA with hA
      rw [hA]; exact h1
  have hcap : l.length ≤ c := by
    rcases HO.2 with ⟨hv, _⟩ | ⟨g', cap, cur, hv, _, _, h2, _⟩
    · cases hv
    · injection hv with _ _ hc
      rw [hc]; exact h2
  have hg0 := grown_refl w (some g)
  go_enter Tryz.func60, Tryz.ntmps60
  go_wp2
  go_loopg [3] (l.length - 1) (fun gk u wr => ∃ (j : Nat) (x : Int), Hid (j = gk) ∧ x = (j : Int) - 1 ∧ u = .int .i64 x ∧ Hid (pivF l (l.length - 1) = pivF l j) ∧ j ≤ l.length - 1 ∧ Own wr B 3 (some ⟨g, 0, none⟩) l.length c (icells l) ∧ w.grownBy wr (some g))
  case atStart => exact ⟨l.length - 1, (l.length : Int) - 2, Lib.hid rfl, by omega, rfl, Lib.hid rfl, Nat.le_refl _, HO, hg0⟩
  case round =>
    clear HO hg0
    obtain ⟨j, x, hj, hx, rfl, hp, hj1, HO, hgr⟩ := hrel
    cases j with
    | zero =>
      obtain rfl : x = -1 := by omega
      clear hx
      have hn := Lib.hid (next_none (hp.out.trans rfl))
      obtain rfl : r = none := by rw [← hr.out, hn.out]
      go_upto_region 2 with fail
      go_quiet (fail)
      go_wp2
      go_ret
      exact ⟨rfl, drew_own HO _, grown_drew hgr _⟩
    | succ j =>
      obtain rfl : x = (j : Int) := by omega
      clear hx
      have c0 := HO.icell (j := j) (by omega)
      have c1 := HO.icell (j := j + 1) (by omega)
      rw [el_at0] at c0 c1
      by_cases hgt : el l j > el l (j + 1)
      · have hd : decide (el l (j + 1) < el l j) = true := decide_eq_true hgt
        have hp2 := Lib.hid (show pivF l (l.length - 1) = pivF l j by rw [hp.out, pivF, if_pos hgt])
        clear hp hgt
        generalize el l j = xa at *
        generalize el l (j + 1) = xb at *
        go_upto_region 2 with fail
        go_quiet (fail)
        go_wp2
        go_roundg j
        case measure => have := hj.out; omega
        case rel => exact ⟨j, (j : Int) - 1, Lib.hid rfl, rfl, by go_num, hp2, by omega, drew_own HO _, grown_drew hgr _⟩
      · have hd : decide (el l (j + 1) < el l j) = false := decide_eq_false hgt
        have hpv : pivF l (l.length - 1) = some j := by rw [hp.out, pivF, if_neg hgt]
        have hns := Lib.hid ((next_some hpv).symm.trans hr.out)
        have hle := Lib.hid (show el l j ≤ el l (j + 1) by omega)
        clear hp hgt hpv
        obtain ⟨xa, hxa⟩ : ∃ x, Hid (el l j = x) := ⟨_, Lib.hid rfl⟩
        obtain ⟨xb, hxb⟩ : ∃ x, Hid (el l (j + 1) = x) := ⟨_, Lib.hid rfl⟩
        rw [hxa.out] at c0 hd
        rw [hxb.out] at c1 hd
        go_upto_region 2 with fail
        go_quiet (fail)
        have HO1 : Own (wr.drewN nq) B 3 (some ⟨g, 0, none⟩) l.length c (icells l) := drew_own HO nq
        replace hgr : w.grownBy (wr.drewN nq) (some g) := grown_drew hgr nq
        clear HO c0 c1 hd
        generalize wr.drewN nq = V at *
        have hj0 : (0 : Int) ≤ (j : Int) := by omega
        go_wp2
        go_loopg [4] (l.length - 1) (fun gk u wr => ∃ (k : Nat) (x : Int), Hid (k = gk) ∧ x = (k : Int) ∧ u = .int .i64 x ∧ Hid (upF l (el l j) (l.length - 1) = upF l (el l j) k) ∧ j < k ∧ k ≤ l.length - 1 ∧ Own wr B 3 (some ⟨g, 0, none⟩) l.length c (icells l) ∧ w.grownBy wr (some g))
        case atStart => exact ⟨l.length - 1, (l.length : Int) - 1, Lib.hid rfl, by omega, rfl, Lib.hid rfl, by omega, Nat.le_refl _, HO1, hgr⟩
        case round =>
          clear HO1 hgr
          obtain ⟨k, x, hk, hx, rfl, hu, hjk, hk1, HO, hgr⟩ := hrel
          obtain ⟨k, rfl⟩ : ∃ i, k = i + 1 := ⟨k - 1, by omega⟩
          obtain rfl : x = ((k + 1 : Nat) : Int) := by omega
          clear hx
          have c0 := HO.icell (j := j) (by omega)
          have c1 := HO.icell (j := k + 1) (by omega)
          rw [el_at0] at c0 c1
          rw [hxa.out] at c0
          have hkl : k + 1 < l.length := by omega
          have hjl : j < l.length := by omega
          by_cases hlt : el l (k + 1) < el l j
          · have hu2 := Lib.hid (show upF l (el l j) (l.length - 1) = upF l (el l j) k by rw [hu.out, upF, if_pos hlt])
            have hd : decide (el l (k + 1) < xa) = true := decide_eq_true (by rw [← hxa.out]; exact hlt)
            have hjk2 : j < k := by
              by_cases h : j < k
              · exact h
              · obtain rfl : j = k := by omega
                have := hle.out
                omega
            clear hu hlt
            generalize el l (k + 1) = xc at *
            go_upto_region 7 with fail
            go_quiet (fail)
            go_wp2
            go_roundg k
            case measure => have := hk.out; omega
            case rel => exact ⟨k, (k : Int), Lib.hid rfl, rfl, by go_num, hu2, by omega, by omega, drew_own HO _, grown_drew hgr _⟩
          · have hu2 := Lib.hid (show upF l (el l j) (l.length - 1) = k + 1 by rw [hu.out, upF, if_neg hlt])
            have hd : decide (el l (k + 1) < xa) = false := decide_eq_false (by rw [← hxa.out]; exact hlt)
            rw [hu2.out] at hns
            clear hu hlt hu2
            have f0 := HO.freeAt j
            have f1 := HO.freeAt (k + 1)
            obtain ⟨xc, hxc⟩ : ∃ x, Hid (el l (k + 1) = x) := ⟨_, Lib.hid rfl⟩
            rw [hxc.out] at c1 hd
            obtain ⟨m, hm⟩ : ∃ m, Hid (swL l j (k + 1) = m) := ⟨_, Lib.hid rfl⟩
            rw [hm.out] at hns
            have hml := Lib.hid (show m.length = l.length by rw [← hm.out, swL_len])
            have hno : ∀ W : World, Own W B 3 (some ⟨g, 0, none⟩) l.length c (icells l) → Own ((W.setCell ⟨g, j, none⟩ (.int .i64 xc)).setCell ⟨g, k + 1, none⟩ (.int .i64 xa)) B 3 (some ⟨g, 0, none⟩) l.length c (icells m) := fun W h => by
              rw [← hm.out, swL, hxc.out, hxa.out]; exact (h.istored _).istored _
            go_upto_region 7 with fail
            go_quiet (fail)
            have HO1 : Own (wr.drewN nq) B 3 (some ⟨g, 0, none⟩) l.length c (icells l) := drew_own HO nq
            replace hgr : w.grownBy (wr.drewN nq) (some g) := grown_drew hgr nq
            replace c1 : (wr.drewN nq).cell? ⟨g, k + 1, none⟩ = some (.int .i64 xc) := c1
            replace c0 : (wr.drewN nq).cell? ⟨g, j, none⟩ = some (.int .i64 xa) := c0
            replace f1 : (wr.drewN nq).frozen? ⟨g, k + 1, none⟩ = false := f1
            replace f0 : (wr.drewN nq).frozen? ⟨g, j, none⟩ = false := f0
            clear HO hd
            generalize wr.drewN nq = V8 at *
            go_upto_region 9 with fail
            go_region
            have HON := drew_own (hno V8 HO1) 1
            have hgN := grown_drew (grown_set (grown_set hgr j (.int .i64 xc)) (k + 1) (.int .i64 xa)) 1
            have e9 : ((V8.setCell ⟨g, j, none⟩ (.int .i64 xc)).setCell ⟨g, k + 1, none⟩ (.int .i64 xa)).drewN 1 = ((V8.setCell ⟨g, j, none⟩ (.int .i64 xc)).setCell ⟨g, k + 1, none⟩ (.int .i64 xa)).drew := rfl
            rw [e9] at HON hgN
            clear c0 c1 f0 f1 HO1 hgr hno e9
            generalize ((V8.setCell ⟨g, j, none⟩ (.int .i64 xc)).setCell ⟨g, k + 1, none⟩ (.int .i64 xa)).drew = V9 at *
            have hH := HON.rest (off := j + 1) hml.out.symm
            have hdl := Lib.hid (show (m.drop (j + 1)).length = l.length - (j + 1) by rw [List.length_drop, hml.out])
            have cR := Tryz.slices_Reverse_int g (j + 1) (c - (j + 1)) (m.drop (j + 1)) V9 hH (by rw [hdl.out]; omega)
            rw [hdl.out] at cR
            have hre := fun q => HON.reput (off := j + 1) (d := (m.drop (j + 1)).reverse) (k := q) hml.out.symm (by rw [List.length_reverse, hdl.out, hml.out]; omega)
            clear hH HON
            have hcj : (c = j + 1) = False := eq_false (by omega)
            go_wp2_with fail
            refine cR.mono ?_
            rintro e w9 ⟨rfl, q, hw⟩
            obtain ⟨hO9, hg9⟩ := hre q
            rw [← hw] at hO9 hg9
            clear hre cR hw
            have hrr := Lib.hid hns.out.symm
            obtain rfl := hrr.out
            go_wp2
            go_ret
            exact ⟨rfl, hO9, grown_trans hgN hg9⟩
set_option maxHeartbeats 1000000 in
set_option maxRecDepth 100000 in
theorem next_nil (A : Option Addr) (c : Nat) (w : World) :
    Calls Tryz.prog 60 #[.slice A 0 c] w (RetB w false) := by
  go_enter Tryz.func60, Tryz.ntmps60
  go_wp2
  go_loopg [3] 0 (fun _ u wr => u = .int .i64 (-2) ∧ Below w.heap.size w wr)
  case atStart => exact ⟨rfl, Below.refl _ _⟩
  case round =>
    obtain ⟨rfl, hbw⟩ := hrel
    go_upto_region 2 with fail
    go_quiet (fail)
    go_wp2
    go_ret
    exact ⟨rfl, drew_below hbw _⟩
end Go.Proofs.YthempimelfmipaaGreatDoor

namespace Go.Proofs.YthempimelfmipaaGreatDoor
open Go.RowKit Go.Proofs Go

theorem stable : ∀ n, n ≤ 6 → runL 720 (ups n) = runL 719 (ups n)
  | 0, _ => by decide +kernel
  | 1, _ => by decide +kernel
  | 2, _ => by decide +kernel
  | 3, _ => by decide +kernel
  | 4, _ => by decide +kernel
  | 5, _ => by decide +kernel
  | 6, _ => by decide +kernel
  | n + 7, h => by omega
/-- where the search stands: orders left, all of them orders; what is found -/
structure Srch (M : Int → Int → Rat) (n f : Nat) (o bl : List Int) (lv : Nat) : Prop where
  stop : runL (f + 1) o = runL f o
  ords : ∀ x ∈ runL f o, IsOrd x n
  best : IsOrd bl n
  left : bestR (evs M) ((runL f o).drop 1) (bl, lv) = bestO M n
theorem Srch.start (M : Int → Int → Rat) {n : Nat} (h : n ≤ 6) : Srch M n 719 (ups n) (ups n) (evs M (ups n)) :=
  ⟨stable n h, fun _ hx => (IsOrd.run h).2 hx, List.Perm.refl _, rfl⟩
theorem run_mem (f : Nat) (o : List Int) : o ∈ runL f o := by rw [run_head]; exact List.mem_cons_self
section
variable {M : Int → Int → Rat} {n f : Nat} {o bl m : List Int} {lv : Nat}
theorem Srch.ord (h : Srch M n f o bl lv) : IsOrd o n := h.ords o (run_mem f o)
theorem Srch.done (h : Srch M n f o bl lv) (hn : nextL o = none) : bestO M n = (bl, lv) := by
  have h1 := h.left
  rw [← h1]
  cases f with
  | zero => rfl
  | succ f => rw [runL, hn]; rfl
theorem Srch.more (h : Srch M n f o bl lv) (hn : nextL o = some m) : ∃ f', f = f' + 1 := by
  cases f with
  | zero =>
    have h1 := h.stop
    rw [runL, runL, hn] at h1
    have := congrArg List.length h1
    simp [runL] at this
  | succ f => exact ⟨f, rfl⟩
theorem Srch.step (h : Srch M n (f + 1) o bl lv) (hn : nextL o = some m) : if evs M m < lv then Srch M n f m m (evs M m) else Srch M n f m bl lv := by
  have h1 := h.stop
  have h2 := h.ords
  have h3 := h.left
  rw [runL, runL, hn] at h1
  rw [runL, hn] at h2 h3
  have s1 : runL (f + 1) m = runL f m := (List.cons.inj h1).2
  have s2 : ∀ x ∈ runL f m, IsOrd x n := fun x hx => h2 x (List.mem_cons_of_mem _ hx)
  have h3 : bestR (evs M) (runL f m) (bl, lv) = bestO M n := h3
  rw [run_head, bestR] at h3
  split at h3
  · next hx => rw [if_pos hx]; exact ⟨s1, s2, s2 m (run_mem f m), h3⟩
  · next hx => rw [if_neg hx]; exact ⟨s1, s2, h.best, h3⟩
end
theorem best0 (M : Int → Int → Rat) : bestO M 0 = ([], 0) := rfl
theorem ups_snoc (n : Nat) : ups (n + 1) = ups n ++ [(n : Int)] := by simp [ups, List.range_succ]
theorem IEs.grown {w w' : World} {A : Option Addr} {l : List Int} {g : Nat} (h : IEs w A l) (hg : w.grownBy w' (some g)) (hne : ∀ ad, A = some ad → ad.block ≠ g) : IEs w' A l := fun h0 => by
  obtain ⟨ad, e, hb, hc⟩ := h h0
  refine ⟨ad, e, Nat.lt_of_lt_of_le hb hg.size, fun i x hx => ?_⟩
  have h1 := hc i x hx
  have h2 : w'.heap[ad.block]? = w.heap[ad.block]? := hg.block _ hb fun e2 => hne ad e (Option.some.inj e2)
  have h3 : w'.cell? (ad.add i) = w.cell? (ad.add i) := by simp only [World.cell?, addr_add_block, h2]
  rw [h3]; exact h1
/-- an order, its events, the error -/
def RetBest (w : World) (o : List Int) (k E : Int) (e : Ending) (w' : World) : Prop := ∃ A c, e = .returned (.tuple #[.slice A o.length c, .int .i64 k, .int .i64 E]) ∧ IEs w' A o ∧ Below w.heap.size w w'
/-- slices.Clone of a row of the call's own that is not empty -/
theorem clone_h {w : World} {B g c n : Nat} {l : List Int} (HO : Own w B 3 (some ⟨g, 0, none⟩) n c (icells l)) (hn : n = l.length) (h10 : n ≤ 10) :
    Calls Tryz.prog 59 #[.slice (some ⟨g, 0, none⟩) n c] w fun e w' => ∃ A' c', e = .returned (.slice A' n c') ∧ IEs w' A' l ∧ (∀ ad, A' = some ad → w.heap.size ≤ ad.block) ∧ Below w.heap.size w w' := by
  subst hn
  refine (Tryz.slices_Clone_int g 0 l.length c l w (Nat.le_refl _) (by omega) (fun j hj => ?_)).mono ?_
  · rw [Nat.zero_add, HO.icell hj]
    simp [at0, List.getD]
  · rintro e w' ⟨v', rfl, hown, hnn, hb⟩
    rw [List.take_length] at hown
    rcases hown.2 with ⟨hv, _⟩ | ⟨g2, cap, cur, hv, h1, _⟩
    · exact absurd hv hnn
    · subst hv
      exact ⟨_, _, rfl, (show IOwn w' w.heap.size (some ⟨g2, 0, none⟩) cap l from hown).es, fun ad e => by obtain rfl := Option.some.inj e; exact h1, hb⟩
set_option maxHeartbeats 1000000 in
set_option maxRecDepth 100000 in
theorem best_err {E : Int} (A : Option Addr) (c : Nat) (hs : List HR) (w : World) (H : HL w A hs) (hl : hs.length ≤ 9223372036854775807) (hE : Hid (ChkIs hs E)) (hn : (E != 0) = true) :
    Calls Tryz.prog 26 #[.slice A hs.length c] w (RetBest w [] 0 E) := by
  go_enter Tryz.func26, Tryz.ntmps26
  go_wp2_with fail
  refine (matrix_err A c hs _ H hl hE hn).mono ?_
  rintro e w1 ⟨rfl, hb⟩
  go_wp2
  exact bodyPost_ret (v := .tuple #[.slice none 0 0, .int .i64 0, .int .i64 E]) (by simp [results, Tryz.results26, go_sem]) rfl ⟨none, 0, rfl, IEs.nil _ _, hb⟩
set_option maxHeartbeats 1000000 in
set_option maxRecDepth 100000 in
theorem best_full (A : Option Addr) (c : Nat) (hs : List HR) (w : World) (H : HL w A hs) (hE : Hid (ChkIs hs 0)) (h6 : 6 < hs.length) :
    Calls Tryz.prog 26 #[.slice A hs.length c] w (RetBest w [] 0 6) := by
  go_enter Tryz.func26, Tryz.ntmps26
  go_wp2_with fail
  refine (matrix_ok A c hs _ H hE (Lib.hid rfl)).mono ?_
  rintro e w1 ⟨A1, c1, rs, rfl, _, _, _, hb⟩
  go_wp2
  exact bodyPost_ret (v := .tuple #[.slice none 0 0, .int .i64 0, .int .i64 6]) (by simp [results, Tryz.results26, go_sem]) rfl ⟨none, 0, rfl, IEs.nil _ _, hb⟩
set_option maxHeartbeats 2000000 in
set_option maxRecDepth 100000 in
theorem best_nil (A : Option Addr) (c : Nat) (w : World) :
    Calls Tryz.prog 26 #[.slice A 0 c] w (RetBest w [] 0 0) := by
  have HN : HL w A [] := ⟨fun h => absurd h (by simp), fun i x h => by simp at h⟩
  have cM : Calls Tryz.prog 27 #[.slice A 0 c] w (RetMx w 0 (matQ [])) := matrix_ok A c [] w HN (Lib.hid (ChkIs.of (by simp) ⟨fun x h => by simp at h, by simp⟩)) (Lib.hid rfl)
  go_enter Tryz.func26, Tryz.ntmps26
  go_wp2_with fail
  refine cM.mono ?_
  rintro e w1 ⟨A1, c1, rs, rfl, hs1, hq, HM, hb⟩
  have cE : ∀ W : World, ML W A1 rs → Calls Tryz.prog 55 #[.slice A1 0 c1, .slice none 0 0] W (RetI W 0) := fun W h => events_any A1 none c1 0 rs [] 0 W h hs1 (IEs.nil _ _) (by simp) (by simp) (by omega) (Lib.hid rfl)
  clear cM
  go_wp2
  go_loopg [7, 25] 0 (fun _ u i wr => u = .slice none 0 0 ∧ i = .int .i64 0 ∧ Below w1.heap.size w1 wr)
  case atStart => exact ⟨rfl, rfl, Below.refl _ _⟩
  case round =>
    obtain ⟨rfl, rfl, hbw⟩ := hrel
    replace HM := HM.ext hbw
    replace hb := bel_trans hb hbw
    clear hbw
    go_wp2_with fail
    refine (Tryz.slices_Clone_int_nil 0 0 wr).mono ?_
    rintro e w2 ⟨rfl, rfl⟩
    go_wp2_with fail
    refine (cE _ HM).mono ?_
    rintro e w3 ⟨rfl, hb3⟩
    replace hb := bel_trans hb hb3
    clear hb3 HM
    go_wp2
    go_loopg [9, 10] 0 (fun _ u i wr => u = .slice none 0 0 ∧ i = .int .i64 0 ∧ Below w3.heap.size w3 wr)
    case atStart => exact ⟨rfl, rfl, Below.refl _ _⟩
    case round =>
      obtain ⟨rfl, rfl, hbw⟩ := hrel
      replace hb := bel_trans hb hbw
      clear hbw
      go_wp2_with fail
      refine (next_nil none 0 _).mono ?_
      rintro e w4 ⟨rfl, hb4⟩
      go_wp2
      exact bodyPost_ret (v := .tuple #[.slice none 0 0, .int .i64 0, .int .i64 0]) (by simp [results, Tryz.results26, go_sem]) rfl ⟨none, 0, rfl, IEs.nil _ _, bel_trans hb hb4⟩
set_option maxHeartbeats 8000000 in
set_option maxRecDepth 100000 in
theorem best_go {bo : List Int} {lo : Nat} (A : Option Addr) (c : Nat) (hs : List HR) (w : World) (H : HL w A hs) (hE : Hid (ChkIs hs 0)) (h1 : 1 ≤ hs.length) (h6 : hs.length ≤ 6) (hbo : Hid (bestO (mq (matQ hs)) hs.length = (bo, lo))) :
    Calls Tryz.prog 26 #[.slice A hs.length c] w (RetBest w bo lo 0) := by
  obtain ⟨M, hM⟩ : ∃ M, Hid (mq (matQ hs) = M) := ⟨_, Lib.hid rfl⟩
  rw [hM.out] at hbo
  have S0 := Lib.hid (Srch.start M h6)
  go_enter Tryz.func26, Tryz.ntmps26
  go_wp2_with fail
  refine (matrix_ok A c hs _ H hE (Lib.hid rfl)).mono ?_
  rintro e W1 ⟨A1, c1, rs, rfl, hs1, hq, HM, hb1⟩
  have HS := Lib.hid hs1
  have hMq := Lib.hid (show mq (qOf rs) = M by rw [hq, hM.out])
  clear hs1 hq H
  have HO := IOwn.nil W1 W1.heap.size
  go_wp2
  go_loopg [7, 25] hs.length (fun gk u i wr => ∃ (j : Nat) (A7 : Option Addr) (c7 : Nat), j + gk = hs.length ∧ u = .slice A7 j c7 ∧ i = .int .i64 (j : Int) ∧ Own wr W1.heap.size 3 A7 j c7 (icells (ups j)) ∧ Below W1.heap.size W1 wr)
  case atStart => exact ⟨0, none, 0, by omega, rfl, rfl, HO, Below.refl _ _⟩
  case round =>
    clear HO
    obtain ⟨j, A7, c7, hj, rfl, rfl, HO, hbw⟩ := hrel
    have hszw := hbw.size
    by_cases hj0 : j < hs.length
    · go_wp2_with (at_builtin; refine wp_push EI _ rfl _ _ rfl rfl rfl HO rfl (by omega) (by omega) (by omega) ?_)
      intro A9 c9 w9 HO2 _ hb9 _
      have hb2 : Below W1.heap.size W1 w9 := hbw.trans hb9
      have HO3 : Own w9 W1.heap.size 3 A9 (j + 1) c9 (icells (ups (j + 1))) := by
        rw [ups_snoc, icells, List.map_append]; exact HO2
      clear HO HO2 hb9
      go_wp2
      go_roundg (hs.length - (j + 1))
      case measure => omega
      case rel => exact ⟨j + 1, A9, c9, by omega, by go_num, by go_num, HO3, hb2⟩
    · obtain rfl : j = hs.length := by omega
      obtain ⟨g, rfl, hgB⟩ := HO.block (by omega)
      obtain ⟨up, hup⟩ : ∃ u, Hid (ups hs.length = u) := ⟨_, Lib.hid rfl⟩
      have hul := Lib.hid (show up.length = hs.length by rw [← hup.out, ups_len])
      rw [hup.out] at HO S0
      have hg7 := HO.lt
      go_wp2_with fail
      refine (clone_h HO hul.out.symm (by omega)).mono ?_
      rintro e w2 ⟨A8, c8, rfl, HB, hfar, hb2⟩
      replace HO := HO.ext hb2
      replace hbw := bel_trans hbw hb2
      have hne : Hid (∀ ad, A8 = some ad → ad.block ≠ g) := Lib.hid fun ad e => by have := hfar ad e; omega
      clear hfar hb2
      have h2w := HO.lt
      obtain ⟨lv, hlv⟩ : ∃ l, Hid (evs M up = l) := ⟨_, Lib.hid rfl⟩
      rw [hlv.out] at S0
      have hev0 := Lib.hid (show evs (mq (qOf rs)) up = lv by rw [hMq.out, hlv.out])
      have hbd0 := Lib.hid (show ∀ x ∈ up, 0 ≤ x ∧ x < (hs.length : Int) from fun x hx => S0.out.ord.bd hx)
      have cE : Calls Tryz.prog 55 #[.slice A1 hs.length c1, .slice (some ⟨g, 0, none⟩) hs.length c7] w2 (RetI w2 lv) := by
        have := events_any A1 (some ⟨g, 0, none⟩) c1 c7 rs up hs.length w2 (HM.ext hbw) HS.out (Own.iown HO hul.out.symm).es (by rw [hul.out]; omega) hbd0.out (by omega) hev0
        rwa [hul.out] at this
      go_wp2_with fail
      refine cE.mono ?_
      rintro e w3 ⟨rfl, hb3⟩
      clear cE
      replace HO := HO.ext hb3
      replace HB := HB.ext hb3
      replace hbw := bel_trans hbw hb3
      clear hb3 hev0 hbd0 hlv hup
      go_wp2
      go_loopg [9, 10] 719 (fun gk u i wr => ∃ (f : Nat) (o bl : List Int) (lv : Nat) (A8 : Option Addr) (c8 : Nat), Hid (f = gk) ∧ u = .slice A8 hs.length c8 ∧ i = .int .i64 (lv : Int) ∧ Hid (Srch M hs.length f o bl lv) ∧ Own wr W1.heap.size 3 (some ⟨g, 0, none⟩) hs.length c7 (icells o) ∧ IEs wr A8 bl ∧ Hid (∀ ad, A8 = some ad → ad.block ≠ g) ∧ Below W1.heap.size W1 wr)
      case atStart => exact ⟨719, up, up, lv, A8, c8, Lib.hid rfl, rfl, rfl, S0, HO, HB, hne, hbw⟩
      case round =>
        clear HO HB hne hbw S0 hul h2w hg7 hszw
        obtain ⟨f, o, bl, lv, A8, c8, hf, rfl, rfl, HSr, HO, HB, hne, hbw⟩ := hrel
        have hol := Lib.hid HSr.out.ord.len
        have hg7 := HO.lt
        cases hnx : nextL o with
        | none =>
          have hN := Lib.hid hnx
          clear hnx
          have cN : Calls Tryz.prog 60 #[.slice (some ⟨g, 0, none⟩) hs.length c7] wr fun e w' => e = .returned (.bool false) ∧ Own w' W1.heap.size 3 (some ⟨g, 0, none⟩) hs.length c7 (icells o) ∧ wr.grownBy w' (some g) := by
            have := next_any g c7 W1.heap.size o wr (by rw [hol.out]; exact HO) (by rw [hol.out]; omega) (by rw [hol.out]; omega) hN
            rw [hol.out] at this
            exact this
          have hfin := Lib.hid (HSr.out.done hN.out)
          have hbl := Lib.hid HSr.out.best.len
          go_wp2_with fail
          refine cN.mono ?_
          rintro e w4 ⟨rfl, HO4, hg4⟩
          have HB4 := HB.grown hg4 hne.out
          have hb4 : Below W1.heap.size W1 w4 := hbw.grown hg4 hbw.size (fun j hj => by cases hj; exact hgB)
          clear cN HO HB HO4
          obtain ⟨rfl, rfl⟩ : bl = bo ∧ lv = lo := by
            have := hfin.out.symm.trans hbo.out
            injection this with h1 h2
            exact ⟨h1, h2⟩
          go_wp2
          exact bodyPost_ret (v := .tuple #[.slice A8 hs.length c8, .int .i64 (lv : Int), .int .i64 0]) (by simp [results, Tryz.results26, go_sem]) rfl ⟨A8, c8, by rw [hbl.out], HB4, bel_trans hb1 hb4⟩
        | some m =>
          have hN := Lib.hid hnx
          clear hnx
          obtain ⟨f, rfl⟩ := HSr.out.more hN.out
          have hst := Lib.hid (HSr.out.step hN.out)
          have hmo : Hid (IsOrd m hs.length) := Lib.hid (HSr.out.ords m (by rw [runL, hN.out]; exact List.mem_cons_of_mem _ (run_mem f m)))
          have hml := Lib.hid hmo.out.len
          have cN : Calls Tryz.prog 60 #[.slice (some ⟨g, 0, none⟩) hs.length c7] wr fun e w' => e = .returned (.bool true) ∧ Own w' W1.heap.size 3 (some ⟨g, 0, none⟩) hs.length c7 (icells m) ∧ wr.grownBy w' (some g) := by
            have := next_any g c7 W1.heap.size o wr (by rw [hol.out]; exact HO) (by rw [hol.out]; omega) (by rw [hol.out]; omega) hN
            rw [hol.out] at this
            exact this
          clear HSr
          go_wp2_with fail
          refine cN.mono ?_
          rintro e w4 ⟨rfl, HO4, hg4⟩
          have HB4 := HB.grown hg4 hne.out
          have hb4 : Below W1.heap.size W1 w4 := hbw.grown hg4 hbw.size (fun j hj => by cases hj; exact hgB)
          clear cN HO HB hbw hg4 hN hol
          obtain ⟨v2, hv2⟩ : ∃ l, Hid (evs M m = l) := ⟨_, Lib.hid rfl⟩
          have hev0 := Lib.hid (show evs (mq (qOf rs)) m = v2 by rw [hMq.out, hv2.out])
          have hbd0 := Lib.hid (show ∀ x ∈ m, 0 ≤ x ∧ x < (hs.length : Int) from fun x hx => hmo.out.bd hx)
          have cE : Calls Tryz.prog 55 #[.slice A1 hs.length c1, .slice (some ⟨g, 0, none⟩) hs.length c7] w4 (RetI w4 v2) := by
            have := events_any A1 (some ⟨g, 0, none⟩) c1 c7 rs m hs.length w4 (HM.ext hb4) HS.out (Own.iown HO4 hml.out.symm).es (by rw [hml.out]; omega) hbd0.out (by omega) hev0
            rwa [hml.out] at this
          go_wp2_with fail
          refine cE.mono ?_
          rintro e w5 ⟨rfl, hb5⟩
          clear cE
          replace HO4 := HO4.ext hb5
          replace HB4 := HB4.ext hb5
          replace hb4 := bel_trans hb4 hb5
          have hg5 := HO4.lt
          clear hb5 hev0 hbd0
          by_cases hlt : v2 < lv
          · have hd : decide (v2 < lv) = true := decide_eq_true hlt
            have hdi : decide ((v2 : Int) < (lv : Int)) = true := decide_eq_true (by omega)
            have HS2 : Hid (Srch M hs.length f m m v2) := Lib.hid (by have := hst.out; rw [hv2.out, if_pos hlt] at this; exact this)
            clear hst hlt
            go_wp2_with fail
            refine (clone_h HO4 hml.out.symm (by omega)).mono ?_
            rintro e w6 ⟨A9, c9, rfl, HB6, hfar, hb6⟩
            have hne6 : Hid (∀ ad, A9 = some ad → ad.block ≠ g) := Lib.hid fun ad e => by have := hfar ad e; omega
            replace HO4 := HO4.ext hb6
            replace hb4 := bel_trans hb4 hb6
            clear hfar hb6
            go_wp2
            go_roundg f
            case measure => have := hf.out; omega
            case rel => exact ⟨f, m, m, v2, A9, c9, Lib.hid rfl, rfl, rfl, HS2, HO4, HB6, hne6, hb4⟩
          · have hd : decide (v2 < lv) = false := decide_eq_false hlt
            have hdi : decide ((v2 : Int) < (lv : Int)) = false := decide_eq_false (by omega)
            have HS2 : Hid (Srch M hs.length f m bl lv) := Lib.hid (by have := hst.out; rw [hv2.out, if_neg hlt] at this; exact this)
            clear hst hlt
            go_wp2
            go_roundg f
            case measure => have := hf.out; omega
            case rel => exact ⟨f, m, bl, lv, A8, c8, Lib.hid rfl, rfl, rfl, HS2, HO4, HB4, hne, hb4⟩
/-- what Best returns -/
def BestIs (hs : List HR) (o : List Int) (k E : Int) : Prop := ∃ e, ChkIs hs e ∧ ((e ≠ 0 ∧ o = [] ∧ k = 0 ∧ E = e) ∨ (e = 0 ∧ 6 < hs.length ∧ o = [] ∧ k = 0 ∧ E = 6) ∨ (e = 0 ∧ hs.length ≤ 6 ∧ (∃ lo : Nat, bestO (mq (matQ hs)) hs.length = (o, lo) ∧ k = (lo : Int)) ∧ E = 0))
theorem BestIs.ex (hs : List HR) : ∃ o k E, BestIs hs o k E := by
  obtain ⟨e, he⟩ := ChkIs.ex hs
  by_cases h0 : e = 0
  · by_cases h6 : hs.length ≤ 6
    · exact ⟨_, _, _, e, he, .inr (.inr ⟨h0, h6, ⟨_, rfl, rfl⟩, rfl⟩)⟩
    · exact ⟨_, _, _, e, he, .inr (.inl ⟨h0, by omega, rfl, rfl, rfl⟩)⟩
  · exact ⟨_, _, _, e, he, .inl ⟨h0, rfl, rfl, rfl⟩⟩
theorem best_any {o : List Int} {k E : Int} (A : Option Addr) (c : Nat) (hs : List HR) (w : World) (H : HL w A hs) (hl : hs.length ≤ 9223372036854775807) (h : Hid (BestIs hs o k E)) :
    Calls Tryz.prog 26 #[.slice A hs.length c] w (RetBest w o k E) := by
  obtain ⟨e, he, h⟩ := h.out
  rcases h with ⟨h0, rfl, rfl, rfl⟩ | ⟨rfl, h6, rfl, rfl, rfl⟩ | ⟨rfl, h6, ⟨lo, hb, rfl⟩, rfl⟩
  · exact best_err A c hs w H hl (Lib.hid he) (bne_iff_ne.2 h0)
  · exact best_full A c hs w H (Lib.hid he) h6
  · by_cases h1 : 1 ≤ hs.length
    · exact best_go A c hs w H (Lib.hid he) h1 h6 (Lib.hid hb)
    · obtain rfl : hs = [] := List.eq_nil_of_length_eq_zero (by omega)
      have := hb.symm.trans (best0 _)
      injection this with e1 e2
      subst e1 e2
      exact best_nil A c w
end Go.Proofs.YthempimelfmipaaGreatDoor
