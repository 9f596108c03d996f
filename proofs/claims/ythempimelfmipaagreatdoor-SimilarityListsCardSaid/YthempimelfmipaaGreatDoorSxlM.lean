/- The statement SimilarityLists: its walk. -/
import Derived.Test.YthempimelfmipaaGreatDoorSxdM
import Derived.Test.YthempimelfmipaaGreatDoorSq1M
import Derived.Test.YthempimelfmipaaGreatDoorSxbM
namespace Go.Proofs.YthempimelfmipaaGreatDoor
open Go.RowKit Go.Proofs Go

/-- the first of the greatest numbers of a row, but for its own place, of the first k -/
def nearTo (f : Nat → Rat) (i : Nat) : Nat → Option Nat
  | 0 => none
  | k + 1 => if k = i then nearTo f i k else match nearTo f i k with
    | none => some k
    | some b => if f b < f k then some k else some b
theorem near_lt {f : Nat → Rat} {i b : Nat} : ∀ {k : Nat}, nearTo f i k = some b → b < k ∧ b ≠ i
  | 0, h => by cases h
  | k + 1, h => by
    rw [nearTo] at h
    by_cases hk : k = i
    · rw [if_pos hk] at h
      have := near_lt h
      exact ⟨by omega, this.2⟩
    · rw [if_neg hk] at h
      cases hn : nearTo f i k with
      | none => rw [hn] at h; obtain rfl := Option.some.inj h; exact ⟨by omega, hk⟩
      | some c =>
        rw [hn] at h
        have h1 := near_lt hn
        have h : (if f c < f k then some k else some c) = some b := h
        split at h
        · obtain rfl := Option.some.inj h; exact ⟨by omega, hk⟩
        · obtain rfl := Option.some.inj h; exact ⟨by omega, h1.2⟩
theorem near_none {f : Nat → Rat} {i : Nat} : ∀ {k : Nat}, nearTo f i k = none → ∀ j, j < k → j = i
  | 0, _, j, hj => by omega
  | k + 1, h, j, hj => by
    rw [nearTo] at h
    by_cases hk : k = i
    · rw [if_pos hk] at h
      by_cases hjk : j < k
      · exact near_none h j hjk
      · omega
    · rw [if_neg hk] at h
      cases hn : nearTo f i k with
      | none => rw [hn] at h; cases h
      | some c =>
        rw [hn] at h
        have h : (if f c < f k then some k else some c) = none := h
        split at h <;> cases h
theorem near_best {f : Nat → Rat} {i b : Nat} : ∀ {k : Nat}, nearTo f i k = some b → ∀ j, j < k → j ≠ i → f j ≤ f b ∧ (f j = f b → b ≤ j)
  | 0, h, _, _, _ => by cases h
  | k + 1, h, j, hj, hji => by
    rw [nearTo] at h
    by_cases hk : k = i
    · rw [if_pos hk] at h
      exact near_best h j (by omega) hji
    · rw [if_neg hk] at h
      cases hn : nearTo f i k with
      | none =>
        rw [hn] at h
        obtain rfl := Option.some.inj h
        have : ¬ j < k := fun h2 => hji (near_none hn j h2)
        obtain rfl : j = k := by omega
        exact ⟨Rat.le_refl, fun _ => Nat.le_refl _⟩
      | some c =>
        rw [hn] at h
        have h : (if f c < f k then some k else some c) = some b := h
        split at h
        · next hc =>
          obtain rfl := Option.some.inj h
          by_cases hjk : j < k
          · have h2 := near_best hn j hjk hji
            have h3 : f j < f k := by
              have h4 := h2.1
              grind
            exact ⟨Rat.le_of_lt h3, fun e => absurd h3 (e ▸ Rat.lt_irrefl)⟩
          · obtain rfl : j = k := by omega
            exact ⟨Rat.le_refl, fun _ => Nat.le_refl _⟩
        · next hc =>
          obtain rfl := Option.some.inj h
          by_cases hjk : j < k
          · exact near_best hn j hjk hji
          · obtain rfl : j = k := by omega
            exact ⟨Rat.not_lt.1 hc, fun _ => by have := near_lt hn; omega⟩
def bI : Option Nat → Int
  | none => -1
  | some b => (b : Int)
/-- what Nearest returns -/
def NearIs (hs : List HR) (i k E : Int) : Prop := ∃ e, ChkIs hs e ∧ ((e ≠ 0 ∧ k = 0 ∧ E = e) ∨ (e = 0 ∧ ¬ (0 ≤ i ∧ i < hs.length) ∧ k = 0 ∧ E = 2) ∨ (e = 0 ∧ (0 ≤ i ∧ i < hs.length) ∧ hs.length = 1 ∧ k = 0 ∧ E = 7) ∨ (e = 0 ∧ (0 ≤ i ∧ i < hs.length) ∧ hs.length ≠ 1 ∧ (∃ b, nearTo (fun j => mq (matQ hs) i (j : Int)) i.toNat hs.length = some b ∧ k = (b : Int)) ∧ E = 0))
theorem near_ex {f : Nat → Rat} {i n : Nat} (h : i < n) (h1 : n ≠ 1) : ∃ b, nearTo f i n = some b := by
  cases hn : nearTo f i n with
  | some b => exact ⟨b, rfl⟩
  | none =>
    have h2 := near_none hn 0 (by omega)
    have h3 := near_none hn 1 (by omega)
    omega
theorem NearIs.ex (hs : List HR) (i : Int) : ∃ k E, NearIs hs i k E := by
  obtain ⟨e, he⟩ := ChkIs.ex hs
  by_cases h0 : e = 0
  · by_cases hi : 0 ≤ i ∧ i < hs.length
    · by_cases h1 : hs.length = 1
      · exact ⟨_, _, e, he, .inr (.inr (.inl ⟨h0, hi, h1, rfl, rfl⟩))⟩
      · obtain ⟨b, hb⟩ := near_ex (f := fun j => mq (matQ hs) i (j : Int)) (i := i.toNat) (n := hs.length) (by omega) h1
        exact ⟨_, _, e, he, .inr (.inr (.inr ⟨h0, hi, h1, ⟨b, hb, rfl⟩, rfl⟩))⟩
    · exact ⟨_, _, e, he, .inr (.inl ⟨h0, hi, rfl, rfl⟩)⟩
  · exact ⟨_, _, e, he, .inl ⟨h0, rfl, rfl⟩⟩
set_option maxHeartbeats 1000000 in
set_option maxRecDepth 100000 in
theorem near_err {E i : Int} (A : Option Addr) (c : Nat) (hs : List HR) (w : World) (H : HL w A hs) (hl : hs.length ≤ 9223372036854775807) (hE : Hid (ChkIs hs E)) (hn : (E != 0) = true) :
    Calls Tryz.prog 32 #[.slice A hs.length c, .int .i64 i] w (RetII w 0 E) := by
  go_enter Tryz.func32, Tryz.ntmps32
  go_wp2_with fail
  refine (matrix_err A c hs _ H hl hE hn).mono ?_
  rintro e w1 ⟨rfl, hb⟩
  go_wp2
  go_ret2
  exact ⟨rfl, hb⟩
set_option maxHeartbeats 1000000 in
set_option maxRecDepth 100000 in
theorem near_out {i : Int} (A : Option Addr) (c : Nat) (hs : List HR) (w : World) (H : HL w A hs) (hE : Hid (ChkIs hs 0)) (hi : ¬ (0 ≤ i ∧ i < hs.length)) :
    Calls Tryz.prog 32 #[.slice A hs.length c, .int .i64 i] w (RetII w 0 2) := by
  by_cases h0 : i < 0
  · have d0 : decide (i < 0) = true := decide_eq_true h0
    go_enter Tryz.func32, Tryz.ntmps32
    go_wp2_with fail
    refine (matrix_ok A c hs _ H hE (Lib.hid rfl)).mono ?_
    rintro e w1 ⟨A1, c1, rs, rfl, _, _, _, hb⟩
    go_wp2
    go_ret2
    exact ⟨rfl, hb⟩
  · have d0 : decide (i < 0) = false := decide_eq_false h0
    have d1 : decide ((hs.length : Int) ≤ i) = true := decide_eq_true (by omega)
    go_enter Tryz.func32, Tryz.ntmps32
    go_wp2_with fail
    refine (matrix_ok A c hs _ H hE (Lib.hid rfl)).mono ?_
    rintro e w1 ⟨A1, c1, rs, rfl, _, _, _, hb⟩
    go_wp2
    go_ret2
    exact ⟨rfl, hb⟩
set_option maxHeartbeats 1000000 in
set_option maxRecDepth 100000 in
theorem near_one {i : Int} (A : Option Addr) (c : Nat) (hs : List HR) (w : World) (H : HL w A hs) (hE : Hid (ChkIs hs 0)) (hi : 0 ≤ i ∧ i < hs.length) (h1 : Hid (hs.length = 1)) :
    Calls Tryz.prog 32 #[.slice A hs.length c, .int .i64 i] w (RetII w 0 7) := by
  have d0 : decide (i < 0) = false := decide_eq_false (by omega)
  have d1 : decide ((hs.length : Int) ≤ i) = false := decide_eq_false (by omega)
  have d2 : ((hs.length : Int) == 1) = true := by rw [beq_iff_eq]; have := h1.out; omega
  have d3 : (hs.length == 1) = true := by rw [beq_iff_eq]; exact h1.out
  go_enter Tryz.func32, Tryz.ntmps32
  go_wp2_with fail
  refine (matrix_ok A c hs _ H hE (Lib.hid rfl)).mono ?_
  rintro e w1 ⟨A1, c1, rs, rfl, _, _, _, hb⟩
  go_wp2
  go_ret2
  exact ⟨rfl, hb⟩
set_option maxHeartbeats 8000000 in
set_option maxRecDepth 100000 in
theorem near_go {i b0 : Nat} (A : Option Addr) (c : Nat) (hs : List HR) (w : World) (H : HL w A hs) (hE : Hid (ChkIs hs 0)) (hi : i < hs.length) (h1 : hs.length ≠ 1) (hb0 : Hid (nearTo (fun j => mq (matQ hs) (i : Int) (j : Int)) i hs.length = some b0)) :
    Calls Tryz.prog 32 #[.slice A hs.length c, .int .i64 (i : Int)] w (RetII w b0 0) := by
  have h8 := hE.out.ok.1
  obtain ⟨f, hf⟩ : ∃ f, Hid ((fun j : Nat => mq (matQ hs) (i : Int) (j : Int)) = f) := ⟨_, Lib.hid rfl⟩
  rw [hf.out] at hb0
  have d0 : decide ((i : Int) < 0) = false := decide_eq_false (by omega)
  have d1 : decide ((hs.length : Int) ≤ (i : Int)) = false := decide_eq_false (by omega)
  have d1b : decide (hs.length ≤ i) = false := decide_eq_false (by omega)
  have d2 : ((hs.length : Int) == 1) = false := by rw [beq_eq_false_iff_ne]; omega
  have d3 : (hs.length == 1) = false := by rw [beq_eq_false_iff_ne]; exact h1
  go_enter Tryz.func32, Tryz.ntmps32
  go_wp2_with fail
  refine (matrix_ok A c hs _ H hE (Lib.hid rfl)).mono ?_
  rintro e w1 ⟨A1, c1, rs, rfl, hs1, hq, HM, hb⟩
  have HS := Lib.hid hs1
  have hfq := Lib.hid (show ∀ j : Nat, mq (qOf rs) (i : Int) (j : Int) = f j from fun j => by rw [hq, ← hf.out])
  clear hs1 hq H
  obtain ⟨ad, ra, rca, fa, qa, hA1, hb1, hb2, ra0, na, FSa, FKa, ea⟩ := HM.rowN HS.out hi
  subst hA1
  have RA0 := ra0
  go_wp2
  go_loopg [8, 38] hs.length (fun g u v wr => ∃ m : Nat, m + g = hs.length ∧ u = .int .i64 (bI (nearTo f i m)) ∧ v = .int .i64 (m : Int) ∧ Below w1.heap.size w1 wr)
  case atStart => exact ⟨0, by omega, rfl, rfl, Below.refl _ _⟩
  case round =>
    obtain ⟨m, hm, rfl, rfl, hbw⟩ := hrel
    by_cases hm0 : m < hs.length
    · obtain ⟨x, x0, x1, x2, Fx⟩ := elN (FSa.ext hbw) (FKa.ext hbw) na hm0
      rw [ea m, hfq.out] at Fx
      have ra0 := below_up hbw RA0
      have HX := BL.nil wr
      go_upto_region 12 with fail
      have hb := below_alloc wr (.cells #[.bool x.s, .slice x.A x.n x.c, .slice x.B x.m x.d] 33)
      replace HX := HX.new #[.bool x.s, .slice x.A x.n x.c, .slice x.B x.m x.d] 33
      simp only [List.nil_append] at HX
      replace Fx := Fx.ext hb
      clear hb x0 x1 x2
      generalize wr.alloc (.cells #[.bool x.s, .slice x.A x.n x.c, .slice x.B x.m x.d] 33) = V9 at *
      generalize wr.heap.size = g9 at *
      by_cases hmi : m = i
      · have hn := Lib.hid (show nearTo f i (m + 1) = nearTo f i m by rw [nearTo, if_pos hmi])
        have hmb : ((m : Int) != (i : Int)) = false := by rw [bne_eq_false_iff_eq]; omega
        have hmb2 : (m != i) = false := by rw [bne_eq_false_iff_eq]; exact hmi
        clear hmi
        obtain ⟨bv, hbv⟩ : ∃ b, bI (nearTo f i m) = b := ⟨_, rfl⟩
        have hn2 := Lib.hid (show bI (nearTo f i (m + 1)) = bv by rw [hn.out, hbv])
        rw [hbv]
        clear hn hbv
        go_quiet (fail)
        have HXq := HX.ext (drew_below (Below.refl _ _) nq)
        go_wp2
        go_roundg (hs.length - (m + 1))
        case measure => omega
        case rel => exact ⟨m + 1, by omega, by rw [hn2.out], by go_num, bel_trans hbw HXq.below⟩
      · have hmb : ((m : Int) != (i : Int)) = true := by rw [bne_iff_ne]; omega
        have hmb2 : (m != i) = true := bne_iff_ne.2 hmi
        cases hnr : nearTo f i m with
        | none =>
          have hn2 := Lib.hid (show bI (nearTo f i (m + 1)) = (m : Int) by rw [nearTo, if_neg hmi, hnr]; rfl)
          rw [show bI none = -1 from rfl]
          clear hnr hmi
          go_quiet (fail)
          have HXq := HX.ext (drew_below (Below.refl _ _) nq)
          go_wp2
          go_roundg (hs.length - (m + 1))
          case measure => omega
          case rel => exact ⟨m + 1, by omega, by rw [hn2.out], by go_num, bel_trans hbw HXq.below⟩
        | some b =>
          obtain ⟨hbm, _⟩ := near_lt hnr
          have hbn : b < hs.length := by omega
          have hb0n : (0 : Int) ≤ (b : Int) := by omega
          obtain ⟨y, y0, y1, y2, Fy⟩ := elN (FSa.ext hbw) (FKa.ext hbw) na hbn
          rw [ea b, hfq.out] at Fy
          replace Fy := Fy.ext HX.below
          obtain ⟨s, H1⟩ : ∃ s, Hid (cmpQ (f m) (f b) = s) := ⟨_, Lib.hid rfl⟩
          have hdb : decide ((b : Int) < 0) = false := decide_eq_false (by omega)
          rw [show bI (some b) = (b : Int) from rfl]
          by_cases hs0 : 0 < s
          · have hsd : decide (0 < s) = true := decide_eq_true hs0
            have hn2 := Lib.hid (show bI (nearTo f i (m + 1)) = (m : Int) by
              rw [nearTo, if_neg hmi, hnr]
              show bI (if f b < f m then some m else some b) = _
              rw [if_pos (cmpQ_pos.1 (by rw [H1.out]; exact hs0))]; rfl)
            clear hnr hmi
            go_upto_region 12 with fail
            have held : ∀ {W' : World}, BL wr W' [(g9, #[.bool x.s, .slice x.A x.n x.c, .slice x.B x.m x.d], 33)] → W'.cell? ⟨g9, 0, none⟩ = some (.bool x.s) ∧ W'.cell? ⟨g9, 1, none⟩ = some (.slice x.A x.n x.c) ∧ W'.cell? ⟨g9, 2, none⟩ = some (.slice x.B x.m x.d) ∧ W'.cell? (ad.add i) = some (.slice (some ra) hs.length rca) ∧ W'.cell? (ra.add (b * 3)) = some (.bool y.s) ∧ W'.cell? ⟨(ra.add (b * 3)).block, (ra.add (b * 3)).off + 1, none⟩ = some (.slice y.A y.n y.c) ∧ W'.cell? ⟨(ra.add (b * 3)).block, (ra.add (b * 3)).off + 2, none⟩ = some (.slice y.B y.m y.d) := fun h => ⟨h.cell 0 0 rfl rfl, h.cell 0 1 rfl rfl, h.cell 0 2 rfl rfl, below_up h.below ra0, below_up h.below y0, below_up h.below y1, below_up h.below y2⟩
            replace HX := HX.ext (drew_ext _)
            replace Fx := Fx.ext (drew_ext _)
            replace Fy := Fy.ext (drew_ext _)
            go_region_held3 (fun W' => W'.cell? ⟨g9, 0, none⟩ = some (.bool x.s) ∧ W'.cell? ⟨g9, 1, none⟩ = some (.slice x.A x.n x.c) ∧ W'.cell? ⟨g9, 2, none⟩ = some (.slice x.B x.m x.d) ∧ W'.cell? (ad.add i) = some (.slice (some ra) hs.length rca) ∧ W'.cell? (ra.add (b * 3)) = some (.bool y.s) ∧ W'.cell? ⟨(ra.add (b * 3)).block, (ra.add (b * 3)).off + 1, none⟩ = some (.slice y.A y.n y.c) ∧ W'.cell? ⟨(ra.add (b * 3)).block, (ra.add (b * 3)).off + 2, none⟩ = some (.slice y.B y.m y.d))
              (exact held HX)
              (first
                | (go_at_call 17; refine (fcmp_h H1 Fx Fy (by omega) (by omega)).mono ?_; rintro e wz ⟨rfl, hb⟩; replace HX := HX.ext hb; replace Fx := Fx.ext hb; replace Fy := Fy.ext hb; clear hb))
            clear held
            all_goals (
              go_wp2
              go_roundg (hs.length - (m + 1))
              case measure => omega
              case rel => exact ⟨m + 1, by omega, by rw [hn2.out], by go_num, bel_trans hbw HX.below⟩)
          · have hsd : decide (0 < s) = false := decide_eq_false hs0
            have hn2 := Lib.hid (show bI (nearTo f i (m + 1)) = (b : Int) by
              rw [nearTo, if_neg hmi, hnr]
              show bI (if f b < f m then some m else some b) = _
              rw [if_neg fun h => hs0 (by rw [← H1.out]; exact cmpQ_pos.2 h)]; rfl)
            clear hnr hmi
            go_upto_region 12 with fail
            have held : ∀ {W' : World}, BL wr W' [(g9, #[.bool x.s, .slice x.A x.n x.c, .slice x.B x.m x.d], 33)] → W'.cell? ⟨g9, 0, none⟩ = some (.bool x.s) ∧ W'.cell? ⟨g9, 1, none⟩ = some (.slice x.A x.n x.c) ∧ W'.cell? ⟨g9, 2, none⟩ = some (.slice x.B x.m x.d) ∧ W'.cell? (ad.add i) = some (.slice (some ra) hs.length rca) ∧ W'.cell? (ra.add (b * 3)) = some (.bool y.s) ∧ W'.cell? ⟨(ra.add (b * 3)).block, (ra.add (b * 3)).off + 1, none⟩ = some (.slice y.A y.n y.c) ∧ W'.cell? ⟨(ra.add (b * 3)).block, (ra.add (b * 3)).off + 2, none⟩ = some (.slice y.B y.m y.d) := fun h => ⟨h.cell 0 0 rfl rfl, h.cell 0 1 rfl rfl, h.cell 0 2 rfl rfl, below_up h.below ra0, below_up h.below y0, below_up h.below y1, below_up h.below y2⟩
            replace HX := HX.ext (drew_ext _)
            replace Fx := Fx.ext (drew_ext _)
            replace Fy := Fy.ext (drew_ext _)
            go_region_held3 (fun W' => W'.cell? ⟨g9, 0, none⟩ = some (.bool x.s) ∧ W'.cell? ⟨g9, 1, none⟩ = some (.slice x.A x.n x.c) ∧ W'.cell? ⟨g9, 2, none⟩ = some (.slice x.B x.m x.d) ∧ W'.cell? (ad.add i) = some (.slice (some ra) hs.length rca) ∧ W'.cell? (ra.add (b * 3)) = some (.bool y.s) ∧ W'.cell? ⟨(ra.add (b * 3)).block, (ra.add (b * 3)).off + 1, none⟩ = some (.slice y.A y.n y.c) ∧ W'.cell? ⟨(ra.add (b * 3)).block, (ra.add (b * 3)).off + 2, none⟩ = some (.slice y.B y.m y.d))
              (exact held HX)
              (first
                | (go_at_call 17; refine (fcmp_h H1 Fx Fy (by omega) (by omega)).mono ?_; rintro e wz ⟨rfl, hb⟩; replace HX := HX.ext hb; replace Fx := Fx.ext hb; replace Fy := Fy.ext hb; clear hb))
            clear held
            all_goals (
              go_wp2
              go_roundg (hs.length - (m + 1))
              case measure => omega
              case rel => exact ⟨m + 1, by omega, by rw [hn2.out], by go_num, bel_trans hbw HX.below⟩)
    · obtain rfl : m = hs.length := by omega
      have hfin := Lib.hid (show bI (nearTo f i hs.length) = (b0 : Int) by rw [hb0.out]; rfl)
      rw [hfin.out]
      go_wp2
      go_ret2
      exact ⟨rfl, bel_trans hb hbw⟩
theorem near_any {i k E : Int} (A : Option Addr) (c : Nat) (hs : List HR) (w : World) (H : HL w A hs) (hl : hs.length ≤ 9223372036854775807) (h : Hid (NearIs hs i k E)) :
    Calls Tryz.prog 32 #[.slice A hs.length c, .int .i64 i] w (RetII w k E) := by
  obtain ⟨e, he, h⟩ := h.out
  rcases h with ⟨h0, rfl, rfl⟩ | ⟨rfl, hi, rfl, rfl⟩ | ⟨rfl, hi, h1, rfl, rfl⟩ | ⟨rfl, hi, h1, ⟨b, hb, rfl⟩, rfl⟩
  · exact near_err A c hs w H hl (Lib.hid he) (bne_iff_ne.2 h0)
  · exact near_out A c hs w H (Lib.hid he) hi
  · exact near_one A c hs w H (Lib.hid he) hi (Lib.hid h1)
  · obtain ⟨i, rfl⟩ := Int.eq_ofNat_of_zero_le hi.1
    exact near_go A c hs w H (Lib.hid he) (by omega) h1 (Lib.hid hb)
end Go.Proofs.YthempimelfmipaaGreatDoor

namespace Go.Proofs.YthempimelfmipaaGreatDoor
open Go.RowKit Go.Proofs Go

theorem nd_len : ∀ (n : Nat) (l : List Int), l.Nodup → (∀ x ∈ l, 0 ≤ x ∧ x < (n : Int)) → l.length ≤ n
  | 0, [], _, _ => Nat.le_refl _
  | 0, x :: l, _, h => by have := h x List.mem_cons_self; omega
  | n + 1, l, hn, h => by
    by_cases hm : (n : Int) ∈ l
    · have h1 := nd_len n (l.erase (n : Int)) (hn.erase _) fun x hx => by
        obtain ⟨h2, h3⟩ := (List.Nodup.mem_erase_iff hn).1 hx
        have := h x h3
        omega
      rw [List.length_erase_of_mem hm] at h1
      omega
    · have h1 := nd_len n l hn fun x hx => by
        have h2 := h x hx
        have h3 : x ≠ (n : Int) := fun e => hm (e ▸ hx)
        omega
      omega
theorem nd_perm : ∀ (n : Nat) (l : List Int), l.Nodup → (∀ x ∈ l, 0 ≤ x ∧ x < (n : Int)) → l.length = n → l.Perm (ups n)
  | 0, l, _, _, hl => by rw [List.eq_nil_of_length_eq_zero hl]; exact List.Perm.refl _
  | n + 1, l, hn, h, hl => by
    have hm : (n : Int) ∈ l := Classical.byContradiction fun hm => by
      have := nd_len n l hn fun x hx => by
        have h2 := h x hx
        have h3 : x ≠ (n : Int) := fun e => hm (e ▸ hx)
        omega
      omega
    have ih := nd_perm n (l.erase (n : Int)) (hn.erase _) (fun x hx => by
      obtain ⟨h2, h3⟩ := (List.Nodup.mem_erase_iff hn).1 hx
      have := h x h3
      omega) (by rw [List.length_erase_of_mem hm]; omega)
    rw [ups_snoc]
    exact (List.perm_cons_erase hm).trans ((List.Perm.cons _ ih).trans (List.perm_append_singleton _ _).symm)
theorem ups_nodup (n : Nat) : (ups n).Nodup := by
  rw [List.Nodup, ups, List.pairwise_map]
  exact List.pairwise_lt_range.imp fun h => by omega
theorem ord_iff {l : List Int} {n : Nat} (hl : l.length = n) (h1 : ∀ i, i < n → 0 ≤ el l i ∧ el l i < (n : Int)) (h2 : ∀ i k, i < n → k < i → el l i ≠ el l k) : IsOrd l n := by
  refine nd_perm n l ?_ ?_ hl
  · rw [List.Nodup, List.pairwise_iff_getElem]
    intro i j hi hj hij e
    refine h2 j i (by omega) hij ?_
    rw [el, el, List.getElem?_eq_getElem hi, List.getElem?_eq_getElem hj]
    exact e.symm
  · intro x hx
    obtain ⟨i, hi, rfl⟩ := List.getElem_of_mem hx
    have := h1 i (by omega)
    rwa [el, List.getElem?_eq_getElem hi] at this
theorem ord_ne {l : List Int} {n i k : Nat} (h : IsOrd l n) (hi : i < n) (hk : k < i) : el l i ≠ el l k := by
  have h1 := h.nodup_iff.2 (ups_nodup n)
  rw [List.Nodup, List.pairwise_iff_getElem] at h1
  have hl := h.len
  rw [el, el, List.getElem?_eq_getElem (show i < l.length by omega), List.getElem?_eq_getElem (show k < l.length by omega)]
  exact fun e => h1 k i (by omega) (by omega) hk e.symm
set_option maxHeartbeats 2000000 in
set_option maxRecDepth 100000 in
theorem order_any {b : Bool} (A : Option Addr) (c : Nat) (l : List Int) (n : Nat) (w : World) (H : IEs w A l) (hl : l.length ≤ 1000000) (hb : Hid (Tells b (IsOrd l n))) :
    Calls Tryz.prog 57 #[.slice A l.length c, .int .i64 (n : Int)] w (RetB w b) := by
  by_cases hln : l.length = n
  · have hne : ((l.length : Int) != (n : Int)) = false := by rw [bne_eq_false_iff_eq]; omega
    have hne2 : (l.length != n) = false := by rw [bne_eq_false_iff_eq]; exact hln
    have HLN := Lib.hid hln
    clear hln
    go_enter Tryz.func57, Tryz.ntmps57
    go_wp2
    go_loopg [5] n (fun g i wr => ∃ k : Nat, k + g = n ∧ i = .int .i64 (k : Int) ∧ Hid (∀ i, i < k → 0 ≤ el l i ∧ el l i < (n : Int)) ∧ Hid (∀ i j, i < k → j < i → el l i ≠ el l j) ∧ Below w.heap.size w wr)
    case atStart => exact ⟨0, by omega, rfl, Lib.hid (fun i h => by omega), Lib.hid (fun i j h => by omega), Below.refl _ _⟩
    case round =>
      obtain ⟨k, hk, rfl, h1, h2, hbw⟩ := hrel
      have hn6 : n ≤ 1000000 := by have := HLN.out; omega
      by_cases hk0 : k < n
      · have hkl : k < l.length := by have := HLN.out; omega
        obtain ⟨ad, rfl, hbk, c0⟩ := (H.ext hbw).at_ (el_get hkl)
        obtain ⟨x, hx⟩ : ∃ x, Hid (el l k = x) := ⟨_, Lib.hid rfl⟩
        rw [hx.out] at c0
        by_cases hr : 0 ≤ x ∧ x < (n : Int)
        · have d1 : decide (x < 0) = false := decide_eq_false (by omega)
          have d2 : decide ((n : Int) ≤ x) = false := decide_eq_false (by omega)
          have h1n := Lib.hid (show ∀ i, i < k + 1 → 0 ≤ el l i ∧ el l i < (n : Int) from fun i hi => by
            by_cases h : i < k
            · exact h1.out i h
            · obtain rfl : i = k := by omega
              rw [hx.out]; exact hr)
          clear hr h1
          go_wp2
          go_loopg [6] k (fun g u wr => ∃ m : Nat, m + g = k ∧ u = .int .i64 (m : Int) ∧ Hid (∀ j, j < m → el l k ≠ el l j) ∧ Below w.heap.size w wr)
          case atStart => exact ⟨0, by omega, rfl, Lib.hid (fun j h => by omega), hbw⟩
          case round =>
            clear hbw c0
            obtain ⟨m, hm, rfl, h3, hbw⟩ := hrel
            by_cases hm0 : m < k
            · have hml : m < l.length := by omega
              obtain ⟨ad2, hade, _, c0⟩ := (H.ext hbw).at_ (el_get hkl)
              obtain rfl := Option.some.inj hade
              obtain ⟨ad2, hade2, _, c1⟩ := (H.ext hbw).at_ (el_get hml)
              obtain rfl := Option.some.inj hade2
              obtain ⟨y, hy⟩ : ∃ x, Hid (el l m = x) := ⟨_, Lib.hid rfl⟩
              rw [hx.out] at c0
              rw [hy.out] at c1
              clear hade hade2
              by_cases hxy : x = y
              · obtain rfl : b = false := hb.out.f fun h => ord_ne h hk0 hm0 (by rw [hx.out, hy.out]; exact hxy)
                have d3 : (x == y) = true := by rw [beq_iff_eq]; exact hxy
                clear hxy
                go_upto_region 11 with fail
                go_quiet (fail)
                go_wp2
                go_ret
                exact ⟨rfl, drew_below hbw _⟩
              · have d3 : (x == y) = false := by rw [beq_eq_false_iff_ne]; exact hxy
                have h3n := Lib.hid (show ∀ j, j < m + 1 → el l k ≠ el l j from fun j hj => by
                  by_cases h : j < m
                  · exact h3.out j h
                  · obtain rfl : j = m := by omega
                    rw [hx.out, hy.out]; exact hxy)
                clear hxy
                go_upto_region 11 with fail
                go_quiet (fail)
                go_wp2
                go_roundg (k - (m + 1))
                case measure => omega
                case rel => exact ⟨m + 1, by omega, by go_num, h3n, drew_below hbw _⟩
            · obtain rfl : m = k := by omega
              have h2n := Lib.hid (show ∀ i j, i < m + 1 → j < i → el l i ≠ el l j from fun i j hi hj => by
                by_cases h : i < m
                · exact h2.out i j h hj
                · obtain rfl : i = m := by omega
                  exact h3.out j hj)
              go_wp2
              go_roundg (n - (m + 1))
              case measure => omega
              case rel => exact ⟨m + 1, by omega, by go_num, h1n, h2n, hbw⟩
        · obtain rfl : b = false := hb.out.f fun h => hr (by rw [← hx.out]; exact h.bd (el_mem hkl))
          by_cases hx0 : x < 0
          · have d1 : decide (x < 0) = true := decide_eq_true hx0
            clear hr
            go_wp2
            go_ret
            exact ⟨rfl, hbw⟩
          · have d1 : decide (x < 0) = false := decide_eq_false hx0
            have d2 : decide ((n : Int) ≤ x) = true := decide_eq_true (by omega)
            clear hr
            go_wp2
            go_ret
            exact ⟨rfl, hbw⟩
      · obtain rfl : k = n := by omega
        obtain rfl : b = true := hb.out.t (ord_iff HLN.out h1.out fun i j hi hj => h2.out i j hi hj)
        go_wp2
        go_ret
        exact ⟨rfl, hbw⟩
  · have hne : ((l.length : Int) != (n : Int)) = true := by rw [bne_iff_ne]; omega
    have hne2 : (l.length != n) = true := bne_iff_ne.2 hln
    obtain rfl : b = false := hb.out.f fun h => hln h.len
    clear hln
    go_enter Tryz.func57, Tryz.ntmps57
    go_wp2
    go_ret
    exact ⟨rfl, Below.refl _ _⟩
set_option maxHeartbeats 8000000 in
set_option maxRecDepth 100000 in
theorem rvalid_any {b : Bool} (A : Option Addr) (c : Nat) (rs : List RR) (w : World) (H : ML w A rs) (hl : rs.length ≤ 9223372036854775807) (hb : Hid (Tells b (MxV rs))) :
    Calls Tryz.prog 56 #[.slice A rs.length c] w (RetB w b) := by
  by_cases h6 : rs.length ≤ 6
  · have h6b : decide ((6 : Int) < (rs.length : Int)) = false := decide_eq_false (by omega)
    go_enter Tryz.func56, Tryz.ntmps56
    go_wp2
    go_loopg [3] rs.length (fun g i wr => ∃ k : Nat, k + g = rs.length ∧ i = .int .i64 (k : Int) ∧ Hid (∀ (j : Nat) (r : RR), j < k → rs[j]? = some r → r.fs.length = rs.length) ∧ Below w.heap.size w wr)
    case atStart => exact ⟨0, by omega, rfl, Lib.hid (fun j r h => by omega), Below.refl _ _⟩
    case round =>
      obtain ⟨k, hk, rfl, hok, hbw⟩ := hrel
      by_cases hk0 : k < rs.length
      · have hr := Lib.hid (List.getElem?_eq_getElem hk0)
        obtain ⟨ad, rfl, hbk, c0, _, _, hrl⟩ := (H.ext hbw).at_ hr.out
        generalize rs[k] = r at *
        by_cases he : r.fs.length = rs.length
        · have hnx := Lib.hid (show ∀ (j : Nat) (r : RR), j < k + 1 → rs[j]? = some r → r.fs.length = rs.length from fun j r' hj hr' => by
            by_cases h : j < k
            · exact hok.out j r' h hr'
            · obtain rfl : j = k := by omega
              rw [hr.out] at hr'
              obtain rfl := Option.some.inj hr'
              exact he)
          rw [he] at c0
          clear he
          go_wp2
          go_roundg (rs.length - (k + 1))
          case measure => omega
          case rel => exact ⟨k + 1, by omega, by go_num, hnx, hbw⟩
        · obtain rfl : b = false := hb.out.f fun h => he (h.2.1.2 k r hr.out)
          have hne : ((r.fs.length : Int) != (rs.length : Int)) = true := bne_iff_ne.2 fun h => he (by omega)
          clear he
          go_wp2
          go_ret
          exact ⟨rfl, hbw⟩
      · have HS : Hid (Sqr rs rs.length) := Lib.hid ⟨rfl, fun j r hr => hok.out j r (by have := (List.getElem?_eq_some_iff.1 hr).1; omega) hr⟩
        clear hok
        obtain ⟨M, hM⟩ : ∃ M, Hid (mq (qOf rs) = M) := ⟨_, Lib.hid rfl⟩
        go_wp2
        go_loopg [4] rs.length (fun g i wr => ∃ k : Nat, k + g = rs.length ∧ i = .int .i64 (k : Int) ∧ Hid (∀ i j : Nat, j < i → i < k → M i j = M j i) ∧ Below w.heap.size w wr)
        case atStart => exact ⟨0, by omega, rfl, Lib.hid (fun i j h1 h2 => by omega), hbw⟩
        case round =>
          clear hbw
          obtain ⟨i, hi, rfl, hok, hbw⟩ := hrel
          by_cases hi0 : i < rs.length
          · obtain ⟨ad, ra, rca, fa, qa, hA1, hb1, hb2, ra0, na, FSa, FKa, ea⟩ := (H.ext hbw).rowN HS.out hi0
            subst hA1
            obtain ⟨V, hV⟩ : ∃ V, V = wr := ⟨_, rfl⟩
            have hVb : Below V.heap.size V wr := by rw [hV]; exact Below.refl _ _
            have RA := ra0
            rw [← hV] at FSa FKa RA
            clear hV
            go_wp2
            go_loopg [5] i (fun g u wr => ∃ k : Nat, k + g = i ∧ u = .int .i64 (k : Int) ∧ Hid (∀ j : Nat, j < k → M i j = M j i) ∧ Below w.heap.size w wr ∧ Below V.heap.size V wr)
            case atStart => exact ⟨0, by omega, rfl, Lib.hid (fun j h => by omega), hbw, hVb⟩
            case round =>
              clear hbw hVb
              obtain ⟨k, hk, rfl, hkk, hbw, hVb⟩ := hrel
              by_cases hk0 : k < i
              · have hkn : k < rs.length := by omega
                obtain ⟨ad', rb, rcb, fb, qb, hA2, hb3, hb4, rb0, nb, FSb, FKb, eb⟩ := (H.ext hbw).rowN HS.out hkn
                obtain rfl := Option.some.inj hA2
                have ra0 := below_up hVb RA
                obtain ⟨x, x0, x1, x2, Fx⟩ := elN (FSa.ext hVb) (FKa.ext hVb) na hkn
                obtain ⟨y, y0, y1, y2, Fy⟩ := elN FSb FKb nb hi0
                rw [ea k, hM.out] at Fx
                rw [eb i, hM.out] at Fy
                clear FSb FKb nb eb hA2
                obtain ⟨s, H1⟩ : ∃ s, Hid (cmpQ (M i k) (M k i) = s) := ⟨_, Lib.hid rfl⟩
                by_cases hs0 : s = 0
                · subst hs0
                  have hnx := Lib.hid (show ∀ j : Nat, j < k + 1 → M i j = M j i from fun j hj => by
                    by_cases h : j < k
                    · exact hkk.out j h
                    · obtain rfl : j = k := by omega
                      exact cmpQ_zero.1 H1.out)
                  go_upto_region 14 with fail
                  have HX := BL.nil wr
                  have held : ∀ {W' : World}, BL wr W' [] → W'.cell? (ad.add i) = some (.slice (some ra) rs.length rca) ∧ W'.cell? (ra.add (k * 3)) = some (.bool x.s) ∧ W'.cell? ⟨(ra.add (k * 3)).block, (ra.add (k * 3)).off + 1, none⟩ = some (.slice x.A x.n x.c) ∧ W'.cell? ⟨(ra.add (k * 3)).block, (ra.add (k * 3)).off + 2, none⟩ = some (.slice x.B x.m x.d) ∧ W'.cell? (ad.add k) = some (.slice (some rb) rs.length rcb) ∧ W'.cell? (rb.add (i * 3)) = some (.bool y.s) ∧ W'.cell? ⟨(rb.add (i * 3)).block, (rb.add (i * 3)).off + 1, none⟩ = some (.slice y.A y.n y.c) ∧ W'.cell? ⟨(rb.add (i * 3)).block, (rb.add (i * 3)).off + 2, none⟩ = some (.slice y.B y.m y.d) := fun h => ⟨below_up h.below ra0, below_up h.below x0, below_up h.below x1, below_up h.below x2, below_up h.below rb0, below_up h.below y0, below_up h.below y1, below_up h.below y2⟩
                  replace HX := HX.ext (drew_ext _)
                  replace Fx := Fx.ext (drew_ext _)
                  replace Fy := Fy.ext (drew_ext _)
                  go_region_held3 (fun W' => W'.cell? (ad.add i) = some (.slice (some ra) rs.length rca) ∧ W'.cell? (ra.add (k * 3)) = some (.bool x.s) ∧ W'.cell? ⟨(ra.add (k * 3)).block, (ra.add (k * 3)).off + 1, none⟩ = some (.slice x.A x.n x.c) ∧ W'.cell? ⟨(ra.add (k * 3)).block, (ra.add (k * 3)).off + 2, none⟩ = some (.slice x.B x.m x.d) ∧ W'.cell? (ad.add k) = some (.slice (some rb) rs.length rcb) ∧ W'.cell? (rb.add (i * 3)) = some (.bool y.s) ∧ W'.cell? ⟨(rb.add (i * 3)).block, (rb.add (i * 3)).off + 1, none⟩ = some (.slice y.A y.n y.c) ∧ W'.cell? ⟨(rb.add (i * 3)).block, (rb.add (i * 3)).off + 2, none⟩ = some (.slice y.B y.m y.d))
                    (exact held HX)
                    (first
                      | (go_at_call 58; refine (qcmp_r H1 Fx Fy (by omega) (by omega)).mono ?_; rintro e wz ⟨rfl, hb⟩; replace HX := HX.ext hb; replace Fx := Fx.ext hb; replace Fy := Fy.ext hb; clear hb))
                  clear held
                  all_goals (
                    go_wp2
                    go_roundg (i - (k + 1))
                    case measure => omega
                    case rel => exact ⟨k + 1, by omega, by go_num, hnx, bel_trans hbw HX.below, bel_trans hVb HX.below⟩)
                · obtain rfl : b = false := hb.out.f fun h => hs0 (by rw [← H1.out]; exact cmpQ_eq (by rw [← hM.out]; exact h.2.2 i k hk0 hi0))
                  have hne : (s != 0) = true := bne_iff_ne.2 hs0
                  clear hs0
                  go_upto_region 14 with fail
                  have HX := BL.nil wr
                  have held : ∀ {W' : World}, BL wr W' [] → W'.cell? (ad.add i) = some (.slice (some ra) rs.length rca) ∧ W'.cell? (ra.add (k * 3)) = some (.bool x.s) ∧ W'.cell? ⟨(ra.add (k * 3)).block, (ra.add (k * 3)).off + 1, none⟩ = some (.slice x.A x.n x.c) ∧ W'.cell? ⟨(ra.add (k * 3)).block, (ra.add (k * 3)).off + 2, none⟩ = some (.slice x.B x.m x.d) ∧ W'.cell? (ad.add k) = some (.slice (some rb) rs.length rcb) ∧ W'.cell? (rb.add (i * 3)) = some (.bool y.s) ∧ W'.cell? ⟨(rb.add (i * 3)).block, (rb.add (i * 3)).off + 1, none⟩ = some (.slice y.A y.n y.c) ∧ W'.cell? ⟨(rb.add (i * 3)).block, (rb.add (i * 3)).off + 2, none⟩ = some (.slice y.B y.m y.d) := fun h => ⟨below_up h.below ra0, below_up h.below x0, below_up h.below x1, below_up h.below x2, below_up h.below rb0, below_up h.below y0, below_up h.below y1, below_up h.below y2⟩
                  replace HX := HX.ext (drew_ext _)
                  replace Fx := Fx.ext (drew_ext _)
                  replace Fy := Fy.ext (drew_ext _)
                  go_region_held3 (fun W' => W'.cell? (ad.add i) = some (.slice (some ra) rs.length rca) ∧ W'.cell? (ra.add (k * 3)) = some (.bool x.s) ∧ W'.cell? ⟨(ra.add (k * 3)).block, (ra.add (k * 3)).off + 1, none⟩ = some (.slice x.A x.n x.c) ∧ W'.cell? ⟨(ra.add (k * 3)).block, (ra.add (k * 3)).off + 2, none⟩ = some (.slice x.B x.m x.d) ∧ W'.cell? (ad.add k) = some (.slice (some rb) rs.length rcb) ∧ W'.cell? (rb.add (i * 3)) = some (.bool y.s) ∧ W'.cell? ⟨(rb.add (i * 3)).block, (rb.add (i * 3)).off + 1, none⟩ = some (.slice y.A y.n y.c) ∧ W'.cell? ⟨(rb.add (i * 3)).block, (rb.add (i * 3)).off + 2, none⟩ = some (.slice y.B y.m y.d))
                    (exact held HX)
                    (first
                      | (go_at_call 58; refine (qcmp_r H1 Fx Fy (by omega) (by omega)).mono ?_; rintro e wz ⟨rfl, hb⟩; replace HX := HX.ext hb; replace Fx := Fx.ext hb; replace Fy := Fy.ext hb; clear hb))
                  clear held
                  all_goals (
                    go_wp2
                    go_ret
                    exact ⟨rfl, bel_trans hbw HX.below⟩)
              · obtain rfl : k = i := by omega
                have hnx := Lib.hid (show ∀ a j : Nat, j < a → a < k + 1 → M a j = M j a from fun a j h1 h2 => by
                  by_cases h : a < k
                  · exact hok.out a j h1 h
                  · obtain rfl : a = k := by omega
                    exact hkk.out j h1)
                go_wp2
                go_roundg (rs.length - (k + 1))
                case measure => omega
                case rel => exact ⟨k + 1, by omega, by go_num, hnx, hbw⟩
          · obtain rfl : b = true := hb.out.t ⟨h6, HS.out, fun a j h1 h2 => by rw [hM.out]; exact hok.out a j h1 (by omega)⟩
            go_wp2
            go_ret
            exact ⟨rfl, hbw⟩
  · obtain rfl : b = false := hb.out.f fun h => h6 h.1
    have h6b : decide ((6 : Int) < (rs.length : Int)) = true := decide_eq_true (by omega)
    go_enter Tryz.func56, Tryz.ntmps56
    go_wp2
    go_ret
    exact ⟨rfl, Below.refl _ _⟩
end Go.Proofs.YthempimelfmipaaGreatDoor

namespace Go.Proofs.YthempimelfmipaaGreatDoor
open Go.RowKit Go.Proofs Go

theorem sumF_le {f : Nat → Nat} {a b : Nat} : ∀ {n : Nat}, (∀ i, f (a + i) ≤ b) → sumF f a n ≤ n * b
  | 0, _ => by simp [sumF]
  | n + 1, h => by
    have h1 := sumF_le (n := n) h
    have h2 := h n
    rw [sumF, Nat.succ_mul]; omega
theorem sumF_next {f : Nat → Nat} {a r : Nat} (h : a ≤ r) : sumF f a (r + 1 - a) = sumF f a (r - a) + f r := by
  rw [show r + 1 - a = r - a + 1 by omega, sumF, show a + (r - a) = r by omega]
theorem sumF_none (f : Nat → Nat) (a : Nat) : sumF f a (a - a) = 0 := by rw [Nat.sub_self]; rfl
set_option maxHeartbeats 8000000 in
set_option maxRecDepth 100000 in
theorem revents_go {ev : Nat} (A Ao : Option Addr) (c co : Nat) (rs : List RR) (l : List Int) (w : World) (H : ML w A rs) (hlr : rs.length ≤ 9223372036854775807) (Ho : IEs w Ao l) (hl : l.length ≤ 10) (hmx : Hid (MxV rs)) (hord : Hid (IsOrd l rs.length)) (hev : Hid (evs (mq (qOf rs)) l = ev)) :
    Calls Tryz.prog 23 #[.slice A rs.length c, .slice Ao l.length co] w (RetII w ev 0) := by
  have T1 := Lib.hid (yes hmx.out)
  have T2 := Lib.hid (yes hord.out)
  have HS := Lib.hid hmx.out.2.1
  have h6 := hmx.out.1
  obtain ⟨n, hn⟩ : ∃ n, Hid (rs.length = n) := ⟨_, Lib.hid rfl⟩
  have HB := Lib.hid (show ∀ x ∈ l, 0 ≤ x ∧ x < (n : Int) from fun x hx => by rw [← hn.out]; exact hord.out.bd hx)
  rw [hn.out] at HS h6 hlr T2
  obtain ⟨M, hM⟩ : ∃ M, Hid (mq (qOf rs) = M) := ⟨_, Lib.hid rfl⟩
  obtain ⟨T, hT⟩ : ∃ T : Nat → Nat → Nat → Nat, Hid ((fun p q r => tri M (el l p) (el l q) (el l r)) = T) := ⟨_, Lib.hid rfl⟩
  obtain ⟨G, hG⟩ : ∃ G : Nat → Nat → Nat, Hid ((fun p q => sumF (fun r => T p q r) (q + 1) (l.length - (q + 1))) = G) := ⟨_, Lib.hid rfl⟩
  obtain ⟨F, hF⟩ : ∃ F : Nat → Nat, Hid ((fun p => sumF (fun q => G p q) (p + 1) (l.length - (p + 1))) = F) := ⟨_, Lib.hid rfl⟩
  have hE := Lib.hid (show sumB F l.length = ev by rw [← hev.out, evs_ref, ← hF.out, ← hG.out, ← hT.out, hM.out])
  have hT2 : Hid (∀ p q r, T p q r ≤ 2) := Lib.hid (fun p q r => by rw [← hT.out]; exact tri_le _ _ _ _)
  have hG2 : Hid (∀ p q k, k ≤ 10 → sumF (fun r => T p q r) (q + 1) k ≤ 20) := Lib.hid (fun p q k h => by have := sumF_le (n := k) (a := q + 1) (f := fun r => T p q r) fun i => hT2.out p q _; omega)
  have hF2 : Hid (∀ p k, k ≤ 10 → sumF (fun q => G p q) (p + 1) k ≤ 200) := Lib.hid (fun p k h => by
    have := sumF_le (n := k) (a := p + 1) (f := fun q => G p q) (b := 20) fun i => by rw [← hG.out]; exact hG2.out p _ _ (by omega)
    omega)
  have hE2 : Hid (∀ p, p ≤ 10 → sumB F p ≤ 2000) := Lib.hid (fun p h => by
    have := sumB_le (n := p) (f := F) (b := 200) fun i hi => by rw [← hF.out]; exact hF2.out i _ (by omega)
    omega)
  have cV : ∀ W : World, ML W A rs → Calls Tryz.prog 56 #[.slice A n c] W (RetB W true) := fun W h => by
    have := rvalid_any (b := true) A c rs W h (by rw [hn.out]; exact hlr) T1
    rwa [hn.out] at this
  rw [hn.out]
  clear hev hmx hord T1
  go_enter Tryz.func23, Tryz.ntmps23
  go_wp2_with fail
  refine (cV _ H).mono ?_
  rintro e w1 ⟨rfl, hb1⟩
  clear cV
  go_wp2_with fail
  refine (order_any (b := true) Ao co l n _ (Ho.ext hb1) (by omega) T2).mono ?_
  rintro e w2 ⟨rfl, hb2⟩
  have hbw0 := bel_trans hb1 hb2
  clear hb1 hb2 T2
  go_wp2
  go_loopg [6, 7] l.length (fun g u i wr => ∃ p : Nat, p + g = l.length ∧ u = .int .i64 ((sumB F p : Nat) : Int) ∧ i = .int .i64 (p : Int) ∧ Below w.heap.size w wr)
  case atStart => exact ⟨0, by omega, rfl, rfl, hbw0⟩
  case round =>
    clear hbw0
    obtain ⟨p, hp, rfl, rfl, hbw⟩ := hrel
    by_cases hp0 : p < l.length
    · have hE3 := hE2.out p (by omega)
      have hsp := Lib.hid (show sumB F (p + 1) = sumB F p + sumF (fun q => G p q) (p + 1) (l.length - (p + 1)) by rw [sumB, ← hF.out])
      generalize sumB F p = s1 at *
      go_wp2
      go_loopg [6, 8] (l.length - (p + 1)) (fun g u i wr => ∃ q : Nat, q + g = l.length ∧ p + 1 ≤ q ∧ u = .int .i64 (((s1 + sumF (fun q => G p q) (p + 1) (q - (p + 1)) : Nat)) : Int) ∧ i = .int .i64 (q : Int) ∧ Below w.heap.size w wr)
      case atStart => exact ⟨p + 1, by omega, by omega, by rw [sumF_none]; rfl, by go_num, hbw⟩
      case round =>
        clear hbw
        obtain ⟨q, hq, hpq, rfl, rfl, hbw⟩ := hrel
        by_cases hq0 : q < l.length
        · have hF3 := hF2.out p (q - (p + 1)) (by omega)
          have hsq := Lib.hid (show sumF (fun q => G p q) (p + 1) (q + 1 - (p + 1)) = sumF (fun q => G p q) (p + 1) (q - (p + 1)) + sumF (fun r => T p q r) (q + 1) (l.length - (q + 1)) by rw [sumF_next hpq, ← hG.out])
          generalize sumF (fun q => G p q) (p + 1) (q - (p + 1)) = s2 at *
          go_wp2
          go_loopg [6, 9] (l.length - (q + 1)) (fun g u i wr => ∃ r : Nat, r + g = l.length ∧ q + 1 ≤ r ∧ u = .int .i64 (((s1 + s2 + sumF (fun r => T p q r) (q + 1) (r - (q + 1)) : Nat)) : Int) ∧ i = .int .i64 (r : Int) ∧ Below w.heap.size w wr)
          case atStart => exact ⟨q + 1, by omega, by omega, by rw [sumF_none]; rfl, by go_num, hbw⟩
          case round =>
            clear hbw
            obtain ⟨r, hr, hqr, rfl, rfl, hbw⟩ := hrel
            by_cases hr0 : r < l.length
            · have hG3 := hG2.out p q (r - (q + 1)) (by omega)
              have hsu0 := show sumF (fun r => T p q r) (q + 1) (r + 1 - (q + 1)) = sumF (fun r => T p q r) (q + 1) (r - (q + 1)) + tri M (el l p) (el l q) (el l r) by rw [sumF_next hqr, ← hT.out]
              generalize sumF (fun r => T p q r) (q + 1) (r - (q + 1)) = s3 at *
              obtain ⟨ao, hao, hbo, op⟩ := (Ho.ext hbw).at_ (el_get (show p < l.length by omega))
              obtain ⟨ao2, hao2, _, oq⟩ := (Ho.ext hbw).at_ (el_get (show q < l.length by omega))
              obtain ⟨ao3, hao3, _, or_⟩ := (Ho.ext hbw).at_ (el_get (show r < l.length by omega))
              obtain rfl := Option.some.inj (hao.symm.trans hao2)
              obtain rfl := Option.some.inj (hao.symm.trans hao3)
              have bp := HB.out _ (el_mem (show p < l.length by omega))
              have bq := HB.out _ (el_mem (show q < l.length by omega))
              have br := HB.out _ (el_mem (show r < l.length by omega))
              generalize el l p = xp at *
              generalize el l q = xq at *
              generalize el l r = xr at *
              obtain ⟨i, rfl⟩ := Int.eq_ofNat_of_zero_le bp.1
              obtain ⟨j, rfl⟩ := Int.eq_ofNat_of_zero_le bq.1
              obtain ⟨k, rfl⟩ := Int.eq_ofNat_of_zero_le br.1
              have hi : i < n := by omega
              have hj : j < n := by omega
              have hk : k < n := by omega
              clear bp bq br hao2 hao3
              obtain ⟨ad, ra, rca, fa, qa, hA1, hb1, hb2, ra0, na, FSa, FKa, ea⟩ := (H.ext hbw).rowN HS.out hi
              obtain ⟨ad', rb, rcb, fb, qb, hA2, hb3, hb4, rb0, nb, FSb, FKb, eb⟩ := (H.ext hbw).rowN HS.out hj
              obtain rfl := Option.some.inj (hA1.symm.trans hA2)
              clear hA2
              obtain ⟨z, z0, z1, z2, Fz⟩ := elN FSa FKa na hk
              obtain ⟨x, x0, x1, x2, Fx⟩ := elN FSa FKa na hj
              obtain ⟨y, y0, y1, y2, Fy⟩ := elN FSb FKb nb hk
              rw [ea k, hM.out] at Fz
              rw [ea j, hM.out] at Fx
              rw [eb k, hM.out] at Fy
              clear FSa FSb FKa FKb na nb ea eb
              obtain ⟨s1c, H1⟩ : ∃ s, Hid (cmpQ (M i k) (M i j) = s) := ⟨_, Lib.hid rfl⟩
              obtain ⟨s2c, H2⟩ : ∃ s, Hid (cmpQ (M i k) (M j k) = s) := ⟨_, Lib.hid rfl⟩
              rw [tri, gtQ_cmp H1.out, gtQ_cmp H2.out] at hsu0
              have HSU := Lib.hid hsu0
              clear hsu0
              subst hA1
              subst hao
              have hpl : p < l.length := by omega
              have hql : q < l.length := by omega
              have hrl : r < l.length := by omega
              go_upto_region 15 with fail
              have HX := BL.nil wr
              refine wp_region_x (al := [13]) (late := []) (dst := fun i => 10) (zt := fun _ => (#[.bool false, .slice none 0 0, .slice none 0 0], 33)) (B := wr.heap.size) (n := 13) (r := 1) (by kernel_rfl) (by kernel_rfl) (by decide) ?_ (by kernel_rfl) (by kernel_rfl) (by intro _ _ _ d _ h; cases d <;> exact h) (sz := 15) (by rfl) (by rfl) (Nat.le_refl _) ?_
              · intro i hi
                simp only [List.mem_cons, List.not_mem_nil, or_false] at hi
                subst hi
                exact ⟨_, rfl, rfl, rfl, rfl, fun _ _ => by kernel_rfl⟩
              have hE : Ext wr wr.drew := drew_ext wr
              replace HX := HX.ext hE
              replace Fz := Fz.ext hE
              replace Fx := Fx.ext hE
              replace Fy := Fy.ext hE
              clear hE
              refine wpX_take (i := 0) (v := .slice (some ad) n c) (by simp only [List.getElem?_toArray, List.getElem?_cons_zero]; rfl) (by kernel_rfl) (by kernel_rfl) (by kernel_rfl) (by exact fun _ _ _ h => h) (Or.inl ⟨by rfl, fun W hW => ?_⟩) ?_
              · go_simp
                try rfl
              try simp only [Act.put, List.setIfInBounds_toArray, List.set_cons_zero, List.set_cons_succ]
              refine wpX_take (i := 1) (v := .slice (some ao) l.length co) (by simp only [List.getElem?_toArray, List.getElem?_cons_succ, List.getElem?_cons_zero]; rfl) (by kernel_rfl) (by kernel_rfl) (by kernel_rfl) (by exact fun _ _ _ h => h) (Or.inl ⟨by rfl, fun W hW => ?_⟩) ?_
              · go_simp
                try rfl
              try simp only [Act.put, List.setIfInBounds_toArray, List.set_cons_zero, List.set_cons_succ]
              refine wpX_take (i := 2) (v := .int .i64 (p : Int)) (by simp only [List.getElem?_toArray, List.getElem?_cons_succ, List.getElem?_cons_zero]; rfl) (by kernel_rfl) (by kernel_rfl) (by kernel_rfl) (by exact fun _ _ _ h => h) (Or.inl ⟨by rfl, fun W hW => ?_⟩) ?_
              · go_simp
                try rfl
              try simp only [Act.put, List.setIfInBounds_toArray, List.set_cons_zero, List.set_cons_succ]
              refine wpX_take (i := 3) (v := .pointer (some (ao.add p))) (by simp only [List.getElem?_toArray, List.getElem?_cons_succ, List.getElem?_cons_zero]; rfl) (by kernel_rfl) (by kernel_rfl) (by kernel_rfl) (by exact fun _ _ _ h => h) (Or.inl ⟨by rfl, fun W hW => ?_⟩) ?_
              · go_simp
                try rfl
              try simp only [Act.put, List.setIfInBounds_toArray, List.set_cons_zero, List.set_cons_succ]
              refine wpX_take (i := 4) (v := .int .i64 (i : Int)) (by simp only [List.getElem?_toArray, List.getElem?_cons_succ, List.getElem?_cons_zero]; rfl) (by kernel_rfl) (by kernel_rfl) (by kernel_rfl) (by exact fun _ _ _ h => h) (Or.inl ⟨by rfl, fun W hW => ?_⟩) ?_
              · have h0 := below_up (bel_trans HX.below hW) op
                go_simp
                try rfl
              try simp only [Act.put, List.setIfInBounds_toArray, List.set_cons_zero, List.set_cons_succ]
              refine wpX_take (i := 5) (v := .pointer (some (ad.add i))) (by simp only [List.getElem?_toArray, List.getElem?_cons_succ, List.getElem?_cons_zero]; rfl) (by kernel_rfl) (by kernel_rfl) (by kernel_rfl) (by exact fun _ _ _ h => h) (Or.inl ⟨by rfl, fun W hW => ?_⟩) ?_
              · go_simp
                try rfl
              try simp only [Act.put, List.setIfInBounds_toArray, List.set_cons_zero, List.set_cons_succ]
              refine wpX_take (i := 6) (v := .slice (some ra) n rca) (by simp only [List.getElem?_toArray, List.getElem?_cons_succ, List.getElem?_cons_zero]; rfl) (by kernel_rfl) (by kernel_rfl) (by kernel_rfl) (by exact fun _ _ _ h => h) (Or.inl ⟨by rfl, fun W hW => ?_⟩) ?_
              · have h0 := below_up (bel_trans HX.below hW) ra0
                go_simp
                try rfl
              try simp only [Act.put, List.setIfInBounds_toArray, List.set_cons_zero, List.set_cons_succ]
              refine wpX_take (i := 7) (v := .slice (some ao) l.length co) (by simp only [List.getElem?_toArray, List.getElem?_cons_succ, List.getElem?_cons_zero]; rfl) (by kernel_rfl) (by kernel_rfl) (by kernel_rfl) (by exact fun _ _ _ h => h) (Or.inl ⟨by rfl, fun W hW => ?_⟩) ?_
              · go_simp
                try rfl
              try simp only [Act.put, List.setIfInBounds_toArray, List.set_cons_zero, List.set_cons_succ]
              refine wpX_take (i := 8) (v := .int .i64 (r : Int)) (by simp only [List.getElem?_toArray, List.getElem?_cons_succ, List.getElem?_cons_zero]; rfl) (by kernel_rfl) (by kernel_rfl) (by kernel_rfl) (by exact fun _ _ _ h => h) (Or.inl ⟨by rfl, fun W hW => ?_⟩) ?_
              · go_simp
                try rfl
              try simp only [Act.put, List.setIfInBounds_toArray, List.set_cons_zero, List.set_cons_succ]
              refine wpX_take (i := 9) (v := .pointer (some (ao.add r))) (by simp only [List.getElem?_toArray, List.getElem?_cons_succ, List.getElem?_cons_zero]; rfl) (by kernel_rfl) (by kernel_rfl) (by kernel_rfl) (by exact fun _ _ _ h => h) (Or.inl ⟨by rfl, fun W hW => ?_⟩) ?_
              · go_simp
                try rfl
              try simp only [Act.put, List.setIfInBounds_toArray, List.set_cons_zero, List.set_cons_succ]
              refine wpX_take (i := 10) (v := .int .i64 (k : Int)) (by simp only [List.getElem?_toArray, List.getElem?_cons_succ, List.getElem?_cons_zero]; rfl) (by kernel_rfl) (by kernel_rfl) (by kernel_rfl) (by exact fun _ _ _ h => h) (Or.inl ⟨by rfl, fun W hW => ?_⟩) ?_
              · have h0 := below_up (bel_trans HX.below hW) or_
                go_simp
                try rfl
              try simp only [Act.put, List.setIfInBounds_toArray, List.set_cons_zero, List.set_cons_succ]
              refine wpX_take (i := 11) (v := .pointer (some (ra.add (k * 3)))) (by simp only [List.getElem?_toArray, List.getElem?_cons_succ, List.getElem?_cons_zero]; rfl) (by kernel_rfl) (by kernel_rfl) (by kernel_rfl) (by exact fun _ _ _ h => h) (Or.inl ⟨by rfl, fun W hW => ?_⟩) ?_
              · go_simp
                try rfl
              try simp only [Act.put, List.setIfInBounds_toArray, List.set_cons_zero, List.set_cons_succ]
              refine wpX_take (i := 12) (v := .agg #[.bool z.s, .slice z.A z.n z.c, .slice z.B z.m z.d]) (by simp only [List.getElem?_toArray, List.getElem?_cons_succ, List.getElem?_cons_zero]; rfl) (by kernel_rfl) (by kernel_rfl) (by kernel_rfl) (by exact fun _ _ _ h => h) (Or.inl ⟨by rfl, fun W hW => ?_⟩) ?_
              · have h0 := below_up (bel_trans HX.below hW) z0
                have h1 := below_up (bel_trans HX.below hW) z1
                have h2 := below_up (bel_trans HX.below hW) z2
                go_simp
                try rfl
              try simp only [Act.put, List.setIfInBounds_toArray, List.set_cons_zero, List.set_cons_succ]
              refine wpX_end (by kernel_rfl) (fun W5 ga m hE hg hm => ?_)
              replace HX := HX.ext hE
              replace Fz := Fz.ext hE
              replace Fx := Fx.ext hE
              replace Fy := Fy.ext hE
              clear hE
              have hgg := hg.1 13 (by simp)
              have hlg9 := hgg.1
              have hkg9 := hgg.2
              clear hgg
              clear hg
              simp only [putAll]
              try simp only [Act.put, List.setIfInBounds_toArray, List.set_cons_zero, List.set_cons_succ]
              generalize ga 13 = g9 at hlg9 hkg9 ⊢
              try clear ga
              replace HX := HX.add hkg9
              clear hkg9
              simp only [List.nil_append] at HX
              have hc00 := HX.cell 0 0 rfl rfl
              have hf00 := HX.free 0 0 rfl
              have hc01 := HX.cell 0 1 rfl rfl
              have hf01 := HX.free 0 1 rfl
              have hc02 := HX.cell 0 2 rfl rfl
              have hf02 := HX.free 0 2 rfl
              try simp only [List.getElem_toArray, List.getElem_cons_zero, List.getElem_cons_succ] at hc00 hf00 hc01 hf01 hc02 hf02
              refine wpAny_step (i := 14) (by kernel_rfl) (by simp only [List.getElem?_toArray, List.getElem?_cons_succ, List.getElem?_cons_zero]; rfl) (by omega) (fun K hK => ?_)
              go_simp
              refine hK.out _ _ ?_
              clear hK K
              clear hc00 hf00 hc01 hf01 hc02 hf02
              have hk := HX.keep3 0 rfl rfl rfl rfl (by omega) (.bool z.s) (.slice z.A z.n z.c) (.slice z.B z.m z.d)
              replace HX := HX.put3 0 rfl (by omega) (by intro k q hk hne; match k, hk with | 0, hk => (simp at hk; subst hk; simp at hne ⊢; try omega) | k + 1, hk => simp at hk) (.bool z.s) (.slice z.A z.n z.c) (.slice z.B z.m z.d)
              replace Fz := Fz.stay hk
              replace Fx := Fx.stay hk
              replace Fy := Fy.stay hk
              clear hk
              simp only [List.set_cons_zero] at HX
              generalize ((W5.setCell ⟨g9, 0, none⟩ (.bool z.s)).setCell ⟨g9, 1, none⟩ (.slice z.A z.n z.c)).setCell ⟨g9, 2, none⟩ (.slice z.B z.m z.d) = V9 at HX Fz Fx Fy ⊢
              refine wpAny_done (by kernel_rfl) ?_ _
              by_cases hx1 : 0 < s1c
              · have hd1 : decide (0 < s1c) = true := decide_eq_true hx1
                go_upto_region 16 with fail
                have held : ∀ {W' : World}, BL wr W' [(g9, #[.bool z.s, .slice z.A z.n z.c, .slice z.B z.m z.d], 33)] → W'.cell? ⟨g9, 0, none⟩ = some (.bool z.s) ∧ W'.cell? ⟨g9, 1, none⟩ = some (.slice z.A z.n z.c) ∧ W'.cell? ⟨g9, 2, none⟩ = some (.slice z.B z.m z.d) ∧ W'.cell? (ao.add p) = some (.int .i64 (i : Int)) ∧ W'.cell? (ad.add i) = some (.slice (some ra) n rca) ∧ W'.cell? (ao.add q) = some (.int .i64 (j : Int)) ∧ W'.cell? (ra.add (j * 3)) = some (.bool x.s) ∧ W'.cell? ⟨(ra.add (j * 3)).block, (ra.add (j * 3)).off + 1, none⟩ = some (.slice x.A x.n x.c) ∧ W'.cell? ⟨(ra.add (j * 3)).block, (ra.add (j * 3)).off + 2, none⟩ = some (.slice x.B x.m x.d) := fun h => ⟨h.cell 0 0 rfl rfl, h.cell 0 1 rfl rfl, h.cell 0 2 rfl rfl, below_up h.below op, below_up h.below ra0, below_up h.below oq, below_up h.below x0, below_up h.below x1, below_up h.below x2⟩
                replace HX := HX.ext (drew_ext _)
                replace Fz := Fz.ext (drew_ext _)
                replace Fx := Fx.ext (drew_ext _)
                replace Fy := Fy.ext (drew_ext _)
                go_region_held3 (fun W' => W'.cell? ⟨g9, 0, none⟩ = some (.bool z.s) ∧ W'.cell? ⟨g9, 1, none⟩ = some (.slice z.A z.n z.c) ∧ W'.cell? ⟨g9, 2, none⟩ = some (.slice z.B z.m z.d) ∧ W'.cell? (ao.add p) = some (.int .i64 (i : Int)) ∧ W'.cell? (ad.add i) = some (.slice (some ra) n rca) ∧ W'.cell? (ao.add q) = some (.int .i64 (j : Int)) ∧ W'.cell? (ra.add (j * 3)) = some (.bool x.s) ∧ W'.cell? ⟨(ra.add (j * 3)).block, (ra.add (j * 3)).off + 1, none⟩ = some (.slice x.A x.n x.c) ∧ W'.cell? ⟨(ra.add (j * 3)).block, (ra.add (j * 3)).off + 2, none⟩ = some (.slice x.B x.m x.d))
                  (exact held HX)
                  (first
                    | (go_at_call 58; refine (qcmp_r H1 Fz Fx (by omega) (by omega)).mono ?_; rintro e wz ⟨rfl, hb⟩; replace HX := HX.ext hb; replace Fz := Fz.ext hb; replace Fx := Fx.ext hb; replace Fy := Fy.ext hb; clear hb))
                clear held
                all_goals (
                  clear Fx
                  by_cases hx2 : 0 < s2c
                  · have hd2 : decide (0 < s2c) = true := decide_eq_true hx2
                    go_upto_region 18 with fail
                    have held : ∀ {W' : World}, BL wr W' [(g9, #[.bool z.s, .slice z.A z.n z.c, .slice z.B z.m z.d], 33)] → W'.cell? ⟨g9, 0, none⟩ = some (.bool z.s) ∧ W'.cell? ⟨g9, 1, none⟩ = some (.slice z.A z.n z.c) ∧ W'.cell? ⟨g9, 2, none⟩ = some (.slice z.B z.m z.d) ∧ W'.cell? (ao.add q) = some (.int .i64 (j : Int)) ∧ W'.cell? (ad.add j) = some (.slice (some rb) n rcb) ∧ W'.cell? (ao.add r) = some (.int .i64 (k : Int)) ∧ W'.cell? (rb.add (k * 3)) = some (.bool y.s) ∧ W'.cell? ⟨(rb.add (k * 3)).block, (rb.add (k * 3)).off + 1, none⟩ = some (.slice y.A y.n y.c) ∧ W'.cell? ⟨(rb.add (k * 3)).block, (rb.add (k * 3)).off + 2, none⟩ = some (.slice y.B y.m y.d) := fun h => ⟨h.cell 0 0 rfl rfl, h.cell 0 1 rfl rfl, h.cell 0 2 rfl rfl, below_up h.below oq, below_up h.below rb0, below_up h.below or_, below_up h.below y0, below_up h.below y1, below_up h.below y2⟩
                    replace HX := HX.ext (drew_ext _)
                    replace Fz := Fz.ext (drew_ext _)
                    replace Fy := Fy.ext (drew_ext _)
                    go_region_held3 (fun W' => W'.cell? ⟨g9, 0, none⟩ = some (.bool z.s) ∧ W'.cell? ⟨g9, 1, none⟩ = some (.slice z.A z.n z.c) ∧ W'.cell? ⟨g9, 2, none⟩ = some (.slice z.B z.m z.d) ∧ W'.cell? (ao.add q) = some (.int .i64 (j : Int)) ∧ W'.cell? (ad.add j) = some (.slice (some rb) n rcb) ∧ W'.cell? (ao.add r) = some (.int .i64 (k : Int)) ∧ W'.cell? (rb.add (k * 3)) = some (.bool y.s) ∧ W'.cell? ⟨(rb.add (k * 3)).block, (rb.add (k * 3)).off + 1, none⟩ = some (.slice y.A y.n y.c) ∧ W'.cell? ⟨(rb.add (k * 3)).block, (rb.add (k * 3)).off + 2, none⟩ = some (.slice y.B y.m y.d))
                      (exact held HX)
                      (first
                        | (go_at_call 58; refine (qcmp_r H2 Fz Fy (by omega) (by omega)).mono ?_; rintro e wz ⟨rfl, hb⟩; replace HX := HX.ext hb; replace Fz := Fz.ext hb; replace Fy := Fy.ext hb; clear hb))
                    clear held
                    all_goals (
                      go_wp2
                      go_roundg (l.length - (r + 1))
                      case measure => omega
                      case rel => exact ⟨r + 1, by omega, by omega, by rw [HSU.out, if_pos (by omega), if_pos (by omega)]; try go_num, by go_num, bel_trans hbw HX.below⟩)
                  · have hd2 : decide (0 < s2c) = false := decide_eq_false hx2
                    go_upto_region 18 with fail
                    have held : ∀ {W' : World}, BL wr W' [(g9, #[.bool z.s, .slice z.A z.n z.c, .slice z.B z.m z.d], 33)] → W'.cell? ⟨g9, 0, none⟩ = some (.bool z.s) ∧ W'.cell? ⟨g9, 1, none⟩ = some (.slice z.A z.n z.c) ∧ W'.cell? ⟨g9, 2, none⟩ = some (.slice z.B z.m z.d) ∧ W'.cell? (ao.add q) = some (.int .i64 (j : Int)) ∧ W'.cell? (ad.add j) = some (.slice (some rb) n rcb) ∧ W'.cell? (ao.add r) = some (.int .i64 (k : Int)) ∧ W'.cell? (rb.add (k * 3)) = some (.bool y.s) ∧ W'.cell? ⟨(rb.add (k * 3)).block, (rb.add (k * 3)).off + 1, none⟩ = some (.slice y.A y.n y.c) ∧ W'.cell? ⟨(rb.add (k * 3)).block, (rb.add (k * 3)).off + 2, none⟩ = some (.slice y.B y.m y.d) := fun h => ⟨h.cell 0 0 rfl rfl, h.cell 0 1 rfl rfl, h.cell 0 2 rfl rfl, below_up h.below oq, below_up h.below rb0, below_up h.below or_, below_up h.below y0, below_up h.below y1, below_up h.below y2⟩
                    replace HX := HX.ext (drew_ext _)
                    replace Fz := Fz.ext (drew_ext _)
                    replace Fy := Fy.ext (drew_ext _)
                    go_region_held3 (fun W' => W'.cell? ⟨g9, 0, none⟩ = some (.bool z.s) ∧ W'.cell? ⟨g9, 1, none⟩ = some (.slice z.A z.n z.c) ∧ W'.cell? ⟨g9, 2, none⟩ = some (.slice z.B z.m z.d) ∧ W'.cell? (ao.add q) = some (.int .i64 (j : Int)) ∧ W'.cell? (ad.add j) = some (.slice (some rb) n rcb) ∧ W'.cell? (ao.add r) = some (.int .i64 (k : Int)) ∧ W'.cell? (rb.add (k * 3)) = some (.bool y.s) ∧ W'.cell? ⟨(rb.add (k * 3)).block, (rb.add (k * 3)).off + 1, none⟩ = some (.slice y.A y.n y.c) ∧ W'.cell? ⟨(rb.add (k * 3)).block, (rb.add (k * 3)).off + 2, none⟩ = some (.slice y.B y.m y.d))
                      (exact held HX)
                      (first
                        | (go_at_call 58; refine (qcmp_r H2 Fz Fy (by omega) (by omega)).mono ?_; rintro e wz ⟨rfl, hb⟩; replace HX := HX.ext hb; replace Fz := Fz.ext hb; replace Fy := Fy.ext hb; clear hb))
                    clear held
                    all_goals (
                      go_wp2
                      go_roundg (l.length - (r + 1))
                      case measure => omega
                      case rel => exact ⟨r + 1, by omega, by omega, by rw [HSU.out, if_pos (by omega), if_neg (by omega)]; try go_num, by go_num, bel_trans hbw HX.below⟩))
              · have hd1 : decide (0 < s1c) = false := decide_eq_false hx1
                go_upto_region 16 with fail
                have held : ∀ {W' : World}, BL wr W' [(g9, #[.bool z.s, .slice z.A z.n z.c, .slice z.B z.m z.d], 33)] → W'.cell? ⟨g9, 0, none⟩ = some (.bool z.s) ∧ W'.cell? ⟨g9, 1, none⟩ = some (.slice z.A z.n z.c) ∧ W'.cell? ⟨g9, 2, none⟩ = some (.slice z.B z.m z.d) ∧ W'.cell? (ao.add p) = some (.int .i64 (i : Int)) ∧ W'.cell? (ad.add i) = some (.slice (some ra) n rca) ∧ W'.cell? (ao.add q) = some (.int .i64 (j : Int)) ∧ W'.cell? (ra.add (j * 3)) = some (.bool x.s) ∧ W'.cell? ⟨(ra.add (j * 3)).block, (ra.add (j * 3)).off + 1, none⟩ = some (.slice x.A x.n x.c) ∧ W'.cell? ⟨(ra.add (j * 3)).block, (ra.add (j * 3)).off + 2, none⟩ = some (.slice x.B x.m x.d) := fun h => ⟨h.cell 0 0 rfl rfl, h.cell 0 1 rfl rfl, h.cell 0 2 rfl rfl, below_up h.below op, below_up h.below ra0, below_up h.below oq, below_up h.below x0, below_up h.below x1, below_up h.below x2⟩
                replace HX := HX.ext (drew_ext _)
                replace Fz := Fz.ext (drew_ext _)
                replace Fx := Fx.ext (drew_ext _)
                replace Fy := Fy.ext (drew_ext _)
                go_region_held3 (fun W' => W'.cell? ⟨g9, 0, none⟩ = some (.bool z.s) ∧ W'.cell? ⟨g9, 1, none⟩ = some (.slice z.A z.n z.c) ∧ W'.cell? ⟨g9, 2, none⟩ = some (.slice z.B z.m z.d) ∧ W'.cell? (ao.add p) = some (.int .i64 (i : Int)) ∧ W'.cell? (ad.add i) = some (.slice (some ra) n rca) ∧ W'.cell? (ao.add q) = some (.int .i64 (j : Int)) ∧ W'.cell? (ra.add (j * 3)) = some (.bool x.s) ∧ W'.cell? ⟨(ra.add (j * 3)).block, (ra.add (j * 3)).off + 1, none⟩ = some (.slice x.A x.n x.c) ∧ W'.cell? ⟨(ra.add (j * 3)).block, (ra.add (j * 3)).off + 2, none⟩ = some (.slice x.B x.m x.d))
                  (exact held HX)
                  (first
                    | (go_at_call 58; refine (qcmp_r H1 Fz Fx (by omega) (by omega)).mono ?_; rintro e wz ⟨rfl, hb⟩; replace HX := HX.ext hb; replace Fz := Fz.ext hb; replace Fx := Fx.ext hb; replace Fy := Fy.ext hb; clear hb))
                clear held
                all_goals (
                  clear Fx
                  by_cases hx2 : 0 < s2c
                  · have hd2 : decide (0 < s2c) = true := decide_eq_true hx2
                    go_upto_region 18 with fail
                    have held : ∀ {W' : World}, BL wr W' [(g9, #[.bool z.s, .slice z.A z.n z.c, .slice z.B z.m z.d], 33)] → W'.cell? ⟨g9, 0, none⟩ = some (.bool z.s) ∧ W'.cell? ⟨g9, 1, none⟩ = some (.slice z.A z.n z.c) ∧ W'.cell? ⟨g9, 2, none⟩ = some (.slice z.B z.m z.d) ∧ W'.cell? (ao.add q) = some (.int .i64 (j : Int)) ∧ W'.cell? (ad.add j) = some (.slice (some rb) n rcb) ∧ W'.cell? (ao.add r) = some (.int .i64 (k : Int)) ∧ W'.cell? (rb.add (k * 3)) = some (.bool y.s) ∧ W'.cell? ⟨(rb.add (k * 3)).block, (rb.add (k * 3)).off + 1, none⟩ = some (.slice y.A y.n y.c) ∧ W'.cell? ⟨(rb.add (k * 3)).block, (rb.add (k * 3)).off + 2, none⟩ = some (.slice y.B y.m y.d) := fun h => ⟨h.cell 0 0 rfl rfl, h.cell 0 1 rfl rfl, h.cell 0 2 rfl rfl, below_up h.below oq, below_up h.below rb0, below_up h.below or_, below_up h.below y0, below_up h.below y1, below_up h.below y2⟩
                    replace HX := HX.ext (drew_ext _)
                    replace Fz := Fz.ext (drew_ext _)
                    replace Fy := Fy.ext (drew_ext _)
                    go_region_held3 (fun W' => W'.cell? ⟨g9, 0, none⟩ = some (.bool z.s) ∧ W'.cell? ⟨g9, 1, none⟩ = some (.slice z.A z.n z.c) ∧ W'.cell? ⟨g9, 2, none⟩ = some (.slice z.B z.m z.d) ∧ W'.cell? (ao.add q) = some (.int .i64 (j : Int)) ∧ W'.cell? (ad.add j) = some (.slice (some rb) n rcb) ∧ W'.cell? (ao.add r) = some (.int .i64 (k : Int)) ∧ W'.cell? (rb.add (k * 3)) = some (.bool y.s) ∧ W'.cell? ⟨(rb.add (k * 3)).block, (rb.add (k * 3)).off + 1, none⟩ = some (.slice y.A y.n y.c) ∧ W'.cell? ⟨(rb.add (k * 3)).block, (rb.add (k * 3)).off + 2, none⟩ = some (.slice y.B y.m y.d))
                      (exact held HX)
                      (first
                        | (go_at_call 58; refine (qcmp_r H2 Fz Fy (by omega) (by omega)).mono ?_; rintro e wz ⟨rfl, hb⟩; replace HX := HX.ext hb; replace Fz := Fz.ext hb; replace Fy := Fy.ext hb; clear hb))
                    clear held
                    all_goals (
                      go_wp2
                      go_roundg (l.length - (r + 1))
                      case measure => omega
                      case rel => exact ⟨r + 1, by omega, by omega, by rw [HSU.out, if_neg (by omega), if_pos (by omega)]; try go_num, by go_num, bel_trans hbw HX.below⟩)
                  · have hd2 : decide (0 < s2c) = false := decide_eq_false hx2
                    go_upto_region 18 with fail
                    have held : ∀ {W' : World}, BL wr W' [(g9, #[.bool z.s, .slice z.A z.n z.c, .slice z.B z.m z.d], 33)] → W'.cell? ⟨g9, 0, none⟩ = some (.bool z.s) ∧ W'.cell? ⟨g9, 1, none⟩ = some (.slice z.A z.n z.c) ∧ W'.cell? ⟨g9, 2, none⟩ = some (.slice z.B z.m z.d) ∧ W'.cell? (ao.add q) = some (.int .i64 (j : Int)) ∧ W'.cell? (ad.add j) = some (.slice (some rb) n rcb) ∧ W'.cell? (ao.add r) = some (.int .i64 (k : Int)) ∧ W'.cell? (rb.add (k * 3)) = some (.bool y.s) ∧ W'.cell? ⟨(rb.add (k * 3)).block, (rb.add (k * 3)).off + 1, none⟩ = some (.slice y.A y.n y.c) ∧ W'.cell? ⟨(rb.add (k * 3)).block, (rb.add (k * 3)).off + 2, none⟩ = some (.slice y.B y.m y.d) := fun h => ⟨h.cell 0 0 rfl rfl, h.cell 0 1 rfl rfl, h.cell 0 2 rfl rfl, below_up h.below oq, below_up h.below rb0, below_up h.below or_, below_up h.below y0, below_up h.below y1, below_up h.below y2⟩
                    replace HX := HX.ext (drew_ext _)
                    replace Fz := Fz.ext (drew_ext _)
                    replace Fy := Fy.ext (drew_ext _)
                    go_region_held3 (fun W' => W'.cell? ⟨g9, 0, none⟩ = some (.bool z.s) ∧ W'.cell? ⟨g9, 1, none⟩ = some (.slice z.A z.n z.c) ∧ W'.cell? ⟨g9, 2, none⟩ = some (.slice z.B z.m z.d) ∧ W'.cell? (ao.add q) = some (.int .i64 (j : Int)) ∧ W'.cell? (ad.add j) = some (.slice (some rb) n rcb) ∧ W'.cell? (ao.add r) = some (.int .i64 (k : Int)) ∧ W'.cell? (rb.add (k * 3)) = some (.bool y.s) ∧ W'.cell? ⟨(rb.add (k * 3)).block, (rb.add (k * 3)).off + 1, none⟩ = some (.slice y.A y.n y.c) ∧ W'.cell? ⟨(rb.add (k * 3)).block, (rb.add (k * 3)).off + 2, none⟩ = some (.slice y.B y.m y.d))
                      (exact held HX)
                      (first
                        | (go_at_call 58; refine (qcmp_r H2 Fz Fy (by omega) (by omega)).mono ?_; rintro e wz ⟨rfl, hb⟩; replace HX := HX.ext hb; replace Fz := Fz.ext hb; replace Fy := Fy.ext hb; clear hb))
                    clear held
                    all_goals (
                      go_wp2
                      go_roundg (l.length - (r + 1))
                      case measure => omega
                      case rel => exact ⟨r + 1, by omega, by omega, by rw [HSU.out, if_neg (by omega), if_neg (by omega)]; try go_num, by go_num, bel_trans hbw HX.below⟩))
            · obtain rfl : r = l.length := by omega
              have hG3 := hG2.out p q (l.length - (q + 1)) (by omega)
              go_wp2
              go_roundg (l.length - (q + 1))
              case measure => omega
              case rel => exact ⟨q + 1, by omega, by omega, by rw [hsq.out]; try go_num, by go_num, hbw⟩
        · obtain rfl : q = l.length := by omega
          have hF3 := hF2.out p (l.length - (p + 1)) (by omega)
          go_wp2
          go_roundg (l.length - (p + 1))
          case measure => omega
          case rel => exact ⟨p + 1, by omega, by rw [hsp.out]; try go_num, by go_num, hbw⟩
    · obtain rfl : p = l.length := by omega
      have hE3 := hE2.out l.length (by omega)
      have hfin := hE.out
      go_wp2
      go_ret2
      exact ⟨by rw [hfin]; rfl, hbw⟩
set_option maxHeartbeats 2000000 in
set_option maxRecDepth 100000 in
theorem revents_any {n E : Int} (A Ao : Option Addr) (c co : Nat) (rs : List RR) (l : List Int) (w : World) (H : ML w A rs) (hl : rs.length ≤ 9223372036854775807) (Ho : IEs w Ao l) (hlo : l.length ≤ 1000000) (hev : Hid (EvIs rs l n E)) :
    Calls Tryz.prog 23 #[.slice A rs.length c, .slice Ao l.length co] w (RetII w n E) := by
  by_cases h1 : MxV rs
  · by_cases h2 : IsOrd l rs.length
    · obtain ⟨ev, hE⟩ : ∃ ev, Hid (evs (mq (qOf rs)) l = ev) := ⟨_, Lib.hid rfl⟩
      obtain ⟨rfl, rfl⟩ : n = (ev : Int) ∧ E = 0 := by
        rcases hev.out with ⟨h, _⟩ | ⟨_, h, _⟩ | ⟨_, _, h3, h4⟩
        · exact absurd h1 h
        · exact absurd h2 h
        · exact ⟨by rw [h3, hE.out], h4⟩
      exact revents_go A Ao c co rs l w H hl Ho (by have := h2.len; have := h1.1; omega) (Lib.hid h1) (Lib.hid h2) hE
    · have T1 := Lib.hid (yes h1)
      have T2 := Lib.hid (no h2)
      obtain ⟨rfl, rfl⟩ : n = 0 ∧ E = 2 := by
        rcases hev.out with ⟨h, _⟩ | ⟨_, _, h3, h4⟩ | ⟨_, h, _⟩
        · exact absurd h1 h
        · exact ⟨h3, h4⟩
        · exact absurd h h2
      clear h1 h2 hev
      go_enter Tryz.func23, Tryz.ntmps23
      go_wp2_with fail
      refine (rvalid_any (b := true) A c rs _ H hl T1).mono ?_
      rintro e w1 ⟨rfl, hb1⟩
      replace Ho := Ho.ext hb1
      go_wp2_with fail
      refine (order_any (b := false) Ao co l rs.length _ Ho hlo T2).mono ?_
      rintro e w2 ⟨rfl, hb2⟩
      go_wp2
      go_ret2
      exact ⟨rfl, bel_trans hb1 hb2⟩
  · have T1 := Lib.hid (no h1)
    obtain ⟨rfl, rfl⟩ : n = 0 ∧ E = 1 := by
      rcases hev.out with ⟨_, h3, h4⟩ | ⟨h, _⟩ | ⟨h, _⟩
      · exact ⟨h3, h4⟩
      · exact absurd h h1
      · exact absurd h h1
    clear h1 hev
    go_enter Tryz.func23, Tryz.ntmps23
    go_wp2_with fail
    refine (rvalid_any (b := false) A c rs _ H hl T1).mono ?_
    rintro e w1 ⟨rfl, hb1⟩
    go_wp2
    go_ret2
    exact ⟨rfl, hb1⟩
set_option maxHeartbeats 2000000 in
set_option maxRecDepth 100000 in
theorem rrob_any {n E : Int} (A Ao : Option Addr) (c co : Nat) (rs : List RR) (l : List Int) (w : World) (H : ML w A rs) (hl : rs.length ≤ 9223372036854775807) (Ho : IEs w Ao l) (hlo : l.length ≤ 1000000) (hev : Hid (EvIs rs l n E)) :
    Calls Tryz.prog 25 #[.slice A rs.length c, .slice Ao l.length co] w (RetB w (E == 0 && n == 0)) := by
  have hcase : (E == 0) = true ∨ (E == 0) = false := by cases (E == 0) <;> simp
  go_enter Tryz.func25, Tryz.ntmps25
  go_wp2_with fail
  refine (revents_any A Ao c co rs l _ H hl Ho hlo hev).mono ?_
  rintro e w1 ⟨rfl, hb1⟩
  rcases hcase with hc | hc
  · go_wp2
    go_ret
    exact ⟨by rw [hc]; rfl, hb1⟩
  · go_wp2
    go_ret
    exact ⟨by rw [hc]; rfl, hb1⟩
end Go.Proofs.YthempimelfmipaaGreatDoor

namespace Go.Proofs.YthempimelfmipaaGreatDoor
open Go.RowKit Go.Proofs Go

theorem good_pairs {hs : List HR} (hv : ∀ x ∈ hs, x.V) (h : ∀ (i k : Nat) (x y : HR), k < i → hs[i]? = some x → hs[k]? = some y → y.id ≠ x.id) : Good hs := by
  refine ⟨hv, ?_⟩
  rw [List.Nodup, List.pairwise_map, List.pairwise_iff_getElem]
  intro i j hi hj hij e
  exact h j i _ _ hij (List.getElem?_eq_getElem hj) (List.getElem?_eq_getElem hi) e
theorem Good.ne {hs : List HR} (h : Good hs) {i k : Nat} {x y : HR} (hk : k < i) (hx : hs[i]? = some x) (hy : hs[k]? = some y) : y.id ≠ x.id := by
  have h1 := h.2
  rw [List.Nodup, List.pairwise_map, List.pairwise_iff_getElem] at h1
  obtain ⟨h2, rfl⟩ := List.getElem?_eq_some_iff.1 hx
  obtain ⟨h3, rfl⟩ := List.getElem?_eq_some_iff.1 hy
  exact h1 k i h3 h2 hk
set_option maxHeartbeats 4000000 in
set_option maxRecDepth 100000 in
theorem xcheck_any {e0 : Int} (A : Option Addr) (c : Nat) (hs : List HR) (w : World) (H : HL w A hs) (hl : hs.length ≤ 9223372036854775807) (he : Hid (ChkIs hs e0)) :
    Calls Tryz.prog 71 #[.slice A hs.length c] w (RetI w e0) := by
  by_cases h8 : hs.length ≤ 8
  · have h8b : decide ((8 : Int) < (hs.length : Int)) = false := decide_eq_false (by omega)
    have hbad : ¬ Good hs → e0 = 1 := fun hg => by
      rcases he.out with ⟨h, _⟩ | ⟨_, h, _⟩ | ⟨_, _, h⟩
      · omega
      · exact absurd h hg
      · exact h
    have HBAD := Lib.hid hbad
    clear hbad
    go_enter Tryz.func71, Tryz.ntmps71
    go_wp2
    go_loopg [3] hs.length (fun g u wr => ∃ i : Nat, i + g = hs.length ∧ u = .int .i64 (i : Int) ∧ Hid (∀ (j : Nat) (x : HR), j < i → hs[j]? = some x → x.V) ∧ Hid (∀ (j k : Nat) (x y : HR), j < i → k < j → hs[j]? = some x → hs[k]? = some y → y.id ≠ x.id) ∧ Below w.heap.size w wr)
    case atStart => exact ⟨0, by omega, rfl, Lib.hid (fun j x h => by omega), Lib.hid (fun j k x y h => by omega), Below.refl _ _⟩
    case round =>
      obtain ⟨i, hi, rfl, hv1, hd1, hbw⟩ := hrel
      by_cases hi0 : i < hs.length
      · have hx := Lib.hid (List.getElem?_eq_getElem hi0)
        obtain ⟨ad, rfl, hbk, c0, c1, c2, c3, HE, hxl⟩ := (H.ext hbw).at_ hx.out
        generalize hs[i] = x at *
        by_cases hv : x.V
        · have YV := yes hv
          have hv2 := Lib.hid (show ∀ (j : Nat) (y : HR), j < i + 1 → hs[j]? = some y → y.V from fun j y hj hy => by
            by_cases hji : j < i
            · exact hv1.out j y hji hy
            · obtain rfl : j = i := by omega
              rw [hx.out] at hy
              obtain rfl := Option.some.inj hy
              exact hv)
          clear hv
          go_wp2_with fail
          refine (bhoard_any (b := true) x.A x.c x.l _ HE hxl YV).mono ?_
          rintro e w5 ⟨rfl, hb⟩
          replace hbw := bel_trans hbw hb
          clear hb c0 c1 c2 c3
          go_wp2
          go_loopg [4] i (fun g u wr => ∃ k : Nat, k + g = i ∧ u = .int .i64 (k : Int) ∧ Hid (∀ (j : Nat) (y : HR), j < k → hs[j]? = some y → y.id ≠ x.id) ∧ Below w.heap.size w wr)
          case atStart => exact ⟨0, by omega, rfl, Lib.hid (fun j y h => by omega), hbw⟩
          case round =>
            clear hbw
            obtain ⟨k, hk, rfl, hkk, hbw⟩ := hrel
            by_cases hk0 : k < i
            · have hkl : k < hs.length := by omega
              have hy := Lib.hid (List.getElem?_eq_getElem hkl)
              obtain ⟨ad2, hade, _, c0, _⟩ := (H.ext hbw).at_ hx.out
              obtain rfl := Option.some.inj hade
              obtain ⟨ad2, hade2, _, d0, _⟩ := (H.ext hbw).at_ hy.out
              obtain rfl := Option.some.inj hade2
              generalize hs[k] = y at *
              clear hade hade2
              by_cases hxy : y.id = x.id
              · obtain rfl : e0 = 1 := HBAD.out fun hg => hg.ne hk0 hx.out hy.out hxy
                have d3 : (y.id == x.id) = true := by rw [beq_iff_eq]; exact hxy
                clear hxy
                go_upto_region 11 with fail
                go_quiet (fail)
                go_wp2
                go_ret
                exact ⟨rfl, drew_below hbw _⟩
              · have d3 : (y.id == x.id) = false := by rw [beq_eq_false_iff_ne]; exact hxy
                have hk2 := Lib.hid (show ∀ (j : Nat) (z : HR), j < k + 1 → hs[j]? = some z → z.id ≠ x.id from fun j z hj hz => by
                  by_cases hjk : j < k
                  · exact hkk.out j z hjk hz
                  · obtain rfl : j = k := by omega
                    rw [hy.out] at hz
                    obtain rfl := Option.some.inj hz
                    exact hxy)
                clear hxy
                go_upto_region 11 with fail
                go_quiet (fail)
                go_wp2
                go_roundg (i - (k + 1))
                case measure => omega
                case rel => exact ⟨k + 1, by omega, by go_num, hk2, drew_below hbw _⟩
            · have hd2 := Lib.hid (show ∀ (j k : Nat) (x y : HR), j < i + 1 → k < j → hs[j]? = some x → hs[k]? = some y → y.id ≠ x.id from fun j m z y hj hm hz hy => by
                by_cases hji : j < i
                · exact hd1.out j m z y hji hm hz hy
                · obtain rfl : j = i := by omega
                  rw [hx.out] at hz
                  obtain rfl := Option.some.inj hz
                  exact hkk.out m y (by omega) hy)
              go_wp2
              go_roundg (hs.length - (i + 1))
              case measure => omega
              case rel => exact ⟨i + 1, by omega, by go_num, hv2, hd2, hbw⟩
        · have NV := no hv
          obtain rfl : e0 = 1 := HBAD.out fun hg => hv (hg.1 x (List.mem_of_getElem? hx.out))
          clear hv
          go_wp2_with fail
          refine (bhoard_any (b := false) x.A x.c x.l _ HE hxl NV).mono ?_
          rintro e w5 ⟨rfl, hb⟩
          go_wp2
          go_ret
          exact ⟨rfl, bel_trans hbw hb⟩
      · have hok := Lib.hid (good_pairs (hs := hs) (fun x hx => by
          obtain ⟨j, hj⟩ := List.getElem?_of_mem hx
          exact hv1.out j x (by have := (List.getElem?_eq_some_iff.1 hj).1; omega) hj) fun j k x y hk hx hy => hd1.out j k x y (by have := (List.getElem?_eq_some_iff.1 hx).1; omega) hk hx hy)
        obtain rfl : e0 = 0 := by
          rcases he.out with ⟨h, _⟩ | ⟨_, _, h⟩ | ⟨_, h, _⟩
          · omega
          · exact h
          · exact absurd hok.out h
        go_wp2
        go_ret
        exact ⟨rfl, hbw⟩
  · have h8b : decide ((8 : Int) < (hs.length : Int)) = true := decide_eq_true (by omega)
    obtain rfl : e0 = 6 := by
      rcases he.out with ⟨_, h⟩ | ⟨h, _⟩ | ⟨h, _⟩
      · exact h
      · exact absurd h h8
      · exact absurd h h8
    go_enter Tryz.func71, Tryz.ntmps71
    go_wp2
    go_ret
    exact ⟨rfl, Below.refl _ _⟩
set_option maxHeartbeats 1000000 in
set_option maxRecDepth 100000 in
theorem xmatrix_err {E : Int} (A : Option Addr) (c : Nat) (hs : List HR) (w : World) (H : HL w A hs) (hl : hs.length ≤ 9223372036854775807) (hE : Hid (ChkIs hs E)) (hn : (E != 0) = true) :
    Calls Tryz.prog 31 #[.slice A hs.length c] w (RetMxE w E) := by
  go_enter Tryz.func31, Tryz.ntmps31
  go_wp2_with fail
  refine (xcheck_any A c hs _ H hl hE).mono ?_
  rintro e w1 ⟨rfl, hb⟩
  go_wp2
  go_ret2
  exact ⟨rfl, hb⟩
set_option maxHeartbeats 8000000 in
set_option maxRecDepth 100000 in
theorem xmatrix_ok {qss : List (List Rat)} (A : Option Addr) (c : Nat) (hs : List HR) (w : World) (H : HL w A hs) (hE : Hid (ChkIs hs 0)) (hq : Hid (matQ hs = qss)) :
    Calls Tryz.prog 31 #[.slice A hs.length c] w (RetMx w hs.length qss) := by
  have h8 := hE.out.ok.1
  have hG := Lib.hid hE.out.ok.2
  have hl : hs.length ≤ 9223372036854775807 := by omega
  go_enter Tryz.func31, Tryz.ntmps31
  go_wp2_with fail
  refine (xcheck_any A c hs _ H hl hE).mono ?_
  rintro e w1 ⟨rfl, hb1⟩
  replace H := H.ext hb1
  have HO := ORow.nil w1 w1.heap.size
  have HR0 := RowsOK.nil w1
  go_wp2
  go_loopg [5, 6] hs.length (fun g u i wr => ∃ (j : Nat) (A5 : Option Addr) (c5 : Nat) (rs : List RR), j + g = hs.length ∧ u = .slice A5 j c5 ∧ i = .int .i64 (j : Int) ∧ ORow wr w1.heap.size A5 c5 rs ∧ RowsOK wr rs ∧ Hid (rs.length = j) ∧ Hid (qOf rs = (matQ hs).take j) ∧ Hid (∀ (i : Nat) (r : RR), rs[i]? = some r → r.fs.length = hs.length) ∧ Below w1.heap.size w1 wr)
  case atStart => exact ⟨0, none, 0, [], by omega, rfl, rfl, HO, HR0, Lib.hid rfl, Lib.hid rfl, Lib.hid (fun i r h => by simp at h), Below.refl _ _⟩
  case round =>
    clear HO HR0
    obtain ⟨j, A5, c5, rs, hj, rfl, rfl, HO, HRs, hrl, hrq, hrn, hbw⟩ := hrel
    by_cases hj0 : j < hs.length
    · have HLr := H.ext hbw
      have hx := Lib.hid (List.getElem?_eq_getElem hj0)
      obtain ⟨ad, rfl, hbk, c0, c1, c2, c3, HEx, hxl⟩ := HLr.at_ hx.out
      have VX := Lib.hid (hG.out.1 _ (List.mem_of_getElem? hx.out))
      have hmt := Lib.hid (matQ_take hx.out)
      generalize hs[j] = x at *
      obtain ⟨V7, hV7⟩ : ∃ V, wr = V := ⟨_, rfl⟩
      rw [hV7] at HO HRs HLr HEx hbw c0 c1 c2 c3 ⊢
      clear hV7 hbk
      have HX := BL.nil V7
      have c00 := c0
      have c10 := c1
      have c20 := c2
      have c30 := c3
      clear c0 c1 c2 c3
      obtain ⟨B8, hB8⟩ : ∃ B, V7.heap.size = B := ⟨_, rfl⟩
      have HF := FRow.nil V7 B8
      have HK := FK.nil 2 V7
      go_wp2
      go_loopg [7, 8] hs.length (fun g u i wr => ∃ (m : Nat) (A8 : Option Addr) (c8 : Nat) (fs : List FE), m + g = hs.length ∧ u = .slice A8 m c8 ∧ i = .int .i64 (m : Int) ∧ FRow wr B8 A8 c8 fs ∧ FK 2 wr fs (rowQ x (hs.take m)) ∧ BL V7 wr [])
      case atStart => exact ⟨0, none, 0, [], by omega, rfl, rfl, HF, HK, HX⟩
      case round =>
        clear HF HK HX
        obtain ⟨m, A8, c8, fs, hm, rfl, rfl, HF, HK, HX⟩ := hrel
        have hfl := Lib.hid (show fs.length = m by have := HK.len; rw [this, rowQ, List.length_map, List.length_take]; omega)
        by_cases hm0 : m < hs.length
        · have hbv := HX.below
          have hy := Lib.hid (List.getElem?_eq_getElem hm0)
          obtain ⟨ad2, hade, hbk, c0, c1, c2, c3, HEy, hyl⟩ := (HLr.ext hbv).at_ hy.out
          obtain rfl := Option.some.inj hade
          have VY := Lib.hid (hG.out.1 _ (List.mem_of_getElem? hy.out))
          have hrt := Lib.hid (rowQ_take (a := x) hy.out)
          generalize hs[m] = y at *
          obtain ⟨u, hu⟩ : ∃ u, Hid (coD x.l y.l 99 = u) := ⟨_, Lib.hid rfl⟩
          rw [hu.out] at hrt
          have HEx2 := HEx.ext hbv
          have p0 := below_up hbv c00
          have p1 := below_up hbv c10
          have p2 := below_up hbv c20
          have p3 := below_up hbv c30
          go_upto_region 12 with fail
          go_cut [9] (fun x wx => ∃ (g : Nat) (A : Option Addr) (c : Nat) (B : Option Addr) (d : Nat), x = .pointer (some ⟨g, 0, none⟩) ∧ wr.heap.size ≤ g ∧ Below wr.heap.size wr wx ∧ CB wx g (.bool (sg u)) (.slice A (dig (nu u)).length c) (.slice B (dig u.den).length d) ∧ Fc wx A c B d u 2)
          case first =>
            have HB0 : Below wr.heap.size wr wr.drew := drew_ext wr
            have held : ∀ {W' : World}, Below wr.heap.size wr W' → W'.cell? (ad.add (j * 4)) = some (.int .i64 x.id) ∧ W'.cell? ⟨(ad.add (j * 4)).block, (ad.add (j * 4)).off + 1, none⟩ = some (.slice x.A x.l.length x.c) ∧ W'.cell? ⟨(ad.add (j * 4)).block, (ad.add (j * 4)).off + 2, none⟩ = some (.int .i64 x.f) ∧ W'.cell? ⟨(ad.add (j * 4)).block, (ad.add (j * 4)).off + 3, none⟩ = some (.int .i64 x.t) ∧ W'.cell? (ad.add (m * 4)) = some (.int .i64 y.id) ∧ W'.cell? ⟨(ad.add (m * 4)).block, (ad.add (m * 4)).off + 1, none⟩ = some (.slice y.A y.l.length y.c) ∧ W'.cell? ⟨(ad.add (m * 4)).block, (ad.add (m * 4)).off + 2, none⟩ = some (.int .i64 y.f) ∧ W'.cell? ⟨(ad.add (m * 4)).block, (ad.add (m * 4)).off + 3, none⟩ = some (.int .i64 y.t) := fun hb => ⟨below_up hb p0, below_up hb p1, below_up hb p2, below_up hb p3, below_up hb c0, below_up hb c1, below_up hb c2, below_up hb c3⟩
            go_region_held3 (fun W' => W'.cell? (ad.add (j * 4)) = some (.int .i64 x.id) ∧ W'.cell? ⟨(ad.add (j * 4)).block, (ad.add (j * 4)).off + 1, none⟩ = some (.slice x.A x.l.length x.c) ∧ W'.cell? ⟨(ad.add (j * 4)).block, (ad.add (j * 4)).off + 2, none⟩ = some (.int .i64 x.f) ∧ W'.cell? ⟨(ad.add (j * 4)).block, (ad.add (j * 4)).off + 3, none⟩ = some (.int .i64 x.t) ∧ W'.cell? (ad.add (m * 4)) = some (.int .i64 y.id) ∧ W'.cell? ⟨(ad.add (m * 4)).block, (ad.add (m * 4)).off + 1, none⟩ = some (.slice y.A y.l.length y.c) ∧ W'.cell? ⟨(ad.add (m * 4)).block, (ad.add (m * 4)).off + 2, none⟩ = some (.int .i64 y.f) ∧ W'.cell? ⟨(ad.add (m * 4)).block, (ad.add (m * 4)).off + 3, none⟩ = some (.int .i64 y.t))
              ((refine held ?_; repeat' first | exact HB1 | exact HB0 | exact Below.refl _ _ | refine bel_al ?_ _ | refine bel_dr ?_ | refine bel_set ?_ ?_ _ | omega | (simp <;> omega)))
              (first
          | (go_at_call 28; refine (rcoef_any x.A y.A x.c y.c x.l y.l _ (HEx2.ext (by repeat' first | exact HB0 | exact Below.refl _ _ | refine bel_al ?_ _ | refine bel_dr ?_)) (HEy.ext (by repeat' first | exact HB0 | exact Below.refl _ _ | refine bel_al ?_ _ | refine bel_dr ?_)) hxl hyl VX.out VY.out hu).mono ?_; rintro e w1 ⟨A9, c9, B9, d9, rfl, F9, hb1⟩; have HB1 := bel_trans (a := wr) (by repeat' first | exact HB0 | exact Below.refl _ _ | refine bel_al ?_ _ | refine bel_dr ?_) hb1; have HC1 := bel_trans (a := wr) (by repeat' first | exact HB0 | exact Below.refl _ _ | refine bel_al ?_ _ | refine bel_dr ?_) hb1; have hs1 := HB1.size; have ht1 := HC1.size; (try have f100c : w1.cell? ⟨wr.heap.size, 0, none⟩ = some (.bool false) := by rw [hb1.cell (by first | omega | (simp <;> omega))]; simp [*]); (try have f100f : w1.frozen? ⟨wr.heap.size, 0, none⟩ = false := by rw [hb1.frozen (by first | omega | (simp <;> omega))]; simp [*]); (try have f100c1 : w1.cell? ⟨wr.heap.size, 1, none⟩ = some (.slice none 0 0) := by rw [hb1.cell (by first | omega | (simp <;> omega))]; simp [*]); (try have f100f1 : w1.frozen? ⟨wr.heap.size, 1, none⟩ = false := by rw [hb1.frozen (by first | omega | (simp <;> omega))]; simp [*]); (try have f100c2 : w1.cell? ⟨wr.heap.size, 2, none⟩ = some (.slice none 0 0) := by rw [hb1.cell (by first | omega | (simp <;> omega))]; simp [*]); (try have f100f2 : w1.frozen? ⟨wr.heap.size, 2, none⟩ = false := by rw [hb1.frozen (by first | omega | (simp <;> omega))]; simp [*]); (try have f100d : ∀ o, (w1.alloc o).cell? ⟨wr.heap.size, 0, none⟩ = some (.bool false) := fun o => by rw [(below_alloc w1 o).cell (cell_lt f100c)]; exact f100c); (try have f100g : ∀ o, (w1.alloc o).frozen? ⟨wr.heap.size, 0, none⟩ = false := fun o => by rw [(below_alloc w1 o).frozen (cell_lt f100c)]; exact f100f); (try have f100d1 : ∀ o, (w1.alloc o).cell? ⟨wr.heap.size, 1, none⟩ = some (.slice none 0 0) := fun o => by rw [(below_alloc w1 o).cell (cell_lt f100c1)]; exact f100c1); (try have f100g1 : ∀ o, (w1.alloc o).frozen? ⟨wr.heap.size, 1, none⟩ = false := fun o => by rw [(below_alloc w1 o).frozen (cell_lt f100c1)]; exact f100f1); (try have f100d2 : ∀ o, (w1.alloc o).cell? ⟨wr.heap.size, 2, none⟩ = some (.slice none 0 0) := fun o => by rw [(below_alloc w1 o).cell (cell_lt f100c2)]; exact f100c2); (try have f100g2 : ∀ o, (w1.alloc o).frozen? ⟨wr.heap.size, 2, none⟩ = false := fun o => by rw [(below_alloc w1 o).frozen (cell_lt f100c2)]; exact f100f2); (try have f100x : wr.heap.size < w1.heap.size := cell_lt f100c); (try have f1001 : wr.heap.size ≠ w1.heap.size := Nat.ne_of_lt (cell_lt f100c)); (try have f1002 : w1.heap.size ≠ wr.heap.size := Nat.ne_of_gt (cell_lt f100c))))
            all_goals (
              go_wp2_with fail
              go_meet
              case rel =>
                clear held
                first
                  | (refine ⟨_, A9, c9, B9, d9, rfl, by first | omega | (simp <;> omega), ?_, ⟨al_at rfl _ rfl, al_at rfl _ rfl, al_at rfl _ rfl⟩, F9.ext (below_alloc _ _)⟩
                     repeat' first | with_reducible exact HB1 | with_reducible refine bel_al ?_ _ | with_reducible refine bel_set ?_ ?_ _ | omega | (simp <;> omega))
                  | (refine ⟨_, A9, c9, B9, d9, rfl, by first | omega | (simp <;> omega), ?_, fin3s ?_ ?_ ?_ ?_ F9 _ _ _⟩
                     · repeat' first | with_reducible exact HB1 | with_reducible refine bel_al ?_ _ | with_reducible refine bel_set ?_ ?_ _ | omega | (simp <;> omega)
                     · first | exact Keep.refl _ | exact (Keep.refl _).alloc _
                     · first | assumption | exact al_at rfl _ rfl | (simp; done) | (apply_assumption)
                     · first | assumption | exact al_at rfl _ rfl | (simp; done) | (apply_assumption)
                     · first | assumption | exact al_at rfl _ rfl | (simp; done) | (apply_assumption)))
          case rest =>
          obtain ⟨g9, A9, c9, B9, d9, rfl, hge, hb, hcb9, F9⟩ := hcut
          have hcc0 := hcb9.c0
          have hcc1 := hcb9.c1
          have hcc2 := hcb9.c2
          replace HX := HX.ext hb
          replace HF := HF.ext hb
          replace HK := HK.ext hb
          clear hb hge HEx2 HEy p0 p1 p2 p3 c0 c1 c2 c3 hbk hade hbv
          have hsz9 := HX.below.size
          go_wp2_with (at_builtin; refine wp_fpush _ rfl _ _ rfl (⟨sg u, A9, (dig (nu u)).length, c9, B9, (dig u.den).length, d9⟩ : FE) rfl hfl.out.symm rfl HF (by rw [hfl.out]; omega) (by omega) ?_)
          intro A11 c11 u11 HF2 hb11 hk11 _
          have hQ2 := (HK.snoc (y := (⟨sg u, A9, (dig (nu u)).length, c9, B9, (dig u.den).length, d9⟩ : FE)) F9.fr).stay hk11
          rw [← hrt.out] at hQ2
          have HX2 : BL V7 u11 [] := ⟨HX.below.trans (by rw [hB8]; exact hb11), fun i p hp => by simp at hp⟩
          clear hb11 hk11 HX HF HK hcc0 hcc1 hcc2 hcb9
          go_wp2
          go_roundg (hs.length - (m + 1))
          case measure => omega
          case rel => exact ⟨m + 1, A11, c11, _, by omega, by go_num, by go_num, HF2, hQ2, HX2⟩
        · obtain rfl : m = hs.length := by omega
          have hbv := HX.below
          rw [List.take_length] at HK
          replace HO := HO.ext hbv
          replace HRs := HRs.ext hbv
          replace hbw := bel_trans hbw hbv
          clear HX
          have hszw := hbw.size
          go_wp2_with (at_builtin; refine wp_rpush _ rfl _ _ rfl (⟨A8, c8, fs, rowQ x hs⟩ : RR) (by show Value.slice A8 fs.length c8 = _; rw [hfl.out]) rfl hrl.out.symm rfl HO (by rw [hrl.out]; omega) (by omega) ?_)
          intro A9 c9 w9 HO2 hgr hb9 hk9
          have HR2 := (HRs.snoc (r := (⟨A8, c8, fs, rowQ x hs⟩ : RR)) HF HK (by show fs.length ≤ _; rw [hfl.out]; omega)).kept HO hgr hk9
          have hb10 : Below w1.heap.size w1 w9 := hbw.trans hb9
          have hrl2 := Lib.hid (show (rs ++ [(⟨A8, c8, fs, rowQ x hs⟩ : RR)]).length = j + 1 by rw [List.length_append, hrl.out]; rfl)
          have hrq2 := Lib.hid (show qOf (rs ++ [(⟨A8, c8, fs, rowQ x hs⟩ : RR)]) = (matQ hs).take (j + 1) by rw [qOf_snoc, hrq.out, hmt.out])
          have hrn2 := Lib.hid (show ∀ (i : Nat) (r : RR), (rs ++ [(⟨A8, c8, fs, rowQ x hs⟩ : RR)])[i]? = some r → r.fs.length = hs.length from fun i r hr => by
            rcases Nat.lt_or_ge i rs.length with hi | hi
            · rw [List.getElem?_append_left hi] at hr
              exact hrn.out i r hr
            · rw [List.getElem?_append_right hi] at hr
              have hi0 : i - rs.length = 0 := by
                have := (List.getElem?_eq_some_iff.1 hr).1
                simp at this; omega
              rw [hi0] at hr
              simp at hr
              subst hr
              exact hfl.out)
          clear hgr hb9 hk9 HO HRs HF HK
          go_wp2
          go_roundg (hs.length - (j + 1))
          case measure => omega
          case rel => exact ⟨j + 1, A9, c9, _, by omega, by go_num, by go_num, HO2, HR2, hrl2, hrq2, hrn2, hb10⟩
    · obtain rfl : j = hs.length := by omega
      have hfin := Lib.hid (show qOf rs = qss by rw [hrq.out, ← hq.out]; exact List.take_of_length_le (by rw [matQ, List.length_map]; omega))
      go_wp2
      go_ret2
      exact ⟨A5, c5, rs, rfl, Sqr.of hrl.out hrn.out rfl, hfin.out, ⟨HO.row, HRs.mfs⟩, bel_trans hb1 hbw⟩
end Go.Proofs.YthempimelfmipaaGreatDoor

namespace Go.Proofs.YthempimelfmipaaGreatDoor
open Go.RowKit Go.Proofs Go

set_option maxHeartbeats 1000000 in
set_option maxRecDepth 100000 in
theorem xnear_err {E i : Int} (A : Option Addr) (c : Nat) (hs : List HR) (w : World) (H : HL w A hs) (hl : hs.length ≤ 9223372036854775807) (hE : Hid (ChkIs hs E)) (hn : (E != 0) = true) :
    Calls Tryz.prog 33 #[.slice A hs.length c, .int .i64 i] w (RetII w 0 E) := by
  go_enter Tryz.func33, Tryz.ntmps33
  go_wp2_with fail
  refine (xmatrix_err A c hs _ H hl hE hn).mono ?_
  rintro e w1 ⟨rfl, hb⟩
  go_wp2
  go_ret2
  exact ⟨rfl, hb⟩
set_option maxHeartbeats 1000000 in
set_option maxRecDepth 100000 in
theorem xnear_out {i : Int} (A : Option Addr) (c : Nat) (hs : List HR) (w : World) (H : HL w A hs) (hE : Hid (ChkIs hs 0)) (hi : ¬ (0 ≤ i ∧ i < hs.length)) :
    Calls Tryz.prog 33 #[.slice A hs.length c, .int .i64 i] w (RetII w 0 2) := by
  have YR := no (show ¬ Rng i 0 ((hs.length : Int) - 1) from fun h => hi ⟨h.1, by have := h.2; omega⟩)
  have h8 := hE.out.ok.1
  go_enter Tryz.func33, Tryz.ntmps33
  go_wp2_with fail
  refine (xmatrix_ok A c hs _ H hE (Lib.hid rfl)).mono ?_
  rintro e w1 ⟨A1, c1, rs, rfl, _, _, _, hb⟩
  go_wp2_with fail
  refine (bin_any (b := false) _ YR).mono ?_
  rintro e w4 ⟨rfl, hw4⟩
  have hw5 := hw4.symm
  subst hw5
  clear hw4
  go_wp2
  go_ret2
  exact ⟨rfl, hb⟩
set_option maxHeartbeats 8000000 in
set_option maxRecDepth 100000 in
theorem xnear_go {i : Nat} {r0 : Option Nat} (A : Option Addr) (c : Nat) (hs : List HR) (w : World) (H : HL w A hs) (hE : Hid (ChkIs hs 0)) (hi : i < hs.length) (hb0 : Hid (nearTo (fun j => mq (matQ hs) (i : Int) (j : Int)) i hs.length = r0)) :
    Calls Tryz.prog 33 #[.slice A hs.length c, .int .i64 (i : Int)] w (RetII w (match r0 with | none => 0 | some b => (b : Int)) (match r0 with | none => 7 | some _ => 0)) := by
  have h8 := hE.out.ok.1
  obtain ⟨f, hf⟩ : ∃ f, Hid ((fun j : Nat => mq (matQ hs) (i : Int) (j : Int)) = f) := ⟨_, Lib.hid rfl⟩
  rw [hf.out] at hb0
  have YR := yes (show Rng (i : Int) 0 ((hs.length : Int) - 1) from ⟨by omega, by omega⟩)
  go_enter Tryz.func33, Tryz.ntmps33
  go_wp2_with fail
  refine (xmatrix_ok A c hs _ H hE (Lib.hid rfl)).mono ?_
  rintro e w1 ⟨A1, c1, rs, rfl, hs1, hq, HM, hb⟩
  have HS := Lib.hid hs1
  have hfq := Lib.hid (show ∀ j : Nat, mq (qOf rs) (i : Int) (j : Int) = f j from fun j => by rw [hq, ← hf.out])
  clear hs1 hq H
  obtain ⟨ad, ra, rca, fa, qa, hA1, hb1, hb2, ra0, na, FSa, FKa, ea⟩ := HM.rowN HS.out hi
  subst hA1
  have RA0 := ra0
  go_wp2_with fail
  refine (bin_any (b := true) _ YR).mono ?_
  rintro e w4 ⟨rfl, hw4⟩
  have hw5 := hw4.symm
  subst hw5
  clear hw4
  clear YR
  go_wp2
  go_loopg [8, 9] hs.length (fun g u v wr => ∃ m : Nat, m + g = hs.length ∧ u = .int .i64 (bI (nearTo f i m)) ∧ v = .int .i64 (m : Int) ∧ Below w1.heap.size w1 wr)
  case atStart => exact ⟨0, by omega, rfl, rfl, Below.refl _ _⟩
  case round =>
    obtain ⟨m, hm, rfl, rfl, hbw⟩ := hrel
    by_cases hm0 : m < hs.length
    · obtain ⟨x, x0, x1, x2, Fx⟩ := elN (FSa.ext hbw) (FKa.ext hbw) na hm0
      rw [ea m, hfq.out] at Fx
      have ra0 := below_up hbw RA0
      have HX := BL.nil wr
      by_cases hmi : m = i
      · have hn := Lib.hid (show nearTo f i (m + 1) = nearTo f i m by rw [nearTo, if_pos hmi])
        have hmb : ((m : Int) != (i : Int)) = false := by rw [bne_eq_false_iff_eq]; omega
        have hmb2 : (m != i) = false := by rw [bne_eq_false_iff_eq]; exact hmi
        clear hmi
        obtain ⟨bv, hbv⟩ : ∃ b, bI (nearTo f i m) = b := ⟨_, rfl⟩
        have hn2 := Lib.hid (show bI (nearTo f i (m + 1)) = bv by rw [hn.out, hbv])
        rw [hbv]
        clear hn hbv
        go_upto_region 10 with fail
        go_quiet (fail)
        have HXq := HX.ext (drew_below (Below.refl _ _) nq)
        go_wp2
        go_roundg (hs.length - (m + 1))
        case measure => omega
        case rel => exact ⟨m + 1, by omega, by rw [hn2.out], by go_num, bel_trans hbw HXq.below⟩
      · have hmb : ((m : Int) != (i : Int)) = true := by rw [bne_iff_ne]; omega
        have hmb2 : (m != i) = true := bne_iff_ne.2 hmi
        cases hnr : nearTo f i m with
        | none =>
          have hn2 := Lib.hid (show bI (nearTo f i (m + 1)) = (m : Int) by rw [nearTo, if_neg hmi, hnr]; rfl)
          rw [show bI none = -1 from rfl]
          clear hnr hmi
          go_upto_region 10 with fail
          go_quiet (fail)
          have HXq := HX.ext (drew_below (Below.refl _ _) nq)
          go_wp2
          go_roundg (hs.length - (m + 1))
          case measure => omega
          case rel => exact ⟨m + 1, by omega, by rw [hn2.out], by go_num, bel_trans hbw HXq.below⟩
        | some b =>
          obtain ⟨hbm, _⟩ := near_lt hnr
          have hbn : b < hs.length := by omega
          have hb0n : (0 : Int) ≤ (b : Int) := by omega
          obtain ⟨y, y0, y1, y2, Fy⟩ := elN (FSa.ext hbw) (FKa.ext hbw) na hbn
          rw [ea b, hfq.out] at Fy
          obtain ⟨s, H1⟩ : ∃ s, Hid (cmpQ (f m) (f b) = s) := ⟨_, Lib.hid rfl⟩
          have hdb : decide ((b : Int) < 0) = false := decide_eq_false (by omega)
          rw [show bI (some b) = (b : Int) from rfl]
          by_cases hs0 : 0 < s
          · have hsd : decide (0 < s) = true := decide_eq_true hs0
            have hn2 := Lib.hid (show bI (nearTo f i (m + 1)) = (m : Int) by
              rw [nearTo, if_neg hmi, hnr]
              show bI (if f b < f m then some m else some b) = _
              rw [if_pos (cmpQ_pos.1 (by rw [H1.out]; exact hs0))]; rfl)
            clear hnr hmi
            go_upto_region 10 with fail
            have held : ∀ {W' : World}, BL wr W' [] → W'.cell? (ad.add i) = some (.slice (some ra) hs.length rca) ∧ W'.cell? (ra.add (m * 3)) = some (.bool x.s) ∧ W'.cell? ⟨(ra.add (m * 3)).block, (ra.add (m * 3)).off + 1, none⟩ = some (.slice x.A x.n x.c) ∧ W'.cell? ⟨(ra.add (m * 3)).block, (ra.add (m * 3)).off + 2, none⟩ = some (.slice x.B x.m x.d) ∧ W'.cell? (ra.add (b * 3)) = some (.bool y.s) ∧ W'.cell? ⟨(ra.add (b * 3)).block, (ra.add (b * 3)).off + 1, none⟩ = some (.slice y.A y.n y.c) ∧ W'.cell? ⟨(ra.add (b * 3)).block, (ra.add (b * 3)).off + 2, none⟩ = some (.slice y.B y.m y.d) := fun h => ⟨below_up h.below ra0, below_up h.below x0, below_up h.below x1, below_up h.below x2, below_up h.below y0, below_up h.below y1, below_up h.below y2⟩
            replace HX := HX.ext (drew_ext _)
            replace Fx := Fx.ext (drew_ext _)
            replace Fy := Fy.ext (drew_ext _)
            go_region_held3 (fun W' => W'.cell? (ad.add i) = some (.slice (some ra) hs.length rca) ∧ W'.cell? (ra.add (m * 3)) = some (.bool x.s) ∧ W'.cell? ⟨(ra.add (m * 3)).block, (ra.add (m * 3)).off + 1, none⟩ = some (.slice x.A x.n x.c) ∧ W'.cell? ⟨(ra.add (m * 3)).block, (ra.add (m * 3)).off + 2, none⟩ = some (.slice x.B x.m x.d) ∧ W'.cell? (ra.add (b * 3)) = some (.bool y.s) ∧ W'.cell? ⟨(ra.add (b * 3)).block, (ra.add (b * 3)).off + 1, none⟩ = some (.slice y.A y.n y.c) ∧ W'.cell? ⟨(ra.add (b * 3)).block, (ra.add (b * 3)).off + 2, none⟩ = some (.slice y.B y.m y.d))
              (exact held HX)
              (first
                | (go_at_call 58; refine (qcmp_r H1 Fx Fy (by omega) (by omega)).mono ?_; rintro e wz ⟨rfl, hb⟩; replace HX := HX.ext hb; replace Fx := Fx.ext hb; replace Fy := Fy.ext hb; clear hb))
            clear held
            all_goals (
              go_wp2
              go_roundg (hs.length - (m + 1))
              case measure => omega
              case rel => exact ⟨m + 1, by omega, by rw [hn2.out], by go_num, bel_trans hbw HX.below⟩)
          · have hsd : decide (0 < s) = false := decide_eq_false hs0
            have hn2 := Lib.hid (show bI (nearTo f i (m + 1)) = (b : Int) by
              rw [nearTo, if_neg hmi, hnr]
              show bI (if f b < f m then some m else some b) = _
              rw [if_neg fun h => hs0 (by rw [← H1.out]; exact cmpQ_pos.2 h)]; rfl)
            clear hnr hmi
            go_upto_region 10 with fail
            have held : ∀ {W' : World}, BL wr W' [] → W'.cell? (ad.add i) = some (.slice (some ra) hs.length rca) ∧ W'.cell? (ra.add (m * 3)) = some (.bool x.s) ∧ W'.cell? ⟨(ra.add (m * 3)).block, (ra.add (m * 3)).off + 1, none⟩ = some (.slice x.A x.n x.c) ∧ W'.cell? ⟨(ra.add (m * 3)).block, (ra.add (m * 3)).off + 2, none⟩ = some (.slice x.B x.m x.d) ∧ W'.cell? (ra.add (b * 3)) = some (.bool y.s) ∧ W'.cell? ⟨(ra.add (b * 3)).block, (ra.add (b * 3)).off + 1, none⟩ = some (.slice y.A y.n y.c) ∧ W'.cell? ⟨(ra.add (b * 3)).block, (ra.add (b * 3)).off + 2, none⟩ = some (.slice y.B y.m y.d) := fun h => ⟨below_up h.below ra0, below_up h.below x0, below_up h.below x1, below_up h.below x2, below_up h.below y0, below_up h.below y1, below_up h.below y2⟩
            replace HX := HX.ext (drew_ext _)
            replace Fx := Fx.ext (drew_ext _)
            replace Fy := Fy.ext (drew_ext _)
            go_region_held3 (fun W' => W'.cell? (ad.add i) = some (.slice (some ra) hs.length rca) ∧ W'.cell? (ra.add (m * 3)) = some (.bool x.s) ∧ W'.cell? ⟨(ra.add (m * 3)).block, (ra.add (m * 3)).off + 1, none⟩ = some (.slice x.A x.n x.c) ∧ W'.cell? ⟨(ra.add (m * 3)).block, (ra.add (m * 3)).off + 2, none⟩ = some (.slice x.B x.m x.d) ∧ W'.cell? (ra.add (b * 3)) = some (.bool y.s) ∧ W'.cell? ⟨(ra.add (b * 3)).block, (ra.add (b * 3)).off + 1, none⟩ = some (.slice y.A y.n y.c) ∧ W'.cell? ⟨(ra.add (b * 3)).block, (ra.add (b * 3)).off + 2, none⟩ = some (.slice y.B y.m y.d))
              (exact held HX)
              (first
                | (go_at_call 58; refine (qcmp_r H1 Fx Fy (by omega) (by omega)).mono ?_; rintro e wz ⟨rfl, hb⟩; replace HX := HX.ext hb; replace Fx := Fx.ext hb; replace Fy := Fy.ext hb; clear hb))
            clear held
            all_goals (
              go_wp2
              go_roundg (hs.length - (m + 1))
              case measure => omega
              case rel => exact ⟨m + 1, by omega, by rw [hn2.out], by go_num, bel_trans hbw HX.below⟩)
    · obtain rfl : m = hs.length := by omega
      cases r0 with
      | none =>
        have hfin := Lib.hid (show bI (nearTo f i hs.length) = -1 by rw [hb0.out]; rfl)
        rw [hfin.out]
        go_wp2
        go_ret2
        exact ⟨rfl, bel_trans hb hbw⟩
      | some b0 =>
        have hfin := Lib.hid (show bI (nearTo f i hs.length) = (b0 : Int) by rw [hb0.out]; rfl)
        have hdb : decide ((b0 : Int) < 0) = false := decide_eq_false (by omega)
        rw [hfin.out]
        go_wp2
        go_ret2
        exact ⟨rfl, bel_trans hb hbw⟩
theorem xnear_any {i k E : Int} (A : Option Addr) (c : Nat) (hs : List HR) (w : World) (H : HL w A hs) (hl : hs.length ≤ 9223372036854775807) (h : Hid (NearIs hs i k E)) :
    Calls Tryz.prog 33 #[.slice A hs.length c, .int .i64 i] w (RetII w k E) := by
  obtain ⟨e, he, h⟩ := h.out
  rcases h with ⟨h0, rfl, rfl⟩ | ⟨rfl, hi, rfl, rfl⟩ | ⟨rfl, hi, h1, rfl, rfl⟩ | ⟨rfl, hi, h1, ⟨b, hb, rfl⟩, rfl⟩
  · exact xnear_err A c hs w H hl (Lib.hid he) (bne_iff_ne.2 h0)
  · exact xnear_out A c hs w H (Lib.hid he) hi
  · obtain ⟨i, rfl⟩ := Int.eq_ofNat_of_zero_le hi.1
    have hi0 : i = 0 := by omega
    exact xnear_go (r0 := none) A c hs w H (Lib.hid he) (by omega) (Lib.hid (by subst hi0; rw [h1]; rfl))
  · obtain ⟨i, rfl⟩ := Int.eq_ofNat_of_zero_le hi.1
    exact xnear_go (r0 := some b) A c hs w H (Lib.hid he) (by omega) (Lib.hid hb)
end Go.Proofs.YthempimelfmipaaGreatDoor

namespace Go.Proofs.YthempimelfmipaaGreatDoor
open Go.RowKit Go.Proofs Go

theorem el_set (l : List Int) (i x : Nat) (v : Int) : el (l.set i v) x = if i = x ∧ i < l.length then v else el l x := by
  rw [el, el, List.getElem?_set]
  by_cases h : i = x
  · subst h
    by_cases h2 : i < l.length
    · simp [h2]
    · simp [h2]
  · simp [h]
theorem el_sw (l : List Int) {a b : Nat} (ha : a < l.length) (hb : b < l.length) (x : Nat) : el (swL l a b) x = if x = b then el l a else if x = a then el l b else el l x := by
  rw [swL, el_set, List.length_set, el_set]
  by_cases h1 : b = x
  · subst h1; simp [hb]
  · have h1' : ¬ x = b := fun e => h1 e.symm
    by_cases h2 : a = x
    · subst h2; simp [h1, h1', ha]
    · have h2' : ¬ x = a := fun e => h2 e.symm
      simp [h1, h1', h2, h2']
theorem el_ext {l m : List Int} (h : l.length = m.length) (he : ∀ x, x < m.length → el l x = el m x) : l = m := by
  apply List.ext_getElem h
  intro i h1 h2
  have := he i h2
  rw [el, el, List.getElem?_eq_getElem h1, List.getElem?_eq_getElem h2] at this
  exact this
/-- a row, turned round from s on, but for what lies from a to b -/
def RevP (m o : List Int) (s a b : Nat) : Prop := o.length = m.length ∧ ∀ x, x < m.length → el o x = if (s ≤ x ∧ x < a) ∨ b < x then el m (s + m.length - 1 - x) else el m x
theorem RevP.start (m : List Int) (s : Nat) : RevP m m s s (m.length - 1) := ⟨rfl, fun x hx => by rw [if_neg (by omega)]⟩
theorem RevP.step {m o : List Int} {s a b : Nat} (h : RevP m o s a (b + 1)) (hs : s ≤ a) (hab : a < b + 1) (hb : b + 1 < m.length) (hsum : a + (b + 1) = s + m.length - 1) : RevP m (swL o a (b + 1)) s (a + 1) b := by
  refine ⟨by rw [swL_len, h.1], fun x hx => ?_⟩
  rw [el_sw o (by rw [h.1]; omega) (by rw [h.1]; omega)]
  by_cases h1 : x = b + 1
  · rw [if_pos h1, h.2 a (by omega), if_neg (by omega), if_pos (by omega)]
    congr 1; omega
  · rw [if_neg h1]
    by_cases h2 : x = a
    · rw [if_pos h2, h.2 (b + 1) hb, if_neg (by omega), if_pos (by omega)]
      congr 1; omega
    · rw [if_neg h2, h.2 x hx]
      by_cases h3 : (s ≤ x ∧ x < a) ∨ b + 1 < x
      · rw [if_pos h3, if_pos (by omega)]
      · rw [if_neg h3, if_neg (by omega)]
theorem RevP.fin {m o : List Int} {s a b : Nat} (h : RevP m o s a b) (hs : s ≤ m.length) (hab : ¬ a < b) (ha : s ≤ a) (ha2 : a ≤ b + 1) (hsum : a + b = s + m.length - 1) : o = m.take s ++ (m.drop s).reverse := by
  apply el_ext
  · rw [h.1]; simp; omega
  · intro x hx
    have hx : x < m.length := by simp at hx; omega
    rw [h.2 x hx]
    by_cases h1 : x < s
    · have e : el (m.take s ++ (m.drop s).reverse) x = el m x := by
        rw [el, el, List.getElem?_append_left (by simp; omega), List.getElem?_take_of_lt h1]
      rw [e]
      by_cases h2 : b < x
      · omega
      · rw [if_neg (by omega)]
    · have e : el (m.take s ++ (m.drop s).reverse) x = el m (s + m.length - 1 - x) := by
        rw [el, el, List.getElem?_append_right (by simp; omega), List.getElem?_reverse (by simp; omega), List.getElem?_drop]
        congr 2
        simp; omega
      rw [e]
      by_cases h2 : (s ≤ x ∧ x < a) ∨ b < x
      · rw [if_pos h2]
      · rw [if_neg h2]; congr 1; omega
/-- what Next returns -/
def RetNx (w : World) (r : Option (List Int)) (e : Ending) (w' : World) : Prop := Below w.heap.size w w' ∧ ((r = none ∧ e = .returned (.tuple #[.slice none 0 0, .bool false])) ∨ ∃ m A c, r = some m ∧ e = .returned (.tuple #[.slice A m.length c, .bool true]) ∧ IEs w' A m)
set_option maxHeartbeats 2000000 in
set_option maxRecDepth 100000 in
theorem xnext_nil (A : Option Addr) (c : Nat) (w : World) :
    Calls Tryz.prog 72 #[.slice A 0 c] w (RetNx w none) := by
  have H := IEs.nil w A
  have hb1 := below_alloc w (.cells #[] 3)
  have HL := IOwn.lit w (B := w.heap.size) (Nat.le_refl _) [] #[] rfl (by simp)
  have H1 := H.ext hb1
  go_enter Tryz.func72, Tryz.ntmps72
  go_wp2_with (at_builtin; refine wp_pushes EI _ rfl _ _ rfl rfl rfl HL H1 rfl (by omega) hb1.size ?_)
  intro A9 c9 w2 HO hb2
  have hbw := hb1.trans hb2
  clear hb1 HL H1 hb2 HO H
  go_wp2
  go_loopg [5] 0 (fun _ u wr => u = .int .i64 (-2) ∧ Below w.heap.size w wr)
  case atStart => exact ⟨rfl, hbw⟩
  case round =>
    clear hbw
    obtain ⟨rfl, hbw⟩ := hrel
    go_upto_region 3 with fail
    go_quiet (fail)
    go_wp2
    exact bodyPost_ret (v := .tuple #[.slice none 0 0, .bool false]) (by simp [results, Tryz.results72, go_sem]) rfl ⟨drew_below hbw _, .inl ⟨rfl, rfl⟩⟩
set_option maxHeartbeats 8000000 in
set_option maxRecDepth 100000 in
theorem xnext_any {r : Option (List Int)} (A : Option Addr) (c : Nat) (l : List Int) (w : World) (H : IEs w A l) (h1 : 1 ≤ l.length) (hl : l.length ≤ 10) (hr : Hid (nextL l = r)) :
    Calls Tryz.prog 72 #[.slice A l.length c] w (RetNx w r) := by
  have hb1 := below_alloc w (.cells #[] 3)
  have HL := IOwn.lit w (B := w.heap.size) (Nat.le_refl _) [] #[] rfl (by simp)
  have H1 := H.ext hb1
  go_enter Tryz.func72, Tryz.ntmps72
  go_wp2_with (at_builtin; refine wp_pushes EI _ rfl _ _ rfl rfl rfl HL H1 rfl (by omega) hb1.size ?_)
  intro A9 c9 w2 HO hb2
  have hbw := hb1.trans hb2
  replace HO : Own w2 w.heap.size 3 A9 l.length c9 (icells l) := HO
  obtain ⟨g, rfl, hgB⟩ := HO.block (by omega)
  clear hb1 HL H1 hb2 H
  go_wp2
  go_loopg [5] (l.length - 1) (fun gk u wr => ∃ (j : Nat) (x : Int), Hid (j = gk) ∧ x = (j : Int) - 1 ∧ u = .int .i64 x ∧ Hid (pivF l (l.length - 1) = pivF l j) ∧ j ≤ l.length - 1 ∧ Own wr w.heap.size 3 (some ⟨g, 0, none⟩) l.length c9 (icells l) ∧ Below w.heap.size w wr)
  case atStart => exact ⟨l.length - 1, (l.length : Int) - 2, Lib.hid rfl, by omega, rfl, Lib.hid rfl, Nat.le_refl _, HO, hbw⟩
  case round =>
    clear HO hbw
    obtain ⟨j, x, hj, hx, rfl, hp, hj1, HO, hbw⟩ := hrel
    cases j with
    | zero =>
      obtain rfl : x = -1 := by omega
      clear hx
      have hn := Lib.hid (next_none (hp.out.trans rfl))
      obtain rfl : r = none := by rw [← hr.out, hn.out]
      go_upto_region 3 with fail
      go_quiet (fail)
      go_wp2
      exact bodyPost_ret (v := .tuple #[.slice none 0 0, .bool false]) (by simp [results, Tryz.results72, go_sem]) rfl ⟨drew_below hbw _, .inl ⟨rfl, rfl⟩⟩
    | succ j =>
      obtain rfl : x = (j : Int) := by omega
      clear hx
      have c0 := HO.icell (j := j) (by omega)
      have c1 := HO.icell (j := j + 1) (by omega)
      rw [el_at0] at c0 c1
      by_cases hgt : el l j > el l (j + 1)
      · have hd : decide (el l (j + 1) < el l j) = true := decide_eq_true hgt
        have hp2 := Lib.hid (show pivF l (l.length - 1) = pivF l j by rw [hp.out, pivF, if_pos hgt])
        clear hp hgt
        generalize el l j = xa at *
        generalize el l (j + 1) = xb at *
        go_upto_region 3 with fail
        go_quiet (fail)
        go_wp2
        go_roundg j
        case measure => have := hj.out; omega
        case rel => exact ⟨j, (j : Int) - 1, Lib.hid rfl, rfl, by go_num, hp2, by omega, drew_own HO _, drew_below hbw _⟩
      · have hd : decide (el l (j + 1) < el l j) = false := decide_eq_false hgt
        have hpv : pivF l (l.length - 1) = some j := by rw [hp.out, pivF, if_neg hgt]
        have hns := Lib.hid ((next_some hpv).symm.trans hr.out)
        have hle := Lib.hid (show el l j ≤ el l (j + 1) by omega)
        clear hp hgt hpv
        obtain ⟨xa, hxa⟩ : ∃ x, Hid (el l j = x) := ⟨_, Lib.hid rfl⟩
        obtain ⟨xb, hxb⟩ : ∃ x, Hid (el l (j + 1) = x) := ⟨_, Lib.hid rfl⟩
        rw [hxa.out] at c0 hd
        rw [hxb.out] at c1 hd
        go_upto_region 3 with fail
        go_quiet (fail)
        have HO1 : Own (wr.drewN nq) w.heap.size 3 (some ⟨g, 0, none⟩) l.length c9 (icells l) := drew_own HO nq
        replace hbw : Below w.heap.size w (wr.drewN nq) := drew_below hbw nq
        clear HO c0 c1 hd
        generalize wr.drewN nq = V at *
        have hj0 : (0 : Int) ≤ (j : Int) := by omega
        have hj0b : decide ((j : Int) < 0) = false := decide_eq_false (by omega)
        go_wp2
        go_loopg [6] (l.length - 1) (fun gk u wr => ∃ (k : Nat) (x : Int), Hid (k = gk) ∧ x = (k : Int) ∧ u = .int .i64 x ∧ Hid (upF l (el l j) (l.length - 1) = upF l (el l j) k) ∧ j < k ∧ k ≤ l.length - 1 ∧ Own wr w.heap.size 3 (some ⟨g, 0, none⟩) l.length c9 (icells l) ∧ Below w.heap.size w wr)
        case atStart => exact ⟨l.length - 1, (l.length : Int) - 1, Lib.hid rfl, by omega, rfl, Lib.hid rfl, by omega, Nat.le_refl _, HO1, hbw⟩
        case round =>
          clear HO1 hbw
          obtain ⟨k, x, hk, hx, rfl, hu, hjk, hk1, HO, hbw⟩ := hrel
          obtain ⟨k, rfl⟩ : ∃ i, k = i + 1 := ⟨k - 1, by omega⟩
          obtain rfl : x = ((k + 1 : Nat) : Int) := by omega
          clear hx
          have c0 := HO.icell (j := j) (by omega)
          have c1 := HO.icell (j := k + 1) (by omega)
          rw [el_at0] at c0 c1
          rw [hxa.out] at c0
          have hkl : k + 1 < l.length := by omega
          have hjl : j < l.length := by omega
          by_cases hlt : el l (k + 1) < el l j
          · have hu2 := Lib.hid (show upF l (el l j) (l.length - 1) = upF l (el l j) k by rw [hu.out, upF, if_pos hlt])
            have hd : decide (el l (k + 1) < xa) = true := decide_eq_true (by rw [← hxa.out]; exact hlt)
            have hjk2 : j < k := by
              by_cases h : j < k
              · exact h
              · obtain rfl : j = k := by omega
                have := hle.out
                omega
            clear hu hlt
            generalize el l (k + 1) = xc at *
            go_upto_region 8 with fail
            go_quiet (fail)
            go_wp2
            go_roundg k
            case measure => have := hk.out; omega
            case rel => exact ⟨k, (k : Int), Lib.hid rfl, rfl, by go_num, hu2, by omega, by omega, drew_own HO _, drew_below hbw _⟩
          · have hu2 := Lib.hid (show upF l (el l j) (l.length - 1) = k + 1 by rw [hu.out, upF, if_neg hlt])
            have hd : decide (el l (k + 1) < xa) = false := decide_eq_false (by rw [← hxa.out]; exact hlt)
            rw [hu2.out] at hns
            clear hu hlt hu2
            have f0 := HO.freeAt j
            have f1 := HO.freeAt (k + 1)
            obtain ⟨xc, hxc⟩ : ∃ x, Hid (el l (k + 1) = x) := ⟨_, Lib.hid rfl⟩
            rw [hxc.out] at c1 hd
            obtain ⟨m, hm⟩ : ∃ m, Hid (swL l j (k + 1) = m) := ⟨_, Lib.hid rfl⟩
            rw [hm.out] at hns
            have hml := Lib.hid (show m.length = l.length by rw [← hm.out, swL_len])
            have hno : ∀ W : World, Own W w.heap.size 3 (some ⟨g, 0, none⟩) l.length c9 (icells l) → Own ((W.setCell ⟨g, j, none⟩ (.int .i64 xc)).setCell ⟨g, k + 1, none⟩ (.int .i64 xa)) w.heap.size 3 (some ⟨g, 0, none⟩) l.length c9 (icells m) := fun W h => by
              rw [← hm.out, swL, hxc.out, hxa.out]; exact (h.istored _).istored _
            go_upto_region 8 with fail
            go_quiet (fail)
            have HO1 : Own (wr.drewN nq) w.heap.size 3 (some ⟨g, 0, none⟩) l.length c9 (icells l) := drew_own HO nq
            replace hbw : Below w.heap.size w (wr.drewN nq) := drew_below hbw nq
            replace c1 : (wr.drewN nq).cell? ⟨g, k + 1, none⟩ = some (.int .i64 xc) := c1
            replace c0 : (wr.drewN nq).cell? ⟨g, j, none⟩ = some (.int .i64 xa) := c0
            replace f1 : (wr.drewN nq).frozen? ⟨g, k + 1, none⟩ = false := f1
            replace f0 : (wr.drewN nq).frozen? ⟨g, j, none⟩ = false := f0
            clear HO hd
            generalize wr.drewN nq = V8 at *
            go_upto_region 10 with fail
            go_region
            have HON := drew_own (hno V8 HO1) 1
            have hbN := drew_below (bel_set (p := ⟨g, k + 1, none⟩) (bel_set (p := ⟨g, j, none⟩) hbw hgB (.int .i64 xc)) hgB (.int .i64 xa)) 1
            have e9 : ((V8.setCell ⟨g, j, none⟩ (.int .i64 xc)).setCell ⟨g, k + 1, none⟩ (.int .i64 xa)).drewN 1 = ((V8.setCell ⟨g, j, none⟩ (.int .i64 xc)).setCell ⟨g, k + 1, none⟩ (.int .i64 xa)).drew := rfl
            rw [e9] at HON hbN
            clear c0 c1 f0 f1 HO1 hbw hno e9
            generalize ((V8.setCell ⟨g, j, none⟩ (.int .i64 xc)).setCell ⟨g, k + 1, none⟩ (.int .i64 xa)).drew = V9 at *
            have hR0 := Lib.hid (show RevP m m (j + 1) (j + 1) (l.length - 1) from hml.out ▸ RevP.start m (j + 1))
            clear hm hxa hxb hxc hle hj hk
            go_wp2
            go_loopg [7, 8] l.length (fun gk u v wr => ∃ (a b : Nat) (o : List Int) (x y : Int), b ≤ gk ∧ x = (a : Int) ∧ y = (b : Int) ∧ u = .int .i64 x ∧ v = .int .i64 y ∧ a + b = j + l.length ∧ a ≤ b + 1 ∧ j + 1 ≤ a ∧ b < l.length ∧ Hid (RevP m o (j + 1) a b) ∧ Own wr w.heap.size 3 (some ⟨g, 0, none⟩) l.length c9 (icells o) ∧ Below w.heap.size w wr)
            case atStart => exact ⟨j + 1, l.length - 1, m, (j : Int) + 1, (l.length : Int) - 1, by omega, by omega, by omega, by go_num, by go_num, by omega, by omega, by omega, by omega, hR0, HON, hbN⟩
            case round =>
              clear HON hbN hR0
              obtain ⟨a, b, o, x, y, hgk, hx, hy, rfl, rfl, hab, hab1, hja, hbl, HR, HO, hbw⟩ := hrel
              by_cases hlt : a < b
              · obtain ⟨b, rfl⟩ : ∃ i, b = i + 1 := ⟨b - 1, by omega⟩
                subst hx
                subst hy
                have hol := Lib.hid (HR.out.1.trans hml.out)
                have c0 := HO.icell (j := a) (by rw [hol.out]; omega)
                have c1 := HO.icell (j := b + 1) (by rw [hol.out]; omega)
                rw [el_at0] at c0 c1
                have f0 := HO.freeAt a
                have f1 := HO.freeAt (b + 1)
                obtain ⟨ya, hya⟩ : ∃ x, Hid (el o a = x) := ⟨_, Lib.hid rfl⟩
                obtain ⟨yb, hyb⟩ : ∃ x, Hid (el o (b + 1) = x) := ⟨_, Lib.hid rfl⟩
                rw [hya.out] at c0
                rw [hyb.out] at c1
                have hal : a < l.length := by omega
                have HR2 := Lib.hid (HR.out.step hja hlt (by rw [hml.out]; exact hbl) (by rw [hml.out]; omega))
                have hno : ∀ W : World, Own W w.heap.size 3 (some ⟨g, 0, none⟩) l.length c9 (icells o) → Own ((W.setCell ⟨g, a, none⟩ (.int .i64 yb)).setCell ⟨g, b + 1, none⟩ (.int .i64 ya)) w.heap.size 3 (some ⟨g, 0, none⟩) l.length c9 (icells (swL o a (b + 1))) := fun W h => by
                  rw [swL, hya.out, hyb.out]; exact (h.istored _).istored _
                generalize swL o a (b + 1) = o2 at *
                clear HR hya hyb
                go_upto_region 14 with fail
                go_region
                have HON := drew_own (hno wr HO) 1
                have hbN := drew_below (bel_set (p := ⟨g, b + 1, none⟩) (bel_set (p := ⟨g, a, none⟩) hbw hgB (.int .i64 yb)) hgB (.int .i64 ya)) 1
                have e9 : ((wr.setCell ⟨g, a, none⟩ (.int .i64 yb)).setCell ⟨g, b + 1, none⟩ (.int .i64 ya)).drewN 1 = ((wr.setCell ⟨g, a, none⟩ (.int .i64 yb)).setCell ⟨g, b + 1, none⟩ (.int .i64 ya)).drew := rfl
                rw [e9] at HON hbN
                clear c0 c1 f0 f1 HO hbw hno e9
                generalize ((wr.setCell ⟨g, a, none⟩ (.int .i64 yb)).setCell ⟨g, b + 1, none⟩ (.int .i64 ya)).drew = V9 at *
                go_wp2
                go_roundg b
                case measure => omega
                case rel => exact ⟨a + 1, b, o2, (a : Int) + 1, (b : Int), by omega, by omega, rfl, by go_num, by go_num, by omega, by omega, by omega, by omega, HR2, HON, hbN⟩
              · have hfin := Lib.hid (HR.out.fin (by rw [hml.out]; omega) hlt hja hab1 (by rw [hml.out]; omega))
                have hol := Lib.hid (HR.out.1.trans hml.out)
                have hr2 := Lib.hid (show r = some o by rw [hfin.out]; exact hns.out.symm)
                have hES := (Own.iown HO hol.out.symm).es
                have hd : decide (x < y) = false := decide_eq_false (by omega)
                clear HR hfin hns
                go_wp2
                exact bodyPost_ret (v := .tuple #[.slice (some ⟨g, 0, none⟩) l.length c9, .bool true]) (by simp [results, Tryz.results72, go_sem]) rfl ⟨hbw, .inr ⟨o, _, c9, hr2.out, by rw [hol.out], hES⟩⟩
end Go.Proofs.YthempimelfmipaaGreatDoor

namespace Go.Proofs.YthempimelfmipaaGreatDoor
open Go.RowKit Go.Proofs Go

theorem xnext_all {r : Option (List Int)} (A : Option Addr) (c : Nat) (l : List Int) (w : World) (H : IEs w A l) (hl : l.length ≤ 10) (hr : Hid (nextL l = r)) :
    Calls Tryz.prog 72 #[.slice A l.length c] w (RetNx w r) := by
  by_cases h1 : 1 ≤ l.length
  · exact xnext_any A c l w H h1 hl hr
  · obtain rfl : l = [] := List.eq_nil_of_length_eq_zero (by omega)
    obtain rfl : r = none := by rw [← hr.out]; rfl
    exact xnext_nil A c w
set_option maxHeartbeats 1000000 in
set_option maxRecDepth 100000 in
theorem xbest_err {E : Int} (A : Option Addr) (c : Nat) (hs : List HR) (w : World) (H : HL w A hs) (hl : hs.length ≤ 9223372036854775807) (hE : Hid (ChkIs hs E)) (hn : (E != 0) = true) :
    Calls Tryz.prog 34 #[.slice A hs.length c] w (RetBest w [] 0 E) := by
  go_enter Tryz.func34, Tryz.ntmps34
  go_wp2_with fail
  refine (xmatrix_err A c hs _ H hl hE hn).mono ?_
  rintro e w1 ⟨rfl, hb⟩
  go_wp2
  exact bodyPost_ret (v := .tuple #[.slice none 0 0, .int .i64 0, .int .i64 E]) (by simp [results, Tryz.results34, go_sem]) rfl ⟨none, 0, rfl, IEs.nil _ _, hb⟩
set_option maxHeartbeats 1000000 in
set_option maxRecDepth 100000 in
theorem xbest_full (A : Option Addr) (c : Nat) (hs : List HR) (w : World) (H : HL w A hs) (hE : Hid (ChkIs hs 0)) (h6 : 6 < hs.length) :
    Calls Tryz.prog 34 #[.slice A hs.length c] w (RetBest w [] 0 6) := by
  have d6 : decide ((6 : Int) < (hs.length : Int)) = true := decide_eq_true (by omega)
  go_enter Tryz.func34, Tryz.ntmps34
  go_wp2_with fail
  refine (xmatrix_ok A c hs _ H hE (Lib.hid rfl)).mono ?_
  rintro e w1 ⟨A1, c1, rs, rfl, _, _, _, hb⟩
  go_wp2
  exact bodyPost_ret (v := .tuple #[.slice none 0 0, .int .i64 0, .int .i64 6]) (by simp [results, Tryz.results34, go_sem]) rfl ⟨none, 0, rfl, IEs.nil _ _, hb⟩
set_option maxHeartbeats 8000000 in
set_option maxRecDepth 100000 in
theorem xbest_go {bo : List Int} {lo : Nat} (A : Option Addr) (c : Nat) (hs : List HR) (w : World) (H : HL w A hs) (hE : Hid (ChkIs hs 0)) (h6 : hs.length ≤ 6) (hbo : Hid (bestO (mq (matQ hs)) hs.length = (bo, lo))) :
    Calls Tryz.prog 34 #[.slice A hs.length c] w (RetBest w bo lo 0) := by
  obtain ⟨M, hM⟩ : ∃ M, Hid (mq (matQ hs) = M) := ⟨_, Lib.hid rfl⟩
  rw [hM.out] at hbo
  have S0 := Lib.hid (Srch.start M h6)
  have d6 : decide ((6 : Int) < (hs.length : Int)) = false := decide_eq_false (by omega)
  go_enter Tryz.func34, Tryz.ntmps34
  go_wp2_with fail
  refine (xmatrix_ok A c hs _ H hE (Lib.hid rfl)).mono ?_
  rintro e W1 ⟨A1, c1, rs, rfl, hs1, hq, HM, hb1⟩
  have HV := Lib.hid (mxv_of h6 hs1 hq)
  have HS := Lib.hid hs1.1
  have hMq := Lib.hid (show mq (qOf rs) = M by rw [hq, hM.out])
  clear hs1 hq H
  have HO := IOwn.nil W1 W1.heap.size
  go_wp2
  go_loopg [7, 8] hs.length (fun gk u i wr => ∃ (j : Nat) (A7 : Option Addr) (c7 : Nat), j + gk = hs.length ∧ u = .slice A7 j c7 ∧ i = .int .i64 (j : Int) ∧ Own wr W1.heap.size 3 A7 j c7 (icells (ups j)) ∧ Below W1.heap.size W1 wr)
  case atStart => exact ⟨0, none, 0, by omega, rfl, rfl, HO, Below.refl _ _⟩
  case round =>
    clear HO
    obtain ⟨j, A7, c7, hj, rfl, rfl, HO, hbw⟩ := hrel
    have hszw := hbw.size
    by_cases hj0 : j < hs.length
    · go_wp2_with (at_builtin; refine wp_push EI _ rfl _ _ rfl rfl rfl HO rfl (by omega) (by omega) (by omega) ?_)
      intro A9 c9 w9 HO2 _ hb9 _
      have hb2 : Below W1.heap.size W1 w9 := hbw.trans hb9
      have HO3 : Own w9 W1.heap.size 3 A9 (j + 1) c9 (icells (ups (j + 1))) := by
        rw [ups_snoc, icells, List.map_append]; exact HO2
      clear HO HO2 hb9
      go_wp2
      go_roundg (hs.length - (j + 1))
      case measure => omega
      case rel => exact ⟨j + 1, A9, c9, by omega, by go_num, by go_num, HO3, hb2⟩
    · obtain rfl : j = hs.length := by omega
      obtain ⟨up, hup⟩ : ∃ u, Hid (ups hs.length = u) := ⟨_, Lib.hid rfl⟩
      have hul := Lib.hid (show up.length = hs.length by rw [← hup.out, ups_len])
      rw [hup.out] at HO S0
      have HB := (Own.iown HO hul.out.symm).es
      obtain ⟨lv, hlv⟩ : ∃ l, Hid (evs M up = l) := ⟨_, Lib.hid rfl⟩
      rw [hlv.out] at S0
      have hev0 := Lib.hid (show evs (mq (qOf rs)) up = lv by rw [hMq.out, hlv.out])
      have cE : Calls Tryz.prog 23 #[.slice A1 hs.length c1, .slice A7 hs.length c7] wr (RetII wr lv 0) := by
        have := revents_any (n := lv) (E := 0) A1 A7 c1 c7 rs up wr (HM.ext hbw) (by rw [HS.out]; omega) HB (by rw [hul.out]; omega) (Lib.hid (.inr (.inr ⟨HV.out, by rw [HS.out]; exact S0.out.ord, by rw [hev0.out], rfl⟩)))
        rwa [HS.out, hul.out] at this
      go_wp2_with fail
      refine cE.mono ?_
      rintro e w3 ⟨rfl, hb3⟩
      clear cE HO
      replace HB := HB.ext hb3
      replace hbw := bel_trans hbw hb3
      clear hb3 hev0 hlv hup
      go_wp2
      go_loopg [7, 9, 10] 719 (fun gk u v i wr => ∃ (f : Nat) (o bl : List Int) (lv : Nat) (A7 : Option Addr) (c7 : Nat) (A9 : Option Addr) (c9 : Nat), Hid (f = gk) ∧ u = .slice A7 hs.length c7 ∧ v = .slice A9 hs.length c9 ∧ i = .int .i64 (lv : Int) ∧ Hid (Srch M hs.length f o bl lv) ∧ IEs wr A7 o ∧ IEs wr A9 bl ∧ Below W1.heap.size W1 wr)
      case atStart => exact ⟨719, up, up, lv, A7, c7, A7, c7, Lib.hid rfl, rfl, rfl, rfl, S0, HB, HB, hbw⟩
      case round =>
        clear HB hbw S0 hul hszw
        obtain ⟨f, o, bl, lv, A7, c7, A9, c9, hf, rfl, rfl, rfl, HSr, HO, HB, hbw⟩ := hrel
        have hol := Lib.hid HSr.out.ord.len
        cases hnx : nextL o with
        | none =>
          have hN := Lib.hid hnx
          clear hnx
          have cN : Calls Tryz.prog 72 #[.slice A7 hs.length c7] wr (RetNx wr none) := by
            have := xnext_all A7 c7 o wr HO (by rw [hol.out]; omega) hN
            rwa [hol.out] at this
          have hfin := Lib.hid (HSr.out.done hN.out)
          have hbl := Lib.hid HSr.out.best.len
          go_wp2_with fail
          refine cN.mono ?_
          rintro e w4 ⟨hb4, ⟨-, rfl⟩ | ⟨_, _, _, h, _⟩⟩
          · replace HB := HB.ext hb4
            replace hbw := bel_trans hbw hb4
            clear cN HO hb4
            obtain ⟨rfl, rfl⟩ : bl = bo ∧ lv = lo := by
              have := hfin.out.symm.trans hbo.out
              injection this with h1 h2
              exact ⟨h1, h2⟩
            go_wp2
            exact bodyPost_ret (v := .tuple #[.slice A9 hs.length c9, .int .i64 (lv : Int), .int .i64 0]) (by simp [results, Tryz.results34, go_sem]) rfl ⟨A9, c9, by rw [hbl.out], HB, bel_trans hb1 hbw⟩
          · cases h
        | some m =>
          have hN := Lib.hid hnx
          clear hnx
          obtain ⟨f, rfl⟩ := HSr.out.more hN.out
          have hst := Lib.hid (HSr.out.step hN.out)
          have hmo : Hid (IsOrd m hs.length) := Lib.hid (HSr.out.ords m (by rw [runL, hN.out]; exact List.mem_cons_of_mem _ (run_mem f m)))
          have hml := Lib.hid hmo.out.len
          have cN : Calls Tryz.prog 72 #[.slice A7 hs.length c7] wr fun e w' => ∃ A c, e = .returned (.tuple #[.slice A hs.length c, .bool true]) ∧ IEs w' A m ∧ Below wr.heap.size wr w' := by
            have := xnext_all A7 c7 o wr HO (by rw [hol.out]; omega) hN
            rw [hol.out] at this
            refine this.mono ?_
            rintro e w' ⟨hb, ⟨h, _⟩ | ⟨m', A, c, h, rfl, hE⟩⟩
            · cases h
            · obtain rfl := Option.some.inj h
              exact ⟨A, c, by rw [hml.out], hE, hb⟩
          clear HSr
          go_wp2_with fail
          refine cN.mono ?_
          rintro e w4 ⟨A8, c8, rfl, HO4, hb4⟩
          replace HB := HB.ext hb4
          replace hbw := bel_trans hbw hb4
          clear cN HO hN hol hb4
          obtain ⟨v2, hv2⟩ : ∃ l, Hid (evs M m = l) := ⟨_, Lib.hid rfl⟩
          have hev0 := Lib.hid (show evs (mq (qOf rs)) m = v2 by rw [hMq.out, hv2.out])
          have cE : Calls Tryz.prog 23 #[.slice A1 hs.length c1, .slice A8 hs.length c8] w4 (RetII w4 v2 0) := by
            have := revents_any (n := v2) (E := 0) A1 A8 c1 c8 rs m w4 (HM.ext hbw) (by rw [HS.out]; omega) HO4 (by rw [hml.out]; omega) (Lib.hid (.inr (.inr ⟨HV.out, by rw [HS.out]; exact hmo.out, by rw [hev0.out], rfl⟩)))
            rwa [HS.out, hml.out] at this
          go_wp2_with fail
          refine cE.mono ?_
          rintro e w5 ⟨rfl, hb5⟩
          clear cE
          replace HO4 := HO4.ext hb5
          replace HB := HB.ext hb5
          replace hbw := bel_trans hbw hb5
          clear hb5 hev0
          by_cases hlt : v2 < lv
          · have hd : decide (v2 < lv) = true := decide_eq_true hlt
            have hdi : decide ((v2 : Int) < (lv : Int)) = true := decide_eq_true (by omega)
            have HS2 : Hid (Srch M hs.length f m m v2) := Lib.hid (by have := hst.out; rw [hv2.out, if_pos hlt] at this; exact this)
            clear hst hlt
            go_wp2
            go_roundg f
            case measure => have := hf.out; omega
            case rel => exact ⟨f, m, m, v2, A8, c8, A8, c8, Lib.hid rfl, rfl, rfl, rfl, HS2, HO4, HO4, hbw⟩
          · have hd : decide (v2 < lv) = false := decide_eq_false hlt
            have hdi : decide ((v2 : Int) < (lv : Int)) = false := decide_eq_false (by omega)
            have HS2 : Hid (Srch M hs.length f m bl lv) := Lib.hid (by have := hst.out; rw [hv2.out, if_neg hlt] at this; exact this)
            clear hst hlt
            go_wp2
            go_roundg f
            case measure => have := hf.out; omega
            case rel => exact ⟨f, m, bl, lv, A8, c8, A9, c9, Lib.hid rfl, rfl, rfl, rfl, HS2, HO4, HB, hbw⟩
theorem xbest_any {o : List Int} {k E : Int} (A : Option Addr) (c : Nat) (hs : List HR) (w : World) (H : HL w A hs) (hl : hs.length ≤ 9223372036854775807) (h : Hid (BestIs hs o k E)) :
    Calls Tryz.prog 34 #[.slice A hs.length c] w (RetBest w o k E) := by
  obtain ⟨e, he, h⟩ := h.out
  rcases h with ⟨h0, rfl, rfl, rfl⟩ | ⟨rfl, h6, rfl, rfl, rfl⟩ | ⟨rfl, h6, ⟨lo, hb, rfl⟩, rfl⟩
  · exact xbest_err A c hs w H hl (Lib.hid he) (bne_iff_ne.2 h0)
  · exact xbest_full A c hs w H (Lib.hid he) h6
  · exact xbest_go A c hs w H (Lib.hid he) h6 (Lib.hid hb)
end Go.Proofs.YthempimelfmipaaGreatDoor

namespace Go.Proofs.YthempimelfmipaaGreatDoor
open Go.RowKit Go.Proofs Go

/-- a row's fractions, in their canonical forms -/
structure FKc (w : World) (fs : List FE) (qs : List Rat) : Prop where
  len : fs.length = qs.length
  sh : ∀ (i : Nat) (x : FE) (q : Rat), fs[i]? = some x → qs[i]? = some q → x.s = sg q ∧ x.n = (dig (nu q)).length ∧ x.m = (dig q.den).length ∧ Fc w x.A x.c x.B x.d q 2
section
variable {w w' : World} {fs : List FE} {qs : List Rat} {rs : List RR} {A : Option Addr} {B c : Nat}
theorem FKc.nil (w : World) : FKc w [] [] := ⟨rfl, fun i x q h => by simp at h⟩
theorem FKc.ext (h : FKc w fs qs) (hb : Below w.heap.size w w') : FKc w' fs qs := ⟨h.len, fun i x q h1 h2 => by
  obtain ⟨a, b, c, d⟩ := h.sh i x q h1 h2
  exact ⟨a, b, c, d.ext hb⟩⟩
theorem FKc.stay (h : FKc w fs qs) (hb : Keep w w') : FKc w' fs qs := ⟨h.len, fun i x q h1 h2 => by
  obtain ⟨a, b, c, d⟩ := h.sh i x q h1 h2
  exact ⟨a, b, c, d.stay hb⟩⟩
theorem FKc.snoc (h : FKc w fs qs) {y : FE} {q : Rat} (e1 : y.s = sg q) (e2 : y.n = (dig (nu q)).length) (e3 : y.m = (dig q.den).length) (hy : Fc w y.A y.c y.B y.d q 2) : FKc w (fs ++ [y]) (qs ++ [q]) := ⟨by simp [h.len], fun i x p h1 h2 => by
  rcases Nat.lt_or_ge i fs.length with hi | hi
  · rw [List.getElem?_append_left hi] at h1
    rw [List.getElem?_append_left (by rw [← h.len]; exact hi)] at h2
    exact h.sh i x p h1 h2
  · rw [List.getElem?_append_right hi] at h1
    rw [List.getElem?_append_right (by rw [← h.len]; exact hi), ← h.len] at h2
    have hi0 : i - fs.length = 0 := by
      have := (List.getElem?_eq_some_iff.1 h1).1
      simp at this; omega
    rw [hi0] at h1 h2
    simp at h1 h2
    subst h1 h2
    exact ⟨e1, e2, e3, hy⟩⟩
def RowsOKc (w : World) (rs : List RR) : Prop := ∀ (i : Nat) (r : RR), rs[i]? = some r → ∃ B, FRow w B r.A r.c r.fs ∧ FKc w r.fs r.qs ∧ r.fs.length ≤ 9223372036854775807
def MFc (w : World) (rs : List RR) : Prop := ∀ (i : Nat) (r : RR), rs[i]? = some r → FS w r.A r.fs ∧ FKc w r.fs r.qs ∧ r.fs.length ≤ 9223372036854775807
theorem MFc.ext (h : MFc w rs) (hb : Below w.heap.size w w') : MFc w' rs := fun i r hr => ⟨(h i r hr).1.ext hb, (h i r hr).2.1.ext hb, (h i r hr).2.2⟩
theorem RowsOKc.ext (h : RowsOKc w rs) (hb : Below w.heap.size w w') : RowsOKc w' rs := fun i r hr => by
  obtain ⟨B, h1, h2, h3⟩ := h i r hr
  exact ⟨B, h1.ext hb, h2.ext hb, h3⟩
theorem RowsOKc.nil (w : World) : RowsOKc w [] := fun i r h => by simp at h
theorem RowsOKc.snoc (h : RowsOKc w rs) {r : RR} {B : Nat} (h1 : FRow w B r.A r.c r.fs) (h2 : FKc w r.fs r.qs) (h3 : r.fs.length ≤ 9223372036854775807) : RowsOKc w (rs ++ [r]) := fun i x hx => by
  rcases Nat.lt_or_ge i rs.length with hi | hi
  · rw [List.getElem?_append_left hi] at hx
    exact h i x hx
  · rw [List.getElem?_append_right hi] at hx
    have hi0 : i - rs.length = 0 := by
      have := (List.getElem?_eq_some_iff.1 hx).1
      simp at this; omega
    rw [hi0] at hx
    simp at hx
    subst hx
    exact ⟨B, h1, h2, h3⟩
theorem RowsOKc.mfc (h : RowsOKc w rs) : MFc w rs := fun i r hr => by
  obtain ⟨B, h1, h2, h3⟩ := h i r hr
  exact ⟨h1.row, h2, h3⟩
theorem RowsOKc.kept {rs2 : List RR} {k : Nat} (h : RowsOKc w rs2) (hO : ORow w B A c rs) (hg : w.grownBy w' (Value.slice A k c).ownBlock) (hk : Keep w w') : RowsOKc w' rs2 := fun i r hr => by
  obtain ⟨B2, h1, h2, h3⟩ := h i r hr
  exact ⟨B2, h1.kept hO hg, h2.stay hk, h3⟩
end
/-- a matrix, its numbers, its error -/
def RetMc (w : World) (n : Nat) (qss : List (List Rat)) (e : Ending) (w' : World) : Prop :=
  ∃ A c rs, e = .returned (.tuple #[.slice A n c, .int .i64 0]) ∧ Sqr rs n ∧ qOf rs = qss ∧ MRow w' A rs ∧ MFc w' rs ∧ Below w.heap.size w w'
set_option maxHeartbeats 8000000 in
set_option maxRecDepth 100000 in
theorem matrixc_ok {qss : List (List Rat)} (A : Option Addr) (c : Nat) (hs : List HR) (w : World) (H : HL w A hs) (hE : Hid (ChkIs hs 0)) (hq : Hid (matQ hs = qss)) :
    Calls Tryz.prog 27 #[.slice A hs.length c] w (RetMc w hs.length qss) := by
  have h8 := hE.out.ok.1
  have hG := Lib.hid hE.out.ok.2
  have hl : hs.length ≤ 9223372036854775807 := by omega
  go_enter Tryz.func27, Tryz.ntmps27
  go_wp2_with fail
  refine (check_any A c hs _ H hl hE).mono ?_
  rintro e w1 ⟨rfl, hb1⟩
  replace H := H.ext hb1
  have HO := ORow.nil w1 w1.heap.size
  have HR0 := RowsOKc.nil w1
  go_upto_block 5 with fail
  go_loopg [5, 18] hs.length (fun g u i wr => ∃ (j : Nat) (A5 : Option Addr) (c5 : Nat) (rs : List RR), j + g = hs.length ∧ u = .slice A5 j c5 ∧ i = .int .i64 (j : Int) ∧ ORow wr w1.heap.size A5 c5 rs ∧ RowsOKc wr rs ∧ Hid (rs.length = j) ∧ Hid (qOf rs = (matQ hs).take j) ∧ Hid (∀ (i : Nat) (r : RR), rs[i]? = some r → r.fs.length = hs.length) ∧ Below w1.heap.size w1 wr)
  case atStart => exact ⟨0, none, 0, [], by omega, rfl, rfl, HO, HR0, Lib.hid rfl, Lib.hid rfl, Lib.hid (fun i r h => by simp at h), Below.refl _ _⟩
  case round =>
    clear HO HR0
    obtain ⟨j, A5, c5, rs, hj, rfl, rfl, HO, HRs, hrl, hrq, hrn, hbw⟩ := hrel
    by_cases hj0 : j < hs.length
    · have HLr := H.ext hbw
      have hx := Lib.hid (List.getElem?_eq_getElem hj0)
      obtain ⟨ad, rfl, hbk, c0, c1, c2, c3, HEx, hxl⟩ := HLr.at_ hx.out
      have VX := Lib.hid (hG.out.1 _ (List.mem_of_getElem? hx.out))
      have hmt := Lib.hid (matQ_take hx.out)
      generalize hs[j] = x at *
      go_upto_region 8 with fail
      have hb := below_alloc wr (.cells #[.int .i64 x.id, .slice x.A x.l.length x.c, .int .i64 x.f, .int .i64 x.t] 26)
      have HX := (BL.nil wr).new #[.int .i64 x.id, .slice x.A x.l.length x.c, .int .i64 x.f, .int .i64 x.t] 26
      simp only [List.nil_append] at HX
      replace HO := HO.ext hb
      replace HRs := HRs.ext hb
      replace HLr := HLr.ext hb
      replace HEx := HEx.ext hb
      have hsz := hbw.size
      replace hbw := bel_trans hbw hb
      have hg7 := HX.lt 0 rfl
      simp only [] at hg7
      clear hb c0 c1 c2 c3 hbk
      generalize wr.alloc (.cells #[.int .i64 x.id, .slice x.A x.l.length x.c, .int .i64 x.f, .int .i64 x.t] 26) = V7 at *
      generalize wr.heap.size = g7 at *
      have HX : BL V7 V7 [(g7, #[.int .i64 x.id, .slice x.A x.l.length x.c, .int .i64 x.f, .int .i64 x.t], 26)] := ⟨Below.refl _ _, HX.blk⟩
      obtain ⟨B8, hB8⟩ : ∃ B, V7.heap.size = B := ⟨_, rfl⟩
      have HF := FRow.nil V7 B8
      have HK := FKc.nil V7
      go_upto_block 10 with fail
      go_loopg [8, 24] hs.length (fun g u i wr => ∃ (m : Nat) (A8 : Option Addr) (c8 : Nat) (fs : List FE), m + g = hs.length ∧ u = .slice A8 m c8 ∧ i = .int .i64 (m : Int) ∧ FRow wr B8 A8 c8 fs ∧ FKc wr fs (rowQ x (hs.take m)) ∧ BL V7 wr [(g7, #[.int .i64 x.id, .slice x.A x.l.length x.c, .int .i64 x.f, .int .i64 x.t], 26)])
      case atStart => exact ⟨0, none, 0, [], by omega, rfl, rfl, HF, HK, HX⟩
      case round =>
        clear HF HK HX
        obtain ⟨m, A8, c8, fs, hm, rfl, rfl, HF, HK, HX⟩ := hrel
        have hfl := Lib.hid (show fs.length = m by have := HK.len; rw [this, rowQ, List.length_map, List.length_take]; omega)
        by_cases hm0 : m < hs.length
        · have hbv := HX.below
          have hy := Lib.hid (List.getElem?_eq_getElem hm0)
          obtain ⟨ad2, hade, hbk, c0, c1, c2, c3, HEy, hyl⟩ := (HLr.ext hbv).at_ hy.out
          obtain rfl := Option.some.inj hade
          have VY := Lib.hid (hG.out.1 _ (List.mem_of_getElem? hy.out))
          have hrt := Lib.hid (rowQ_take (a := x) hy.out)
          generalize hs[m] = y at *
          obtain ⟨u, hu⟩ : ∃ u, Hid (coD x.l y.l 99 = u) := ⟨_, Lib.hid rfl⟩
          rw [hu.out] at hrt
          have HEx2 := HEx.ext hbv
          go_upto_region 12 with fail
          have hl0 := HX.lt 0 rfl
          simp only [] at hl0
          have hb := below_alloc wr (.cells #[.int .i64 y.id, .slice y.A y.l.length y.c, .int .i64 y.f, .int .i64 y.t] 26)
          replace HX := HX.new #[.int .i64 y.id, .slice y.A y.l.length y.c, .int .i64 y.f, .int .i64 y.t] 26
          simp only [List.cons_append, List.nil_append] at HX
          replace HF := HF.ext hb
          replace HK := HK.ext hb
          replace HEx2 := HEx2.ext hb
          replace HEy := HEy.ext hb
          clear hb c0 c1 c2 c3 hbk hade hbv
          generalize wr.alloc (.cells #[.int .i64 y.id, .slice y.A y.l.length y.c, .int .i64 y.f, .int .i64 y.t] 26) = V8 at *
          generalize wr.heap.size = g8 at *
          have hc00 := HX.cell 0 0 rfl rfl
          have hc01 := HX.cell 0 1 rfl rfl
          have hc02 := HX.cell 0 2 rfl rfl
          have hc03 := HX.cell 0 3 rfl rfl
          try simp only [List.getElem_toArray, List.getElem_cons_zero, List.getElem_cons_succ] at hc00 hc01 hc02 hc03
          have hc10 := HX.cell 1 0 rfl rfl
          have hc11 := HX.cell 1 1 rfl rfl
          have hc12 := HX.cell 1 2 rfl rfl
          have hc13 := HX.cell 1 3 rfl rfl
          try simp only [List.getElem_toArray, List.getElem_cons_zero, List.getElem_cons_succ] at hc10 hc11 hc12 hc13
          go_wp2_with fail
          refine (coef_any x.A y.A x.c y.c x.l y.l _ HEx2 HEy hxl hyl VX.out VY.out hu).mono ?_
          rintro e w9 ⟨A9, c9, B9, d9, rfl, F9, hb⟩
          clear hc00 hc01 hc02 hc03
          clear hc10 hc11 hc12 hc13
          replace HX := HX.ext hb
          replace HF := HF.ext hb
          replace HK := HK.ext hb
          clear hb HEx2 HEy
          have hsz9 := HX.below.size
          go_wp2_with (at_builtin; refine wp_fpush _ rfl _ _ rfl (⟨sg u, A9, (dig (nu u)).length, c9, B9, (dig u.den).length, d9⟩ : FE) rfl hfl.out.symm rfl HF (by rw [hfl.out]; omega) (by omega) ?_)
          intro A11 c11 u11 HF2 hb11 hk11 _
          have hQ2 := (HK.snoc (y := (⟨sg u, A9, (dig (nu u)).length, c9, B9, (dig u.den).length, d9⟩ : FE)) rfl rfl rfl F9).stay hk11
          rw [← hrt.out] at hQ2
          have HX2 : BL V7 u11 [(g7, #[.int .i64 x.id, .slice x.A x.l.length x.c, .int .i64 x.f, .int .i64 x.t], 26)] := ⟨HX.below.trans (by rw [hB8]; exact hb11), fun i p hp => by
            match i, hp with
            | 0, hp => simp at hp; subst hp; rw [hb11.block _ (show g7 < B8 by omega)]; exact HX.blk 0 _ rfl
            | i + 1, hp => simp at hp⟩
          clear hb11 hk11 HX HF HK
          go_wp2
          go_roundg (hs.length - (m + 1))
          case measure => omega
          case rel => exact ⟨m + 1, A11, c11, _, by omega, by go_num, by go_num, HF2, hQ2, HX2⟩
        · obtain rfl : m = hs.length := by omega
          have hbv := HX.below
          rw [List.take_length] at HK
          replace HO := HO.ext hbv
          replace HRs := HRs.ext hbv
          replace hbw := bel_trans hbw hbv
          clear HX
          have hszw := hbw.size
          go_wp2_with (at_builtin; refine wp_rpush _ rfl _ _ rfl (⟨A8, c8, fs, rowQ x hs⟩ : RR) (by show Value.slice A8 fs.length c8 = _; rw [hfl.out]) rfl hrl.out.symm rfl HO (by rw [hrl.out]; omega) (by omega) ?_)
          intro A9 c9 w9 HO2 hgr hb9 hk9
          have HR2 := (HRs.snoc (r := (⟨A8, c8, fs, rowQ x hs⟩ : RR)) HF HK (by show fs.length ≤ _; rw [hfl.out]; omega)).kept HO hgr hk9
          have hb10 : Below w1.heap.size w1 w9 := hbw.trans hb9
          have hrl2 := Lib.hid (show (rs ++ [(⟨A8, c8, fs, rowQ x hs⟩ : RR)]).length = j + 1 by rw [List.length_append, hrl.out]; rfl)
          have hrq2 := Lib.hid (show qOf (rs ++ [(⟨A8, c8, fs, rowQ x hs⟩ : RR)]) = (matQ hs).take (j + 1) by rw [qOf_snoc, hrq.out, hmt.out])
          have hrn2 := Lib.hid (show ∀ (i : Nat) (r : RR), (rs ++ [(⟨A8, c8, fs, rowQ x hs⟩ : RR)])[i]? = some r → r.fs.length = hs.length from fun i r hr => by
            rcases Nat.lt_or_ge i rs.length with hi | hi
            · rw [List.getElem?_append_left hi] at hr
              exact hrn.out i r hr
            · rw [List.getElem?_append_right hi] at hr
              have hi0 : i - rs.length = 0 := by
                have := (List.getElem?_eq_some_iff.1 hr).1
                simp at this; omega
              rw [hi0] at hr
              simp at hr
              subst hr
              exact hfl.out)
          clear hgr hb9 hk9 HO HRs HF HK
          go_wp2
          go_roundg (hs.length - (j + 1))
          case measure => omega
          case rel => exact ⟨j + 1, A9, c9, _, by omega, by go_num, by go_num, HO2, HR2, hrl2, hrq2, hrn2, hb10⟩
    · obtain rfl : j = hs.length := by omega
      have hfin := Lib.hid (show qOf rs = qss by rw [hrq.out, ← hq.out]; exact List.take_of_length_le (by rw [matQ, List.length_map]; omega))
      go_wp2
      go_ret2
      exact ⟨A5, c5, rs, rfl, Sqr.of hrl.out hrn.out rfl, hfin.out, HO.row, HRs.mfc, bel_trans hb1 hbw⟩
set_option maxHeartbeats 8000000 in
set_option maxRecDepth 100000 in
theorem xmatrixc_ok {qss : List (List Rat)} (A : Option Addr) (c : Nat) (hs : List HR) (w : World) (H : HL w A hs) (hE : Hid (ChkIs hs 0)) (hq : Hid (matQ hs = qss)) :
    Calls Tryz.prog 31 #[.slice A hs.length c] w (RetMc w hs.length qss) := by
  have h8 := hE.out.ok.1
  have hG := Lib.hid hE.out.ok.2
  have hl : hs.length ≤ 9223372036854775807 := by omega
  go_enter Tryz.func31, Tryz.ntmps31
  go_wp2_with fail
  refine (xcheck_any A c hs _ H hl hE).mono ?_
  rintro e w1 ⟨rfl, hb1⟩
  replace H := H.ext hb1
  have HO := ORow.nil w1 w1.heap.size
  have HR0 := RowsOKc.nil w1
  go_wp2
  go_loopg [5, 6] hs.length (fun g u i wr => ∃ (j : Nat) (A5 : Option Addr) (c5 : Nat) (rs : List RR), j + g = hs.length ∧ u = .slice A5 j c5 ∧ i = .int .i64 (j : Int) ∧ ORow wr w1.heap.size A5 c5 rs ∧ RowsOKc wr rs ∧ Hid (rs.length = j) ∧ Hid (qOf rs = (matQ hs).take j) ∧ Hid (∀ (i : Nat) (r : RR), rs[i]? = some r → r.fs.length = hs.length) ∧ Below w1.heap.size w1 wr)
  case atStart => exact ⟨0, none, 0, [], by omega, rfl, rfl, HO, HR0, Lib.hid rfl, Lib.hid rfl, Lib.hid (fun i r h => by simp at h), Below.refl _ _⟩
  case round =>
    clear HO HR0
    obtain ⟨j, A5, c5, rs, hj, rfl, rfl, HO, HRs, hrl, hrq, hrn, hbw⟩ := hrel
    by_cases hj0 : j < hs.length
    · have HLr := H.ext hbw
      have hx := Lib.hid (List.getElem?_eq_getElem hj0)
      obtain ⟨ad, rfl, hbk, c0, c1, c2, c3, HEx, hxl⟩ := HLr.at_ hx.out
      have VX := Lib.hid (hG.out.1 _ (List.mem_of_getElem? hx.out))
      have hmt := Lib.hid (matQ_take hx.out)
      generalize hs[j] = x at *
      obtain ⟨V7, hV7⟩ : ∃ V, wr = V := ⟨_, rfl⟩
      rw [hV7] at HO HRs HLr HEx hbw c0 c1 c2 c3 ⊢
      clear hV7 hbk
      have HX := BL.nil V7
      have c00 := c0
      have c10 := c1
      have c20 := c2
      have c30 := c3
      clear c0 c1 c2 c3
      obtain ⟨B8, hB8⟩ : ∃ B, V7.heap.size = B := ⟨_, rfl⟩
      have HF := FRow.nil V7 B8
      have HK := FKc.nil V7
      go_wp2
      go_loopg [7, 8] hs.length (fun g u i wr => ∃ (m : Nat) (A8 : Option Addr) (c8 : Nat) (fs : List FE), m + g = hs.length ∧ u = .slice A8 m c8 ∧ i = .int .i64 (m : Int) ∧ FRow wr B8 A8 c8 fs ∧ FKc wr fs (rowQ x (hs.take m)) ∧ BL V7 wr [])
      case atStart => exact ⟨0, none, 0, [], by omega, rfl, rfl, HF, HK, HX⟩
      case round =>
        clear HF HK HX
        obtain ⟨m, A8, c8, fs, hm, rfl, rfl, HF, HK, HX⟩ := hrel
        have hfl := Lib.hid (show fs.length = m by have := HK.len; rw [this, rowQ, List.length_map, List.length_take]; omega)
        by_cases hm0 : m < hs.length
        · have hbv := HX.below
          have hy := Lib.hid (List.getElem?_eq_getElem hm0)
          obtain ⟨ad2, hade, hbk, c0, c1, c2, c3, HEy, hyl⟩ := (HLr.ext hbv).at_ hy.out
          obtain rfl := Option.some.inj hade
          have VY := Lib.hid (hG.out.1 _ (List.mem_of_getElem? hy.out))
          have hrt := Lib.hid (rowQ_take (a := x) hy.out)
          generalize hs[m] = y at *
          obtain ⟨u, hu⟩ : ∃ u, Hid (coD x.l y.l 99 = u) := ⟨_, Lib.hid rfl⟩
          rw [hu.out] at hrt
          have HEx2 := HEx.ext hbv
          have p0 := below_up hbv c00
          have p1 := below_up hbv c10
          have p2 := below_up hbv c20
          have p3 := below_up hbv c30
          go_upto_region 12 with fail
          go_cut [9] (fun x wx => ∃ (g : Nat) (A : Option Addr) (c : Nat) (B : Option Addr) (d : Nat), x = .pointer (some ⟨g, 0, none⟩) ∧ wr.heap.size ≤ g ∧ Below wr.heap.size wr wx ∧ CB wx g (.bool (sg u)) (.slice A (dig (nu u)).length c) (.slice B (dig u.den).length d) ∧ Fc wx A c B d u 2)
          case first =>
            have HB0 : Below wr.heap.size wr wr.drew := drew_ext wr
            have held : ∀ {W' : World}, Below wr.heap.size wr W' → W'.cell? (ad.add (j * 4)) = some (.int .i64 x.id) ∧ W'.cell? ⟨(ad.add (j * 4)).block, (ad.add (j * 4)).off + 1, none⟩ = some (.slice x.A x.l.length x.c) ∧ W'.cell? ⟨(ad.add (j * 4)).block, (ad.add (j * 4)).off + 2, none⟩ = some (.int .i64 x.f) ∧ W'.cell? ⟨(ad.add (j * 4)).block, (ad.add (j * 4)).off + 3, none⟩ = some (.int .i64 x.t) ∧ W'.cell? (ad.add (m * 4)) = some (.int .i64 y.id) ∧ W'.cell? ⟨(ad.add (m * 4)).block, (ad.add (m * 4)).off + 1, none⟩ = some (.slice y.A y.l.length y.c) ∧ W'.cell? ⟨(ad.add (m * 4)).block, (ad.add (m * 4)).off + 2, none⟩ = some (.int .i64 y.f) ∧ W'.cell? ⟨(ad.add (m * 4)).block, (ad.add (m * 4)).off + 3, none⟩ = some (.int .i64 y.t) := fun hb => ⟨below_up hb p0, below_up hb p1, below_up hb p2, below_up hb p3, below_up hb c0, below_up hb c1, below_up hb c2, below_up hb c3⟩
            go_region_held3 (fun W' => W'.cell? (ad.add (j * 4)) = some (.int .i64 x.id) ∧ W'.cell? ⟨(ad.add (j * 4)).block, (ad.add (j * 4)).off + 1, none⟩ = some (.slice x.A x.l.length x.c) ∧ W'.cell? ⟨(ad.add (j * 4)).block, (ad.add (j * 4)).off + 2, none⟩ = some (.int .i64 x.f) ∧ W'.cell? ⟨(ad.add (j * 4)).block, (ad.add (j * 4)).off + 3, none⟩ = some (.int .i64 x.t) ∧ W'.cell? (ad.add (m * 4)) = some (.int .i64 y.id) ∧ W'.cell? ⟨(ad.add (m * 4)).block, (ad.add (m * 4)).off + 1, none⟩ = some (.slice y.A y.l.length y.c) ∧ W'.cell? ⟨(ad.add (m * 4)).block, (ad.add (m * 4)).off + 2, none⟩ = some (.int .i64 y.f) ∧ W'.cell? ⟨(ad.add (m * 4)).block, (ad.add (m * 4)).off + 3, none⟩ = some (.int .i64 y.t))
              ((refine held ?_; repeat' first | exact HB1 | exact HB0 | exact Below.refl _ _ | refine bel_al ?_ _ | refine bel_dr ?_ | refine bel_set ?_ ?_ _ | omega | (simp <;> omega)))
              (first
          | (go_at_call 28; refine (rcoef_any x.A y.A x.c y.c x.l y.l _ (HEx2.ext (by repeat' first | exact HB0 | exact Below.refl _ _ | refine bel_al ?_ _ | refine bel_dr ?_)) (HEy.ext (by repeat' first | exact HB0 | exact Below.refl _ _ | refine bel_al ?_ _ | refine bel_dr ?_)) hxl hyl VX.out VY.out hu).mono ?_; rintro e w1 ⟨A9, c9, B9, d9, rfl, F9, hb1⟩; have HB1 := bel_trans (a := wr) (by repeat' first | exact HB0 | exact Below.refl _ _ | refine bel_al ?_ _ | refine bel_dr ?_) hb1; have HC1 := bel_trans (a := wr) (by repeat' first | exact HB0 | exact Below.refl _ _ | refine bel_al ?_ _ | refine bel_dr ?_) hb1; have hs1 := HB1.size; have ht1 := HC1.size; (try have f100c : w1.cell? ⟨wr.heap.size, 0, none⟩ = some (.bool false) := by rw [hb1.cell (by first | omega | (simp <;> omega))]; simp [*]); (try have f100f : w1.frozen? ⟨wr.heap.size, 0, none⟩ = false := by rw [hb1.frozen (by first | omega | (simp <;> omega))]; simp [*]); (try have f100c1 : w1.cell? ⟨wr.heap.size, 1, none⟩ = some (.slice none 0 0) := by rw [hb1.cell (by first | omega | (simp <;> omega))]; simp [*]); (try have f100f1 : w1.frozen? ⟨wr.heap.size, 1, none⟩ = false := by rw [hb1.frozen (by first | omega | (simp <;> omega))]; simp [*]); (try have f100c2 : w1.cell? ⟨wr.heap.size, 2, none⟩ = some (.slice none 0 0) := by rw [hb1.cell (by first | omega | (simp <;> omega))]; simp [*]); (try have f100f2 : w1.frozen? ⟨wr.heap.size, 2, none⟩ = false := by rw [hb1.frozen (by first | omega | (simp <;> omega))]; simp [*]); (try have f100d : ∀ o, (w1.alloc o).cell? ⟨wr.heap.size, 0, none⟩ = some (.bool false) := fun o => by rw [(below_alloc w1 o).cell (cell_lt f100c)]; exact f100c); (try have f100g : ∀ o, (w1.alloc o).frozen? ⟨wr.heap.size, 0, none⟩ = false := fun o => by rw [(below_alloc w1 o).frozen (cell_lt f100c)]; exact f100f); (try have f100d1 : ∀ o, (w1.alloc o).cell? ⟨wr.heap.size, 1, none⟩ = some (.slice none 0 0) := fun o => by rw [(below_alloc w1 o).cell (cell_lt f100c1)]; exact f100c1); (try have f100g1 : ∀ o, (w1.alloc o).frozen? ⟨wr.heap.size, 1, none⟩ = false := fun o => by rw [(below_alloc w1 o).frozen (cell_lt f100c1)]; exact f100f1); (try have f100d2 : ∀ o, (w1.alloc o).cell? ⟨wr.heap.size, 2, none⟩ = some (.slice none 0 0) := fun o => by rw [(below_alloc w1 o).cell (cell_lt f100c2)]; exact f100c2); (try have f100g2 : ∀ o, (w1.alloc o).frozen? ⟨wr.heap.size, 2, none⟩ = false := fun o => by rw [(below_alloc w1 o).frozen (cell_lt f100c2)]; exact f100f2); (try have f100x : wr.heap.size < w1.heap.size := cell_lt f100c); (try have f1001 : wr.heap.size ≠ w1.heap.size := Nat.ne_of_lt (cell_lt f100c)); (try have f1002 : w1.heap.size ≠ wr.heap.size := Nat.ne_of_gt (cell_lt f100c))))
            all_goals (
              go_wp2_with fail
              go_meet
              case rel =>
                clear held
                first
                  | (refine ⟨_, A9, c9, B9, d9, rfl, by first | omega | (simp <;> omega), ?_, ⟨al_at rfl _ rfl, al_at rfl _ rfl, al_at rfl _ rfl⟩, F9.ext (below_alloc _ _)⟩
                     repeat' first | with_reducible exact HB1 | with_reducible refine bel_al ?_ _ | with_reducible refine bel_set ?_ ?_ _ | omega | (simp <;> omega))
                  | (refine ⟨_, A9, c9, B9, d9, rfl, by first | omega | (simp <;> omega), ?_, fin3s ?_ ?_ ?_ ?_ F9 _ _ _⟩
                     · repeat' first | with_reducible exact HB1 | with_reducible refine bel_al ?_ _ | with_reducible refine bel_set ?_ ?_ _ | omega | (simp <;> omega)
                     · first | exact Keep.refl _ | exact (Keep.refl _).alloc _
                     · first | assumption | exact al_at rfl _ rfl | (simp; done) | (apply_assumption)
                     · first | assumption | exact al_at rfl _ rfl | (simp; done) | (apply_assumption)
                     · first | assumption | exact al_at rfl _ rfl | (simp; done) | (apply_assumption)))
          case rest =>
          obtain ⟨g9, A9, c9, B9, d9, rfl, hge, hb, hcb9, F9⟩ := hcut
          have hcc0 := hcb9.c0
          have hcc1 := hcb9.c1
          have hcc2 := hcb9.c2
          replace HX := HX.ext hb
          replace HF := HF.ext hb
          replace HK := HK.ext hb
          clear hb hge HEx2 HEy p0 p1 p2 p3 c0 c1 c2 c3 hbk hade hbv
          have hsz9 := HX.below.size
          go_wp2_with (at_builtin; refine wp_fpush _ rfl _ _ rfl (⟨sg u, A9, (dig (nu u)).length, c9, B9, (dig u.den).length, d9⟩ : FE) rfl hfl.out.symm rfl HF (by rw [hfl.out]; omega) (by omega) ?_)
          intro A11 c11 u11 HF2 hb11 hk11 _
          have hQ2 := (HK.snoc (y := (⟨sg u, A9, (dig (nu u)).length, c9, B9, (dig u.den).length, d9⟩ : FE)) rfl rfl rfl F9).stay hk11
          rw [← hrt.out] at hQ2
          have HX2 : BL V7 u11 [] := ⟨HX.below.trans (by rw [hB8]; exact hb11), fun i p hp => by simp at hp⟩
          clear hb11 hk11 HX HF HK hcc0 hcc1 hcc2 hcb9
          go_wp2
          go_roundg (hs.length - (m + 1))
          case measure => omega
          case rel => exact ⟨m + 1, A11, c11, _, by omega, by go_num, by go_num, HF2, hQ2, HX2⟩
        · obtain rfl : m = hs.length := by omega
          have hbv := HX.below
          rw [List.take_length] at HK
          replace HO := HO.ext hbv
          replace HRs := HRs.ext hbv
          replace hbw := bel_trans hbw hbv
          clear HX
          have hszw := hbw.size
          go_wp2_with (at_builtin; refine wp_rpush _ rfl _ _ rfl (⟨A8, c8, fs, rowQ x hs⟩ : RR) (by show Value.slice A8 fs.length c8 = _; rw [hfl.out]) rfl hrl.out.symm rfl HO (by rw [hrl.out]; omega) (by omega) ?_)
          intro A9 c9 w9 HO2 hgr hb9 hk9
          have HR2 := (HRs.snoc (r := (⟨A8, c8, fs, rowQ x hs⟩ : RR)) HF HK (by show fs.length ≤ _; rw [hfl.out]; omega)).kept HO hgr hk9
          have hb10 : Below w1.heap.size w1 w9 := hbw.trans hb9
          have hrl2 := Lib.hid (show (rs ++ [(⟨A8, c8, fs, rowQ x hs⟩ : RR)]).length = j + 1 by rw [List.length_append, hrl.out]; rfl)
          have hrq2 := Lib.hid (show qOf (rs ++ [(⟨A8, c8, fs, rowQ x hs⟩ : RR)]) = (matQ hs).take (j + 1) by rw [qOf_snoc, hrq.out, hmt.out])
          have hrn2 := Lib.hid (show ∀ (i : Nat) (r : RR), (rs ++ [(⟨A8, c8, fs, rowQ x hs⟩ : RR)])[i]? = some r → r.fs.length = hs.length from fun i r hr => by
            rcases Nat.lt_or_ge i rs.length with hi | hi
            · rw [List.getElem?_append_left hi] at hr
              exact hrn.out i r hr
            · rw [List.getElem?_append_right hi] at hr
              have hi0 : i - rs.length = 0 := by
                have := (List.getElem?_eq_some_iff.1 hr).1
                simp at this; omega
              rw [hi0] at hr
              simp at hr
              subst hr
              exact hfl.out)
          clear hgr hb9 hk9 HO HRs HF HK
          go_wp2
          go_roundg (hs.length - (j + 1))
          case measure => omega
          case rel => exact ⟨j + 1, A9, c9, _, by omega, by go_num, by go_num, HO2, HR2, hrl2, hrq2, hrn2, hb10⟩
    · obtain rfl : j = hs.length := by omega
      have hfin := Lib.hid (show qOf rs = qss by rw [hrq.out, ← hq.out]; exact List.take_of_length_le (by rw [matQ, List.length_map]; omega))
      go_wp2
      go_ret2
      exact ⟨A5, c5, rs, rfl, Sqr.of hrl.out hrn.out rfl, hfin.out, HO.row, HRs.mfc, bel_trans hb1 hbw⟩
/-- what Matrix returns, with its error -/
def RetMa (w : World) (qss : List (List Rat)) (E : Int) (e : Ending) (w' : World) : Prop :=
  ∃ A n c rs, e = .returned (.tuple #[.slice A n c, .int .i64 E]) ∧ rs.length = n ∧ qOf rs = qss ∧ MRow w' A rs ∧ MFc w' rs ∧ Below w.heap.size w w'
def maQ (hs : List HR) (E : Int) : List (List Rat) := if E = 0 then matQ hs else []
theorem matrixa_any {E : Int} (A : Option Addr) (c : Nat) (hs : List HR) (w : World) (H : HL w A hs) (hl : hs.length ≤ 9223372036854775807) (hE : Hid (ChkIs hs E)) :
    Calls Tryz.prog 27 #[.slice A hs.length c] w (RetMa w (maQ hs E) E) := by
  by_cases h0 : E = 0
  · subst h0
    refine (matrixc_ok A c hs w H hE (Lib.hid rfl)).mono ?_
    rintro e w' ⟨A1, c1, rs, rfl, hs1, hq, h1, h2, h3⟩
    exact ⟨A1, _, c1, rs, rfl, hs1.1, hq.trans (by rw [maQ, if_pos rfl]), h1, h2, h3⟩
  · refine (matrix_err A c hs w H hl hE (bne_iff_ne.2 h0)).mono ?_
    rintro e w' ⟨rfl, hb⟩
    exact ⟨none, 0, 0, [], rfl, rfl, by rw [maQ, if_neg h0]; rfl, fun h => absurd h (by simp), fun i r h => by simp at h, hb⟩
theorem xmatrixa_any {E : Int} (A : Option Addr) (c : Nat) (hs : List HR) (w : World) (H : HL w A hs) (hl : hs.length ≤ 9223372036854775807) (hE : Hid (ChkIs hs E)) :
    Calls Tryz.prog 31 #[.slice A hs.length c] w (RetMa w (maQ hs E) E) := by
  by_cases h0 : E = 0
  · subst h0
    refine (xmatrixc_ok A c hs w H hE (Lib.hid rfl)).mono ?_
    rintro e w' ⟨A1, c1, rs, rfl, hs1, hq, h1, h2, h3⟩
    exact ⟨A1, _, c1, rs, rfl, hs1.1, hq.trans (by rw [maQ, if_pos rfl]), h1, h2, h3⟩
  · refine (xmatrix_err A c hs w H hl hE (bne_iff_ne.2 h0)).mono ?_
    rintro e w' ⟨rfl, hb⟩
    exact ⟨none, 0, 0, [], rfl, rfl, by rw [maQ, if_neg h0]; rfl, fun h => absurd h (by simp), fun i r h => by simp at h, hb⟩
end Go.Proofs.YthempimelfmipaaGreatDoor

namespace Go.Proofs.YthempimelfmipaaGreatDoor
open Go.RowKit Go.Proofs Go

set_option maxHeartbeats 4000000 in
set_option maxRecDepth 100000 in
theorem bfracs_any {n : Nat} (A A' : Option Addr) (c c' : Nat) (fs fs' : List FE) (qs : List Rat) (w : World) (h : FS w A fs) (h' : FS w A' fs') (hk : FKc w fs qs) (hk' : FKc w fs' qs) (hn : Hid (fs.length = n)) (hn' : Hid (fs'.length = n)) (hl : n ≤ 9223372036854775807) :
    Calls Tryz.prog 73 #[.slice A n c, .slice A' n c'] w (RetB w true) := by
  go_enter Tryz.func73, Tryz.ntmps73
  go_wp2
  go_loopg [5] n (fun g u wr => ∃ j : Nat, j + g = n ∧ u = .int .i64 (j : Int) ∧ Below w.heap.size w wr)
  case atStart => exact ⟨0, by omega, rfl, Below.refl _ _⟩
  case round =>
    obtain ⟨j, hj, rfl, hbw⟩ := hrel
    by_cases hj0 : j < n
    · obtain ⟨x, hx⟩ : ∃ x, Hid (fs[j]? = some x) := ⟨_, Lib.hid (List.getElem?_eq_getElem (show j < fs.length by rw [hn.out]; exact hj0))⟩
      obtain ⟨y, hy⟩ : ∃ y, Hid (fs'[j]? = some y) := ⟨_, Lib.hid (List.getElem?_eq_getElem (show j < fs'.length by rw [hn'.out]; exact hj0))⟩
      obtain ⟨q, hq⟩ : ∃ q, Hid (qs[j]? = some q) := ⟨_, Lib.hid (List.getElem?_eq_getElem (show j < qs.length by rw [← hk.len, hn.out]; exact hj0))⟩
      obtain ⟨e1, e2, e3, Fx⟩ := hk.sh j _ _ hx.out hq.out
      obtain ⟨g1, g2, g3, Fy⟩ := hk'.sh j _ _ hy.out hq.out
      obtain ⟨ad, rfl, hbk, c0, c1, c2⟩ := (h.ext hbw).at_ hx.out
      obtain ⟨ad2, rfl, hbk2, d0, d1, d2⟩ := (h'.ext hbw).at_ hy.out
      rw [e1] at c0
      rw [e2] at c1
      rw [e3] at c2
      rw [g1] at d0
      rw [g2] at d1
      rw [g3] at d2
      replace Fx := Fx.ext hbw
      replace Fy := Fy.ext hbw
      clear e1 e2 e3 g1 g2 g3 hx hy hq
      have HX := BL.nil wr
      have held : ∀ {W' : World}, BL wr W' [] → W'.cell? (ad.add (j * 3)) = some (.bool (sg q)) ∧ W'.cell? ⟨(ad.add (j * 3)).block, (ad.add (j * 3)).off + 1, none⟩ = some (.slice x.A (dig (nu q)).length x.c) ∧ W'.cell? ⟨(ad.add (j * 3)).block, (ad.add (j * 3)).off + 2, none⟩ = some (.slice x.B (dig q.den).length x.d) ∧ W'.cell? (ad2.add (j * 3)) = some (.bool (sg q)) ∧ W'.cell? ⟨(ad2.add (j * 3)).block, (ad2.add (j * 3)).off + 1, none⟩ = some (.slice y.A (dig (nu q)).length y.c) ∧ W'.cell? ⟨(ad2.add (j * 3)).block, (ad2.add (j * 3)).off + 2, none⟩ = some (.slice y.B (dig q.den).length y.d) := fun h => ⟨below_up h.below c0, below_up h.below c1, below_up h.below c2, below_up h.below d0, below_up h.below d1, below_up h.below d2⟩
      replace HX := HX.ext (drew_ext _)
      replace Fx := Fx.ext (drew_ext _)
      replace Fy := Fy.ext (drew_ext _)
      go_upto_region 6 with fail
      go_region_held3 (fun W' => W'.cell? (ad.add (j * 3)) = some (.bool (sg q)) ∧ W'.cell? ⟨(ad.add (j * 3)).block, (ad.add (j * 3)).off + 1, none⟩ = some (.slice x.A (dig (nu q)).length x.c) ∧ W'.cell? ⟨(ad.add (j * 3)).block, (ad.add (j * 3)).off + 2, none⟩ = some (.slice x.B (dig q.den).length x.d) ∧ W'.cell? (ad2.add (j * 3)) = some (.bool (sg q)) ∧ W'.cell? ⟨(ad2.add (j * 3)).block, (ad2.add (j * 3)).off + 1, none⟩ = some (.slice y.A (dig (nu q)).length y.c) ∧ W'.cell? ⟨(ad2.add (j * 3)).block, (ad2.add (j * 3)).off + 2, none⟩ = some (.slice y.B (dig q.den).length y.d))
        (exact held HX)
        (first
          | (go_at_call 14; refine (bfrac_s Fx Fy (by omega) (by omega)).mono ?_; rintro e wz ⟨rfl, hb⟩; replace HX := HX.ext hb; replace Fx := Fx.ext hb; replace Fy := Fy.ext hb; clear hb))
      clear held
      all_goals (
        go_wp2
        go_roundg (n - (j + 1))
        case measure => omega
        case rel => exact ⟨j + 1, by omega, by go_num, bel_trans hbw HX.below⟩)
    · go_wp2
      go_ret
      exact ⟨rfl, hbw⟩
set_option maxHeartbeats 4000000 in
set_option maxRecDepth 100000 in
theorem bmat_any {n : Nat} {qss : List (List Rat)} (A A' : Option Addr) (c c' : Nat) (rs rs' : List RR) (w : World) (h : MRow w A rs) (h' : MRow w A' rs') (hk : MFc w rs) (hk' : MFc w rs') (hn : Hid (rs.length = n)) (hn' : Hid (rs'.length = n)) (hq : Hid (qOf rs = qss)) (hq' : Hid (qOf rs' = qss)) (hl : n ≤ 9223372036854775807) :
    Calls Tryz.prog 35 #[.slice A n c, .slice A' n c'] w (RetB w true) := by
  go_enter Tryz.func35, Tryz.ntmps35
  go_wp2
  go_loopg [5] n (fun g u wr => ∃ j : Nat, j + g = n ∧ u = .int .i64 (j : Int) ∧ Below w.heap.size w wr)
  case atStart => exact ⟨0, by omega, rfl, Below.refl _ _⟩
  case round =>
    obtain ⟨j, hj, rfl, hbw⟩ := hrel
    by_cases hj0 : j < n
    · obtain ⟨x, hx⟩ : ∃ x, Hid (rs[j]? = some x) := ⟨_, Lib.hid (List.getElem?_eq_getElem (show j < rs.length by rw [hn.out]; exact hj0))⟩
      obtain ⟨y, hy⟩ : ∃ y, Hid (rs'[j]? = some y) := ⟨_, Lib.hid (List.getElem?_eq_getElem (show j < rs'.length by rw [hn'.out]; exact hj0))⟩
      have eq := Lib.hid (show x.qs = y.qs by
        have := congrArg (fun l => l[j]?) (hq.out.trans hq'.out.symm)
        simp only [qOf, List.getElem?_map, hx.out, hy.out] at this
        exact Option.some.inj this)
      obtain ⟨ad, rfl, hbk, hc⟩ := (h.ext hbw) (by rw [hn.out]; omega)
      obtain ⟨ad2, rfl, hbk2, hd⟩ := (h'.ext hbw) (by rw [hn'.out]; omega)
      have c0 := hc j _ hx.out
      have d0 := hd j _ hy.out
      obtain ⟨Fx, Kx, lx⟩ := (hk.ext hbw) j _ hx.out
      obtain ⟨Fy, Ky, ly⟩ := (hk'.ext hbw) j _ hy.out
      clear hc hd hx hy
      obtain ⟨k, hkx⟩ : ∃ k, Hid (x.fs.length = k) := ⟨_, Lib.hid rfl⟩
      have hky := Lib.hid (show y.fs.length = k by rw [Ky.len, ← eq.out, ← Kx.len, hkx.out])
      rw [hkx.out] at c0 lx
      rw [hky.out] at d0
      rw [← eq.out] at Ky
      clear eq ly
      have HX := BL.nil wr
      have held : ∀ {W' : World}, BL wr W' [] → W'.cell? (ad.add j) = some (.slice x.A k x.c) ∧ W'.cell? (ad2.add j) = some (.slice y.A k y.c) := fun h => ⟨below_up h.below c0, below_up h.below d0⟩
      replace HX := HX.ext (drew_ext _)
      replace Fx := Fx.ext (drew_ext _)
      replace Fy := Fy.ext (drew_ext _)
      replace Kx := Kx.ext (drew_ext _)
      replace Ky := Ky.ext (drew_ext _)
      go_upto_region 6 with fail
      go_region_held3 (fun W' => W'.cell? (ad.add j) = some (.slice x.A k x.c) ∧ W'.cell? (ad2.add j) = some (.slice y.A k y.c))
        (exact held HX)
        (first
          | (go_at_call 73; refine (bfracs_any x.A y.A x.c y.c x.fs y.fs x.qs _ Fx Fy Kx Ky hkx hky lx).mono ?_; rintro e wz ⟨rfl, hb⟩; replace HX := HX.ext hb; replace Fx := Fx.ext hb; replace Fy := Fy.ext hb; replace Kx := Kx.ext hb; replace Ky := Ky.ext hb; clear hb))
      clear held
      all_goals (
        go_wp2
        go_roundg (n - (j + 1))
        case measure => omega
        case rel => exact ⟨j + 1, by omega, by go_num, bel_trans hbw HX.below⟩)
    · go_wp2
      go_ret
      exact ⟨rfl, hbw⟩
end Go.Proofs.YthempimelfmipaaGreatDoor

namespace Go.Proofs.YthempimelfmipaaGreatDoor
open Go.RowKit Go.Proofs Go

theorem BestIs.len {hs : List HR} {o : List Int} {k E : Int} (h : BestIs hs o k E) : o.length ≤ 6 := by
  obtain ⟨e, _, h⟩ := h
  rcases h with ⟨_, rfl, _⟩ | ⟨_, _, rfl, _⟩ | ⟨_, h6, ⟨lo, hb, _⟩, _⟩
  · simp
  · simp
  · have := (bestO_ord (mq (matQ hs)) h6).len
    rw [hb] at this
    have this : o.length = hs.length := this
    omega
set_option maxHeartbeats 2000000 in
set_option maxRecDepth 100000 in
theorem ls_few {A : Option Addr} {c : Nat} {hs : List HR} {i : Int} (w : World) (hT : Tab w) (H : HL w A hs) (hl : hs.length ≤ 9223372036854775807) (hfew : fewS hs = false) :
    Calls Tryz.prog 8 #[.slice A hs.length c, .int .i64 i] w (RetB w true) := by
  go_enter Tryz.func8, Tryz.ntmps8
  go_wp2_with fail
  refine (awake_any _ hT).mono ?_
  rintro e w1 ⟨rfl, hbx⟩
  replace hT := hT.ext hbx
  replace H := H.ext hbx
  have cF : Calls Tryz.prog 12 #[.slice A hs.length c] w1 (RetB w1 false) := by
    have h := few_any A c hs w1 H hl
    rw [hfew] at h
    exact h
  clear hfew
  go_wp2_with fail
  refine cF.mono ?_
  rintro e w2 ⟨rfl, hb⟩
  clear cF
  replace hT := hT.ext hb
  replace H := H.ext hb
  replace hbx := bel_trans hbx hb
  clear hb
  go_wp2_with fail
  refine (awake_any _ hT).mono ?_
  rintro e wz ⟨rfl, hb⟩
  go_wp2
  go_ret
  exact ⟨rfl, bel_trans hbx hb⟩
set_option maxHeartbeats 8000000 in
set_option maxRecDepth 100000 in
theorem ls_ok {A : Option Addr} {c : Nat} {hs : List HR} {i : Int} (w : World) (hT : Tab w) (H : HL w A hs) (hl : hs.length ≤ 9223372036854775807) (hfew : fewS hs = true) {e k E : Int} {o : List Int} {v E2 : Int} (hE : Hid (ChkIs hs e)) (hN : Hid (NearIs hs i k E)) (hB : Hid (BestIs hs o v E2)) :
    Calls Tryz.prog 8 #[.slice A hs.length c, .int .i64 i] w (RetB w true) := by
  have lo := hB.out.len
  go_enter Tryz.func8, Tryz.ntmps8
  go_wp2_with fail
  refine (awake_any _ hT).mono ?_
  rintro e w1 ⟨rfl, hbx⟩
  replace hT := hT.ext hbx
  replace H := H.ext hbx
  have cF : Calls Tryz.prog 12 #[.slice A hs.length c] w1 (RetB w1 true) := by
    have h := few_any A c hs w1 H hl
    rw [hfew] at h
    exact h
  clear hfew
  go_wp2_with fail
  refine cF.mono ?_
  rintro e w2 ⟨rfl, hb⟩
  clear cF
  replace hT := hT.ext hb
  replace H := H.ext hb
  replace hbx := bel_trans hbx hb
  clear hb
  clear hT
  go_wp2_with fail
  refine (matrixa_any A c hs _ H hl hE).mono ?_
  rintro e w3 ⟨A3, n3, c3, rs3, rfl, ln3, q3, R3, F3, hb⟩
  have L3 := Lib.hid ln3
  have Q3 := Lib.hid q3
  clear ln3 q3
  replace H := H.ext hb
  replace hbx := bel_trans hbx hb
  clear hb
  go_wp2_with fail
  refine (xmatrixa_any A c hs _ H hl hE).mono ?_
  rintro e w4 ⟨A4, n4, c4, rs4, rfl, ln4, q4, R4, F4, hb⟩
  have L4 := Lib.hid ln4
  have Q4 := Lib.hid q4
  clear ln4 q4
  replace H := H.ext hb
  replace R3 := R3.ext hb
  replace F3 := F3.ext hb
  replace hbx := bel_trans hbx hb
  clear hb
  have hnn := Lib.hid (show n3 = n4 by
    have h := congrArg List.length (Q3.out.trans Q4.out.symm)
    rw [qOf, qOf, List.length_map, List.length_map, L3.out, L4.out] at h
    exact h)
  have hn3 := Lib.hid (show n3 ≤ 9223372036854775807 by
    have h := congrArg List.length Q3.out
    rw [qOf, List.length_map, L3.out, maQ] at h
    split at h
    · rw [matQ, List.length_map] at h; omega
    · rw [h]; simp)
  obtain rfl := hnn.out
  go_wp2_with fail
  refine (near_any A c hs _ H hl hN).mono ?_
  rintro e w5 ⟨rfl, hb⟩
  replace H := H.ext hb
  replace R3 := R3.ext hb
  replace F3 := F3.ext hb
  replace R4 := R4.ext hb
  replace F4 := F4.ext hb
  replace hbx := bel_trans hbx hb
  clear hb
  go_wp2_with fail
  refine (xnear_any A c hs _ H hl hN).mono ?_
  rintro e w6 ⟨rfl, hb⟩
  replace H := H.ext hb
  replace R3 := R3.ext hb
  replace F3 := F3.ext hb
  replace R4 := R4.ext hb
  replace F4 := F4.ext hb
  replace hbx := bel_trans hbx hb
  clear hb
  go_wp2_with fail
  refine (best_any A c hs _ H hl hB).mono ?_
  rintro e w7 ⟨A7, c7, rfl, O7, hb⟩
  replace H := H.ext hb
  replace R3 := R3.ext hb
  replace F3 := F3.ext hb
  replace R4 := R4.ext hb
  replace F4 := F4.ext hb
  replace hbx := bel_trans hbx hb
  clear hb
  go_wp2_with fail
  refine (xbest_any A c hs _ H hl hB).mono ?_
  rintro e w8 ⟨A8, c8, rfl, O8, hb⟩
  replace H := H.ext hb
  replace R3 := R3.ext hb
  replace F3 := F3.ext hb
  replace R4 := R4.ext hb
  replace F4 := F4.ext hb
  replace O7 := O7.ext hb
  replace hbx := bel_trans hbx hb
  clear hb
  go_wp2_with fail
  refine (bmat_any A3 A4 c3 c4 rs3 rs4 _ R3 R4 F3 F4 L3 L4 Q3 Q4 hn3.out).mono ?_
  rintro e w9 ⟨rfl, hb⟩
  replace O7 := O7.ext hb
  replace O8 := O8.ext hb
  replace hbx := bel_trans hbx hb
  clear hb
  go_wp2_with fail
  refine (bints_any (b := true) A7 A8 c7 c8 o o _ O7 O8 (by omega) (by omega) (yes rfl)).mono ?_
  rintro e w10 ⟨rfl, hb⟩
  go_wp2
  go_ret
  exact ⟨by first | rfl | simp, bel_trans hbx hb⟩
set_option maxHeartbeats 1000000 in
set_option maxRecDepth 100000 in
theorem listsS_any {A : Option Addr} {c : Nat} {hs : List HR} {i : Int} (w : World) (hT : Tab w) (H : HL w A hs) (hl : hs.length ≤ 9223372036854775807) (_h1 : -9223372036854775808 ≤ i) (_h2 : i ≤ 9223372036854775807) :
    Calls Tryz.prog 8 #[.slice A hs.length c, .int .i64 i] w (RetB w true) := by
  cases hfew : fewS hs with
  | false => exact ls_few w hT H hl hfew
  | true =>
    obtain ⟨e, he⟩ := ChkIs.ex hs
    obtain ⟨k, E, hN⟩ := NearIs.ex hs i
    obtain ⟨o, v, E2, hB⟩ := BestIs.ex hs
    exact ls_ok w hT H hl hfew (Lib.hid he) (Lib.hid hN) (Lib.hid hB)
end Go.Proofs.YthempimelfmipaaGreatDoor
