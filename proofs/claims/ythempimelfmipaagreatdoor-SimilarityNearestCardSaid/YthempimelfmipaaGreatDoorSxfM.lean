/- The statement SimilarityNearest: its walk. -/
import Derived.Test.YthempimelfmipaaGreatDoorSxdM
namespace Go.Proofs.YthempimelfmipaaGreatDoor
open Go.RowKit Go.Proofs Go

/-- the first of the greatest numbers of a row, but for its own place, of the first k -/
def nearTo (f : Nat → Rat) (i : Nat) : Nat → Option Nat
  | 0 => none
  | k + 1 => if k = i then nearTo f i k else match nearTo f i k with
    | none => some k
    | some b => if f b < f k then some k else some b
theorem near_lt {f : Nat → Rat} {i b : Nat} : ∀ {k : Nat}, nearTo f i k = some b → b < k ∧ b ≠ i
  | 0, h => by cases h
  | k + 1, h => by
    rw [nearTo] at h
    by_cases hk : k = i
    · rw [if_pos hk] at h
      have := near_lt h
      exact ⟨by omega, this.2⟩
    · rw [if_neg hk] at h
      cases hn : nearTo f i k with
      | none => rw [hn] at h; obtain rfl := Option.some.inj h; exact ⟨by omega, hk⟩
      | some c =>
        rw [hn] at h
        have h1 := near_lt hn
        have h : (if f c < f k then some k else some c) = some b := h
        split at h
        · obtain rfl := Option.some.inj h; exact ⟨by omega, hk⟩
        · obtain rfl := Option.some.inj h; exact ⟨by omega, h1.2⟩
theorem near_none {f : Nat → Rat} {i : Nat} : ∀ {k : Nat}, nearTo f i k = none → ∀ j, j < k → j = i
  | 0, _, j, hj => by omega
  | k + 1, h, j, hj => by
    rw [nearTo] at h
    by_cases hk : k = i
    · rw [if_pos hk] at h
      by_cases hjk : j < k
      · exact near_none h j hjk
      · omega
    · rw [if_neg hk] at h
      cases hn : nearTo f i k with
      | none => rw [hn] at h; cases h
      | some c =>
        rw [hn] at h
        have h : (if f c < f k then some k else some c) = none := h
        split at h <;> cases h
theorem near_best {f : Nat → Rat} {i b : Nat} : ∀ {k : Nat}, nearTo f i k = some b → ∀ j, j < k → j ≠ i → f j ≤ f b ∧ (f j = f b → b ≤ j)
  | 0, h, _, _, _ => by cases h
  | k + 1, h, j, hj, hji => by
    rw [nearTo] at h
    by_cases hk : k = i
    · rw [if_pos hk] at h
      exact near_best h j (by omega) hji
    · rw [if_neg hk] at h
      cases hn : nearTo f i k with
      | none =>
        rw [hn] at h
        obtain rfl := Option.some.inj h
        have : ¬ j < k := fun h2 => hji (near_none hn j h2)
        obtain rfl : j = k := by omega
        exact ⟨Rat.le_refl, fun _ => Nat.le_refl _⟩
      | some c =>
        rw [hn] at h
        have h : (if f c < f k then some k else some c) = some b := h
        split at h
        · next hc =>
          obtain rfl := Option.some.inj h
          by_cases hjk : j < k
          · have h2 := near_best hn j hjk hji
            have h3 : f j < f k := by
              have h4 := h2.1
              grind
            exact ⟨Rat.le_of_lt h3, fun e => absurd h3 (e ▸ Rat.lt_irrefl)⟩
          · obtain rfl : j = k := by omega
            exact ⟨Rat.le_refl, fun _ => Nat.le_refl _⟩
        · next hc =>
          obtain rfl := Option.some.inj h
          by_cases hjk : j < k
          · exact near_best hn j hjk hji
          · obtain rfl : j = k := by omega
            exact ⟨Rat.not_lt.1 hc, fun _ => by have := near_lt hn; omega⟩
def bI : Option Nat → Int
  | none => -1
  | some b => (b : Int)
/-- what Nearest returns -/
def NearIs (hs : List HR) (i k E : Int) : Prop := ∃ e, ChkIs hs e ∧ ((e ≠ 0 ∧ k = 0 ∧ E = e) ∨ (e = 0 ∧ ¬ (0 ≤ i ∧ i < hs.length) ∧ k = 0 ∧ E = 2) ∨ (e = 0 ∧ (0 ≤ i ∧ i < hs.length) ∧ hs.length = 1 ∧ k = 0 ∧ E = 7) ∨ (e = 0 ∧ (0 ≤ i ∧ i < hs.length) ∧ hs.length ≠ 1 ∧ (∃ b, nearTo (fun j => mq (matQ hs) i (j : Int)) i.toNat hs.length = some b ∧ k = (b : Int)) ∧ E = 0))
theorem near_ex {f : Nat → Rat} {i n : Nat} (h : i < n) (h1 : n ≠ 1) : ∃ b, nearTo f i n = some b := by
  cases hn : nearTo f i n with
  | some b => exact ⟨b, rfl⟩
  | none =>
    have h2 := near_none hn 0 (by omega)
    have h3 := near_none hn 1 (by omega)
    omega
theorem NearIs.ex (hs : List HR) (i : Int) : ∃ k E, NearIs hs i k E := by
  obtain ⟨e, he⟩ := ChkIs.ex hs
  by_cases h0 : e = 0
  · by_cases hi : 0 ≤ i ∧ i < hs.length
    · by_cases h1 : hs.length = 1
      · exact ⟨_, _, e, he, .inr (.inr (.inl ⟨h0, hi, h1, rfl, rfl⟩))⟩
      · obtain ⟨b, hb⟩ := near_ex (f := fun j => mq (matQ hs) i (j : Int)) (i := i.toNat) (n := hs.length) (by omega) h1
        exact ⟨_, _, e, he, .inr (.inr (.inr ⟨h0, hi, h1, ⟨b, hb, rfl⟩, rfl⟩))⟩
    · exact ⟨_, _, e, he, .inr (.inl ⟨h0, hi, rfl, rfl⟩)⟩
  · exact ⟨_, _, e, he, .inl ⟨h0, rfl, rfl⟩⟩
set_option maxHeartbeats 1000000 in
set_option maxRecDepth 100000 in
theorem near_err {E i : Int} (A : Option Addr) (c : Nat) (hs : List HR) (w : World) (H : HL w A hs) (hl : hs.length ≤ 9223372036854775807) (hE : Hid (ChkIs hs E)) (hn : (E != 0) = true) :
    Calls Tryz.prog 32 #[.slice A hs.length c, .int .i64 i] w (RetII w 0 E) := by
  go_enter Tryz.func32, Tryz.ntmps32
  go_wp2_with fail
  refine (matrix_err A c hs _ H hl hE hn).mono ?_
  rintro e w1 ⟨rfl, hb⟩
  go_wp2
  go_ret2
  exact ⟨rfl, hb⟩
set_option maxHeartbeats 1000000 in
set_option maxRecDepth 100000 in
theorem near_out {i : Int} (A : Option Addr) (c : Nat) (hs : List HR) (w : World) (H : HL w A hs) (hE : Hid (ChkIs hs 0)) (hi : ¬ (0 ≤ i ∧ i < hs.length)) :
    Calls Tryz.prog 32 #[.slice A hs.length c, .int .i64 i] w (RetII w 0 2) := by
  by_cases h0 : i < 0
  · have d0 : decide (i < 0) = true := decide_eq_true h0
    go_enter Tryz.func32, Tryz.ntmps32
    go_wp2_with fail
    refine (matrix_ok A c hs _ H hE (Lib.hid rfl)).mono ?_
    rintro e w1 ⟨A1, c1, rs, rfl, _, _, _, hb⟩
    go_wp2
    go_ret2
    exact ⟨rfl, hb⟩
  · have d0 : decide (i < 0) = false := decide_eq_false h0
    have d1 : decide ((hs.length : Int) ≤ i) = true := decide_eq_true (by omega)
    go_enter Tryz.func32, Tryz.ntmps32
    go_wp2_with fail
    refine (matrix_ok A c hs _ H hE (Lib.hid rfl)).mono ?_
    rintro e w1 ⟨A1, c1, rs, rfl, _, _, _, hb⟩
    go_wp2
    go_ret2
    exact ⟨rfl, hb⟩
set_option maxHeartbeats 1000000 in
set_option maxRecDepth 100000 in
theorem near_one {i : Int} (A : Option Addr) (c : Nat) (hs : List HR) (w : World) (H : HL w A hs) (hE : Hid (ChkIs hs 0)) (hi : 0 ≤ i ∧ i < hs.length) (h1 : Hid (hs.length = 1)) :
    Calls Tryz.prog 32 #[.slice A hs.length c, .int .i64 i] w (RetII w 0 7) := by
  have d0 : decide (i < 0) = false := decide_eq_false (by omega)
  have d1 : decide ((hs.length : Int) ≤ i) = false := decide_eq_false (by omega)
  have d2 : ((hs.length : Int) == 1) = true := by rw [beq_iff_eq]; have := h1.out; omega
  have d3 : (hs.length == 1) = true := by rw [beq_iff_eq]; exact h1.out
  go_enter Tryz.func32, Tryz.ntmps32
  go_wp2_with fail
  refine (matrix_ok A c hs _ H hE (Lib.hid rfl)).mono ?_
  rintro e w1 ⟨A1, c1, rs, rfl, _, _, _, hb⟩
  go_wp2
  go_ret2
  exact ⟨rfl, hb⟩
set_option maxHeartbeats 8000000 in
set_option maxRecDepth 100000 in
theorem near_go {i b0 : Nat} (A : Option Addr) (c : Nat) (hs : List HR) (w : World) (H : HL w A hs) (hE : Hid (ChkIs hs 0)) (hi : i < hs.length) (h1 : hs.length ≠ 1) (hb0 : Hid (nearTo (fun j => mq (matQ hs) (i : Int) (j : Int)) i hs.length = some b0)) :
    Calls Tryz.prog 32 #[.slice A hs.length c, .int .i64 (i : Int)] w (RetII w b0 0) := by
  have h8 := hE.out.ok.1
  obtain ⟨f, hf⟩ : ∃ f, Hid ((fun j : Nat => mq (matQ hs) (i : Int) (j : Int)) = f) := ⟨_, Lib.hid rfl⟩
  rw [hf.out] at hb0
  have d0 : decide ((i : Int) < 0) = false := decide_eq_false (by omega)
  have d1 : decide ((hs.length : Int) ≤ (i : Int)) = false := decide_eq_false (by omega)
  have d1b : decide (hs.length ≤ i) = false := decide_eq_false (by omega)
  have d2 : ((hs.length : Int) == 1) = false := by rw [beq_eq_false_iff_ne]; omega
  have d3 : (hs.length == 1) = false := by rw [beq_eq_false_iff_ne]; exact h1
  go_enter Tryz.func32, Tryz.ntmps32
  go_wp2_with fail
  refine (matrix_ok A c hs _ H hE (Lib.hid rfl)).mono ?_
  rintro e w1 ⟨A1, c1, rs, rfl, hs1, hq, HM, hb⟩
  have HS := Lib.hid hs1
  have hfq := Lib.hid (show ∀ j : Nat, mq (qOf rs) (i : Int) (j : Int) = f j from fun j => by rw [hq, ← hf.out])
  clear hs1 hq H
  obtain ⟨ad, ra, rca, fa, qa, hA1, hb1, hb2, ra0, na, FSa, FKa, ea⟩ := HM.rowN HS.out hi
  subst hA1
  have RA0 := ra0
  go_wp2
  go_loopg [8, 38] hs.length (fun g u v wr => ∃ m : Nat, m + g = hs.length ∧ u = .int .i64 (bI (nearTo f i m)) ∧ v = .int .i64 (m : Int) ∧ Below w1.heap.size w1 wr)
  case atStart => exact ⟨0, by omega, rfl, rfl, Below.refl _ _⟩
  case round =>
    obtain ⟨m, hm, rfl, rfl, hbw⟩ := hrel
    by_cases hm0 : m < hs.length
    · obtain ⟨x, x0, x1, x2, Fx⟩ := elN (FSa.ext hbw) (FKa.ext hbw) na hm0
      rw [ea m, hfq.out] at Fx
      have ra0 := below_up hbw RA0
      have HX := BL.nil wr
      go_upto_region 12 with fail
      have hb := below_alloc wr (.cells #[.bool x.s, .slice x.A x.n x.c, .slice x.B x.m x.d] 33)
      replace HX := HX.new #[.bool x.s, .slice x.A x.n x.c, .slice x.B x.m x.d] 33
      simp only [List.nil_append] at HX
      replace Fx := Fx.ext hb
      clear hb x0 x1 x2
      generalize wr.alloc (.cells #[.bool x.s, .slice x.A x.n x.c, .slice x.B x.m x.d] 33) = V9 at *
      generalize wr.heap.size = g9 at *
      by_cases hmi : m = i
      · have hn := Lib.hid (show nearTo f i (m + 1) = nearTo f i m by rw [nearTo, if_pos hmi])
        have hmb : ((m : Int) != (i : Int)) = false := by rw [bne_eq_false_iff_eq]; omega
        have hmb2 : (m != i) = false := by rw [bne_eq_false_iff_eq]; exact hmi
        clear hmi
        obtain ⟨bv, hbv⟩ : ∃ b, bI (nearTo f i m) = b := ⟨_, rfl⟩
        have hn2 := Lib.hid (show bI (nearTo f i (m + 1)) = bv by rw [hn.out, hbv])
        rw [hbv]
        clear hn hbv
        go_quiet (fail)
        have HXq := HX.ext (drew_below (Below.refl _ _) nq)
        go_wp2
        go_roundg (hs.length - (m + 1))
        case measure => omega
        case rel => exact ⟨m + 1, by omega, by rw [hn2.out], by go_num, bel_trans hbw HXq.below⟩
      · have hmb : ((m : Int) != (i : Int)) = true := by rw [bne_iff_ne]; omega
        have hmb2 : (m != i) = true := bne_iff_ne.2 hmi
        cases hnr : nearTo f i m with
        | none =>
          have hn2 := Lib.hid (show bI (nearTo f i (m + 1)) = (m : Int) by rw [nearTo, if_neg hmi, hnr]; rfl)
          rw [show bI none = -1 from rfl]
          clear hnr hmi
          go_quiet (fail)
          have HXq := HX.ext (drew_below (Below.refl _ _) nq)
          go_wp2
          go_roundg (hs.length - (m + 1))
          case measure => omega
          case rel => exact ⟨m + 1, by omega, by rw [hn2.out], by go_num, bel_trans hbw HXq.below⟩
        | some b =>
          obtain ⟨hbm, _⟩ := near_lt hnr
          have hbn : b < hs.length := by omega
          have hb0n : (0 : Int) ≤ (b : Int) := by omega
          obtain ⟨y, y0, y1, y2, Fy⟩ := elN (FSa.ext hbw) (FKa.ext hbw) na hbn
          rw [ea b, hfq.out] at Fy
          replace Fy := Fy.ext HX.below
          obtain ⟨s, H1⟩ : ∃ s, Hid (cmpQ (f m) (f b) = s) := ⟨_, Lib.hid rfl⟩
          have hdb : decide ((b : Int) < 0) = false := decide_eq_false (by omega)
          rw [show bI (some b) = (b : Int) from rfl]
          by_cases hs0 : 0 < s
          · have hsd : decide (0 < s) = true := decide_eq_true hs0
            have hn2 := Lib.hid (show bI (nearTo f i (m + 1)) = (m : Int) by
              rw [nearTo, if_neg hmi, hnr]
              show bI (if f b < f m then some m else some b) = _
              rw [if_pos (cmpQ_pos.1 (by rw [H1.out]; exact hs0))]; rfl)
            clear hnr hmi
            go_upto_region 12 with fail
            have held : ∀ {W' : World}, BL wr W' [(g9, #[.bool x.s, .slice x.A x.n x.c, .slice x.B x.m x.d], 33)] → W'.cell? ⟨g9, 0, none⟩ = some (.bool x.s) ∧ W'.cell? ⟨g9, 1, none⟩ = some (.slice x.A x.n x.c) ∧ W'.cell? ⟨g9, 2, none⟩ = some (.slice x.B x.m x.d) ∧ W'.cell? (ad.add i) = some (.slice (some ra) hs.length rca) ∧ W'.cell? (ra.add (b * 3)) = some (.bool y.s) ∧ W'.cell? ⟨(ra.add (b * 3)).block, (ra.add (b * 3)).off + 1, none⟩ = some (.slice y.A y.n y.c) ∧ W'.cell? ⟨(ra.add (b * 3)).block, (ra.add (b * 3)).off + 2, none⟩ = some (.slice y.B y.m y.d) := fun h => ⟨h.cell 0 0 rfl rfl, h.cell 0 1 rfl rfl, h.cell 0 2 rfl rfl, below_up h.below ra0, below_up h.below y0, below_up h.below y1, below_up h.below y2⟩
            replace HX := HX.ext (drew_ext _)
            replace Fx := Fx.ext (drew_ext _)
            replace Fy := Fy.ext (drew_ext _)
            go_region_held3 (fun W' => W'.cell? ⟨g9, 0, none⟩ = some (.bool x.s) ∧ W'.cell? ⟨g9, 1, none⟩ = some (.slice x.A x.n x.c) ∧ W'.cell? ⟨g9, 2, none⟩ = some (.slice x.B x.m x.d) ∧ W'.cell? (ad.add i) = some (.slice (some ra) hs.length rca) ∧ W'.cell? (ra.add (b * 3)) = some (.bool y.s) ∧ W'.cell? ⟨(ra.add (b * 3)).block, (ra.add (b * 3)).off + 1, none⟩ = some (.slice y.A y.n y.c) ∧ W'.cell? ⟨(ra.add (b * 3)).block, (ra.add (b * 3)).off + 2, none⟩ = some (.slice y.B y.m y.d))
              (exact held HX)
              (first
                | (go_at_call 17; refine (fcmp_h H1 Fx Fy (by omega) (by omega)).mono ?_; rintro e wz ⟨rfl, hb⟩; replace HX := HX.ext hb; replace Fx := Fx.ext hb; replace Fy := Fy.ext hb; clear hb))
            clear held
            all_goals (
              go_wp2
              go_roundg (hs.length - (m + 1))
              case measure => omega
              case rel => exact ⟨m + 1, by omega, by rw [hn2.out], by go_num, bel_trans hbw HX.below⟩)
          · have hsd : decide (0 < s) = false := decide_eq_false hs0
            have hn2 := Lib.hid (show bI (nearTo f i (m + 1)) = (b : Int) by
              rw [nearTo, if_neg hmi, hnr]
              show bI (if f b < f m then some m else some b) = _
              rw [if_neg fun h => hs0 (by rw [← H1.out]; exact cmpQ_pos.2 h)]; rfl)
            clear hnr hmi
            go_upto_region 12 with fail
            have held : ∀ {W' : World}, BL wr W' [(g9, #[.bool x.s, .slice x.A x.n x.c, .slice x.B x.m x.d], 33)] → W'.cell? ⟨g9, 0, none⟩ = some (.bool x.s) ∧ W'.cell? ⟨g9, 1, none⟩ = some (.slice x.A x.n x.c) ∧ W'.cell? ⟨g9, 2, none⟩ = some (.slice x.B x.m x.d) ∧ W'.cell? (ad.add i) = some (.slice (some ra) hs.length rca) ∧ W'.cell? (ra.add (b * 3)) = some (.bool y.s) ∧ W'.cell? ⟨(ra.add (b * 3)).block, (ra.add (b * 3)).off + 1, none⟩ = some (.slice y.A y.n y.c) ∧ W'.cell? ⟨(ra.add (b * 3)).block, (ra.add (b * 3)).off + 2, none⟩ = some (.slice y.B y.m y.d) := fun h => ⟨h.cell 0 0 rfl rfl, h.cell 0 1 rfl rfl, h.cell 0 2 rfl rfl, below_up h.below ra0, below_up h.below y0, below_up h.below y1, below_up h.below y2⟩
            replace HX := HX.ext (drew_ext _)
            replace Fx := Fx.ext (drew_ext _)
            replace Fy := Fy.ext (drew_ext _)
            go_region_held3 (fun W' => W'.cell? ⟨g9, 0, none⟩ = some (.bool x.s) ∧ W'.cell? ⟨g9, 1, none⟩ = some (.slice x.A x.n x.c) ∧ W'.cell? ⟨g9, 2, none⟩ = some (.slice x.B x.m x.d) ∧ W'.cell? (ad.add i) = some (.slice (some ra) hs.length rca) ∧ W'.cell? (ra.add (b * 3)) = some (.bool y.s) ∧ W'.cell? ⟨(ra.add (b * 3)).block, (ra.add (b * 3)).off + 1, none⟩ = some (.slice y.A y.n y.c) ∧ W'.cell? ⟨(ra.add (b * 3)).block, (ra.add (b * 3)).off + 2, none⟩ = some (.slice y.B y.m y.d))
              (exact held HX)
              (first
                | (go_at_call 17; refine (fcmp_h H1 Fx Fy (by omega) (by omega)).mono ?_; rintro e wz ⟨rfl, hb⟩; replace HX := HX.ext hb; replace Fx := Fx.ext hb; replace Fy := Fy.ext hb; clear hb))
            clear held
            all_goals (
              go_wp2
              go_roundg (hs.length - (m + 1))
              case measure => omega
              case rel => exact ⟨m + 1, by omega, by rw [hn2.out], by go_num, bel_trans hbw HX.below⟩)
    · obtain rfl : m = hs.length := by omega
      have hfin := Lib.hid (show bI (nearTo f i hs.length) = (b0 : Int) by rw [hb0.out]; rfl)
      rw [hfin.out]
      go_wp2
      go_ret2
      exact ⟨rfl, bel_trans hb hbw⟩
theorem near_any {i k E : Int} (A : Option Addr) (c : Nat) (hs : List HR) (w : World) (H : HL w A hs) (hl : hs.length ≤ 9223372036854775807) (h : Hid (NearIs hs i k E)) :
    Calls Tryz.prog 32 #[.slice A hs.length c, .int .i64 i] w (RetII w k E) := by
  obtain ⟨e, he, h⟩ := h.out
  rcases h with ⟨h0, rfl, rfl⟩ | ⟨rfl, hi, rfl, rfl⟩ | ⟨rfl, hi, h1, rfl, rfl⟩ | ⟨rfl, hi, h1, ⟨b, hb, rfl⟩, rfl⟩
  · exact near_err A c hs w H hl (Lib.hid he) (bne_iff_ne.2 h0)
  · exact near_out A c hs w H (Lib.hid he) hi
  · exact near_one A c hs w H (Lib.hid he) hi (Lib.hid h1)
  · obtain ⟨i, rfl⟩ := Int.eq_ofNat_of_zero_le hi.1
    exact near_go A c hs w H (Lib.hid he) (by omega) h1 (Lib.hid hb)
end Go.Proofs.YthempimelfmipaaGreatDoor

namespace Go.Proofs.YthempimelfmipaaGreatDoor
open Go.RowKit Go.Proofs Go

theorem NearIs.ok {hs : List HR} {i k : Int} (h : NearIs hs i k 0) : ChkIs hs 0 ∧ ∃ a b : Nat, i = (a : Int) ∧ k = (b : Int) ∧ a < hs.length ∧ b < hs.length ∧ b ≠ a ∧ ∀ j : Nat, j < hs.length → j ≠ a → mq (matQ hs) (a : Int) (j : Int) ≤ mq (matQ hs) (a : Int) (b : Int) ∧ (mq (matQ hs) (a : Int) (j : Int) = mq (matQ hs) (a : Int) (b : Int) → b ≤ j) := by
  obtain ⟨e, he, h⟩ := h
  rcases h with ⟨h0, _, h1⟩ | ⟨_, _, _, h1⟩ | ⟨_, _, _, _, h1⟩ | ⟨rfl, hi, _, ⟨b, hb, rfl⟩, _⟩
  · exact absurd h1.symm h0
  · cases h1
  · cases h1
  · obtain ⟨a, rfl⟩ := Int.eq_ofNat_of_zero_le hi.1
    rw [Int.toNat_natCast] at hb
    obtain ⟨h1, h2⟩ := near_lt hb
    exact ⟨he, a, b, rfl, rfl, by omega, h1, h2, fun j hj hja => near_best (f := fun j : Nat => mq (matQ hs) (a : Int) (j : Int)) hb j hj hja⟩
theorem NearIs.bad {hs : List HR} {i k E : Int} (h : NearIs hs i k E) (hE : E ≠ 0) : k = 0 := by
  obtain ⟨e, _, h⟩ := h
  rcases h with ⟨_, h1, _⟩ | ⟨_, _, h1, _⟩ | ⟨_, _, _, h1, _⟩ | ⟨_, _, _, _, h1⟩
  · exact h1
  · exact h1
  · exact h1
  · exact absurd h1 hE
set_option maxHeartbeats 2000000 in
set_option maxRecDepth 100000 in
theorem nr_few {A : Option Addr} {c : Nat} {hs : List HR} {i : Int} (w : World) (hT : Tab w) (H : HL w A hs) (hl : hs.length ≤ 9223372036854775807) (hfew : fewS hs = false) :
    Calls Tryz.prog 9 #[.slice A hs.length c, .int .i64 i] w (RetB w true) := by
  go_enter Tryz.func9, Tryz.ntmps9
  go_wp2_with fail
  refine (awake_any _ hT).mono ?_
  rintro e w1 ⟨rfl, hbx⟩
  replace hT := hT.ext hbx
  replace H := H.ext hbx
  have cF : Calls Tryz.prog 12 #[.slice A hs.length c] w1 (RetB w1 false) := by
    have h := few_any A c hs w1 H hl
    rw [hfew] at h
    exact h
  clear hfew
  go_wp2_with fail
  refine cF.mono ?_
  rintro e w2 ⟨rfl, hb⟩
  clear cF
  replace hT := hT.ext hb
  replace H := H.ext hb
  replace hbx := bel_trans hbx hb
  clear hb
  go_wp2_with fail
  refine (awake_any _ hT).mono ?_
  rintro e wz ⟨rfl, hb⟩
  go_wp2
  go_ret
  exact ⟨rfl, bel_trans hbx hb⟩
set_option maxHeartbeats 2000000 in
set_option maxRecDepth 100000 in
theorem nr_err {A : Option Addr} {c : Nat} {hs : List HR} {i : Int} (w : World) (hT : Tab w) (H : HL w A hs) (hl : hs.length ≤ 9223372036854775807) (hfew : fewS hs = true) {k E : Int} (hN : Hid (NearIs hs i k E)) (hE : E ≠ 0) :
    Calls Tryz.prog 9 #[.slice A hs.length c, .int .i64 i] w (RetB w true) := by
  obtain rfl := hN.out.bad hE
  have hEb : (E != 0) = true := bne_iff_ne.2 hE
  clear hE
  go_enter Tryz.func9, Tryz.ntmps9
  go_wp2_with fail
  refine (awake_any _ hT).mono ?_
  rintro e w1 ⟨rfl, hbx⟩
  replace hT := hT.ext hbx
  replace H := H.ext hbx
  have cF : Calls Tryz.prog 12 #[.slice A hs.length c] w1 (RetB w1 true) := by
    have h := few_any A c hs w1 H hl
    rw [hfew] at h
    exact h
  clear hfew
  go_wp2_with fail
  refine cF.mono ?_
  rintro e w2 ⟨rfl, hb⟩
  clear cF
  replace hT := hT.ext hb
  replace H := H.ext hb
  replace hbx := bel_trans hbx hb
  clear hb
  go_wp2_with fail
  refine (near_any A c hs _ H hl hN).mono ?_
  rintro e w3 ⟨rfl, hb⟩
  go_wp2
  go_ret
  exact ⟨by first | rfl | simp, bel_trans hbx hb⟩
set_option maxHeartbeats 8000000 in
set_option maxRecDepth 100000 in
theorem nr_ok {A : Option Addr} {c : Nat} {hs : List HR} {i : Int} (w : World) (hT : Tab w) (H : HL w A hs) (hl : hs.length ≤ 9223372036854775807) (hfew : fewS hs = true) {k : Int} (hN : Hid (NearIs hs i k 0)) :
    Calls Tryz.prog 9 #[.slice A hs.length c, .int .i64 i] w (RetB w true) := by
  obtain ⟨hC, a, b, rfl, rfl, ha, hb0, hba, hn⟩ := hN.out.ok
  have hnear := Lib.hid hn
  have hG := Lib.hid hC.ok.2
  obtain ⟨x, hx0⟩ : ∃ x, hs[a]? = some x := ⟨_, List.getElem?_eq_getElem ha⟩
  obtain ⟨z, hz0⟩ : ∃ z, hs[b]? = some z := ⟨_, List.getElem?_eq_getElem hb0⟩
  have hxx := Lib.hid hx0
  have hzz := Lib.hid hz0
  have VX := Lib.hid (hG.out.1 _ (List.mem_of_getElem? hx0))
  have VZ := Lib.hid (hG.out.1 _ (List.mem_of_getElem? hz0))
  clear hC hn hx0 hz0
  have Y1 := yes (show Rng (b : Int) 0 ((hs.length : Int) - 1) from ⟨by omega, by omega⟩)
  have Y2 := yes (show Rng (a : Int) 0 ((hs.length : Int) - 1) from ⟨by omega, by omega⟩)
  have hbab : ((b : Int) == (a : Int)) = false := by rw [beq_eq_false_iff_ne]; omega
  have hbab2 : (b == a) = false := by rw [beq_eq_false_iff_ne]; exact hba
  go_enter Tryz.func9, Tryz.ntmps9
  go_wp2_with fail
  refine (awake_any _ hT).mono ?_
  rintro e w1 ⟨rfl, hbx⟩
  replace hT := hT.ext hbx
  replace H := H.ext hbx
  have cF : Calls Tryz.prog 12 #[.slice A hs.length c] w1 (RetB w1 true) := by
    have h := few_any A c hs w1 H hl
    rw [hfew] at h
    exact h
  clear hfew
  go_wp2_with fail
  refine cF.mono ?_
  rintro e w2 ⟨rfl, hb⟩
  clear cF
  replace hT := hT.ext hb
  replace H := H.ext hb
  replace hbx := bel_trans hbx hb
  clear hb
  go_wp2_with fail
  refine (near_any A c hs _ H hl hN).mono ?_
  rintro e w3 ⟨rfl, hb⟩
  replace hT := hT.ext hb
  replace H := H.ext hb
  replace hbx := bel_trans hbx hb
  clear hb
  clear hT
  go_wp2_with fail
  refine (bin_any (b := true) _ Y1).mono ?_
  rintro e w4 ⟨rfl, hw4⟩
  have hw5 := hw4.symm
  subst hw5
  clear hw4
  go_wp2_with fail
  refine (bin_any (b := true) _ Y2).mono ?_
  rintro e w4 ⟨rfl, hw4⟩
  have hw5 := hw4.symm
  subst hw5
  clear hw4
  obtain ⟨ad, rfl, hbk, p0, p1, p2, p3, EX, hxl⟩ := H.at_ hxx.out
  obtain ⟨ad', hade, _, r0, r1, r2, r3, EZ, hzl⟩ := H.at_ hzz.out
  obtain rfl := Option.some.inj hade
  obtain ⟨q, HQ⟩ : ∃ q, Hid (coD x.l z.l 99 = q) := ⟨_, Lib.hid rfl⟩
  clear hade
  go_upto_region 8 with fail
  go_cut [7, 8] (fun x z wx => ∃ (g : Nat) (A : Option Addr) (c : Nat) (B : Option Addr) (d : Nat), x = .pointer (some ⟨g, 0, none⟩) ∧ w3.heap.size ≤ g ∧ z = .int .i64 0 ∧ Below w3.heap.size w3 wx ∧ CB wx g (.bool (sg q)) (.slice A (dig (nu q)).length c) (.slice B (dig q.den).length d) ∧ Fc wx A c B d q 2)
  case first =>
    have HB0 : Below w3.heap.size w3 w3.drew := drew_ext w3
    have held : ∀ {W' : World}, Below w3.heap.size w3 W' → W'.cell? (ad.add (a * 4)) = some (.int .i64 x.id) ∧ W'.cell? ⟨(ad.add (a * 4)).block, (ad.add (a * 4)).off + 1, none⟩ = some (.slice x.A x.l.length x.c) ∧ W'.cell? ⟨(ad.add (a * 4)).block, (ad.add (a * 4)).off + 2, none⟩ = some (.int .i64 x.f) ∧ W'.cell? ⟨(ad.add (a * 4)).block, (ad.add (a * 4)).off + 3, none⟩ = some (.int .i64 x.t) ∧ W'.cell? (ad.add (b * 4)) = some (.int .i64 z.id) ∧ W'.cell? ⟨(ad.add (b * 4)).block, (ad.add (b * 4)).off + 1, none⟩ = some (.slice z.A z.l.length z.c) ∧ W'.cell? ⟨(ad.add (b * 4)).block, (ad.add (b * 4)).off + 2, none⟩ = some (.int .i64 z.f) ∧ W'.cell? ⟨(ad.add (b * 4)).block, (ad.add (b * 4)).off + 3, none⟩ = some (.int .i64 z.t) := fun hb => ⟨below_up hb p0, below_up hb p1, below_up hb p2, below_up hb p3, below_up hb r0, below_up hb r1, below_up hb r2, below_up hb r3⟩
    go_region_held3 (fun W' => W'.cell? (ad.add (a * 4)) = some (.int .i64 x.id) ∧ W'.cell? ⟨(ad.add (a * 4)).block, (ad.add (a * 4)).off + 1, none⟩ = some (.slice x.A x.l.length x.c) ∧ W'.cell? ⟨(ad.add (a * 4)).block, (ad.add (a * 4)).off + 2, none⟩ = some (.int .i64 x.f) ∧ W'.cell? ⟨(ad.add (a * 4)).block, (ad.add (a * 4)).off + 3, none⟩ = some (.int .i64 x.t) ∧ W'.cell? (ad.add (b * 4)) = some (.int .i64 z.id) ∧ W'.cell? ⟨(ad.add (b * 4)).block, (ad.add (b * 4)).off + 1, none⟩ = some (.slice z.A z.l.length z.c) ∧ W'.cell? ⟨(ad.add (b * 4)).block, (ad.add (b * 4)).off + 2, none⟩ = some (.int .i64 z.f) ∧ W'.cell? ⟨(ad.add (b * 4)).block, (ad.add (b * 4)).off + 3, none⟩ = some (.int .i64 z.t))
      ((refine held ?_; repeat' first | exact HB1 | exact HB0 | exact Below.refl _ _ | refine bel_al ?_ _ | refine bel_dr ?_ | refine bel_set ?_ ?_ _ | omega | (simp <;> omega)))
      (first
            | (go_at_call 13; refine (coeff_any x.A z.A x.c z.c x.l z.l _ (EX.ext (by repeat' first | exact HB0 | exact Below.refl _ _ | refine bel_al ?_ _ | refine bel_dr ?_)) (EZ.ext (by repeat' first | exact HB0 | exact Below.refl _ _ | refine bel_al ?_ _ | refine bel_dr ?_)) hxl hzl VX.out VZ.out HQ).mono ?_; rintro e w1 ⟨A5, c5, B5, d5, rfl, F5, hb1⟩; have HB1 := bel_trans (a := w3) (by repeat' first | exact HB0 | exact Below.refl _ _ | refine bel_al ?_ _ | refine bel_dr ?_) hb1; have HC1 := bel_trans (a := w3) (by repeat' first | exact HB0 | exact Below.refl _ _ | refine bel_al ?_ _ | refine bel_dr ?_) hb1; have hs1 := HB1.size; have ht1 := HC1.size; (try have f100c : w1.cell? ⟨w3.heap.size, 0, none⟩ = some (.bool false) := by rw [hb1.cell (by first | omega | (simp <;> omega))]; simp [*]); (try have f100f : w1.frozen? ⟨w3.heap.size, 0, none⟩ = false := by rw [hb1.frozen (by first | omega | (simp <;> omega))]; simp [*]); (try have f100c1 : w1.cell? ⟨w3.heap.size, 1, none⟩ = some (.slice none 0 0) := by rw [hb1.cell (by first | omega | (simp <;> omega))]; simp [*]); (try have f100f1 : w1.frozen? ⟨w3.heap.size, 1, none⟩ = false := by rw [hb1.frozen (by first | omega | (simp <;> omega))]; simp [*]); (try have f100c2 : w1.cell? ⟨w3.heap.size, 2, none⟩ = some (.slice none 0 0) := by rw [hb1.cell (by first | omega | (simp <;> omega))]; simp [*]); (try have f100f2 : w1.frozen? ⟨w3.heap.size, 2, none⟩ = false := by rw [hb1.frozen (by first | omega | (simp <;> omega))]; simp [*]); (try have f100d : ∀ o, (w1.alloc o).cell? ⟨w3.heap.size, 0, none⟩ = some (.bool false) := fun o => by rw [(below_alloc w1 o).cell (cell_lt f100c)]; exact f100c); (try have f100g : ∀ o, (w1.alloc o).frozen? ⟨w3.heap.size, 0, none⟩ = false := fun o => by rw [(below_alloc w1 o).frozen (cell_lt f100c)]; exact f100f); (try have f100d1 : ∀ o, (w1.alloc o).cell? ⟨w3.heap.size, 1, none⟩ = some (.slice none 0 0) := fun o => by rw [(below_alloc w1 o).cell (cell_lt f100c1)]; exact f100c1); (try have f100g1 : ∀ o, (w1.alloc o).frozen? ⟨w3.heap.size, 1, none⟩ = false := fun o => by rw [(below_alloc w1 o).frozen (cell_lt f100c1)]; exact f100f1); (try have f100d2 : ∀ o, (w1.alloc o).cell? ⟨w3.heap.size, 2, none⟩ = some (.slice none 0 0) := fun o => by rw [(below_alloc w1 o).cell (cell_lt f100c2)]; exact f100c2); (try have f100g2 : ∀ o, (w1.alloc o).frozen? ⟨w3.heap.size, 2, none⟩ = false := fun o => by rw [(below_alloc w1 o).frozen (cell_lt f100c2)]; exact f100f2); (try have f100x : w3.heap.size < w1.heap.size := cell_lt f100c); (try have f1001 : w3.heap.size ≠ w1.heap.size := Nat.ne_of_lt (cell_lt f100c)); (try have f1002 : w1.heap.size ≠ w3.heap.size := Nat.ne_of_gt (cell_lt f100c))))
    all_goals (
      go_wp2_with fail
      go_meet
      case rel =>
        clear held
        first
          | (refine ⟨_, A5, c5, B5, d5, rfl, by first | omega | (simp <;> omega), rfl, ?_, ⟨al_at rfl _ rfl, al_at rfl _ rfl, al_at rfl _ rfl⟩, F5.ext (below_alloc _ _)⟩
             repeat' first | with_reducible exact HB1 | with_reducible refine bel_al ?_ _ | with_reducible refine bel_set ?_ ?_ _ | omega | (simp <;> omega))
          | (refine ⟨_, A5, c5, B5, d5, rfl, by first | omega | (simp <;> omega), rfl, ?_, fin3s ?_ ?_ ?_ ?_ F5 _ _ _⟩
             · repeat' first | with_reducible exact HB1 | with_reducible refine bel_al ?_ _ | with_reducible refine bel_set ?_ ?_ _ | omega | (simp <;> omega)
             · first | exact Keep.refl _ | exact (Keep.refl _).alloc _
             · first | assumption | exact al_at rfl _ rfl | (simp; done) | (apply_assumption)
             · first | assumption | exact al_at rfl _ rfl | (simp; done) | (apply_assumption)
             · first | assumption | exact al_at rfl _ rfl | (simp; done) | (apply_assumption)))
  case rest =>
    obtain ⟨g5, A5, c5, B5, d5, rfl, hge, rfl, hb, hcb5, F5⟩ := hcut
    have hcb := hcb5
    replace p0 := below_up hb p0
    replace p1 := below_up hb p1
    replace p2 := below_up hb p2
    replace p3 := below_up hb p3
    replace EX := EX.ext hb
    have HS0 := H.ext hb
    replace hbx := bel_trans hbx hb
    clear hb hge r0 r1 r2 r3 EZ H hcb5
    obtain ⟨W5, hW5⟩ : ∃ W, wc = W := ⟨_, rfl⟩
    rw [hW5] at p0 p1 p2 p3 EX HS0 hbx hcb F5 ⊢
    clear hW5
    go_wp2
    go_loopg [9] hs.length (fun g v wr => ∃ j : Nat, j + g = hs.length ∧ v = .int .i64 (j : Int) ∧ Below W5.heap.size W5 wr)
    case atStart => exact ⟨0, by omega, rfl, Below.refl _ _⟩
    case round =>
      obtain ⟨j, hj, rfl, hbw⟩ := hrel
      by_cases hj0 : j < hs.length
      · by_cases hja : j = a
        · have hjb : ((j : Int) == (a : Int)) = true := by rw [beq_iff_eq]; omega
          have hjb2 : (j == a) = true := by rw [beq_iff_eq]; exact hja
          clear hja
          go_wp2
          go_roundg (hs.length - (j + 1))
          case measure => omega
          case rel => exact ⟨j + 1, by omega, by go_num, hbw⟩
        · have hjb : ((j : Int) == (a : Int)) = false := by rw [beq_eq_false_iff_ne]; omega
          have hjb2 : (j == a) = false := by rw [beq_eq_false_iff_ne]; exact hja
          have hnd := fun j hj hja => hnear.out j hj hja
          obtain ⟨y, hyx⟩ : ∃ y, hs[j]? = some y := ⟨_, List.getElem?_eq_getElem hj0⟩
          have hy := Lib.hid hyx
          obtain ⟨ad', hade, _, r0, r1, r2, r3, EY, hyl⟩ := (HS0.ext hbw).at_ hy.out
          obtain rfl := Option.some.inj hade
          have p0 := below_up hbw p0
          have p1 := below_up hbw p1
          have p2 := below_up hbw p2
          have p3 := below_up hbw p3
          have EX2 := EX.ext hbw
          have VY := Lib.hid (hG.out.1 _ (List.mem_of_getElem? hy.out))
          obtain ⟨qj, HQj⟩ : ∃ q, Hid (coD x.l y.l 99 = q) := ⟨_, Lib.hid rfl⟩
          obtain ⟨s, Hs⟩ : ∃ s, Hid (cmpQ qj q = s) := ⟨_, Lib.hid rfl⟩
          have hsle : s ≤ 0 ∧ (s = 0 → b ≤ j) := by
            have h1 := hnd j hj0 hja
            rw [mq_matQ hxx.out hy.out, mq_matQ hxx.out hzz.out, HQ.out, HQj.out] at h1
            exact ⟨by rw [← Hs.out]; exact cmpQ_le.2 h1.1, fun h => h1.2 (cmpQ_zero.1 (Hs.out.trans h))⟩
          have hs1 : decide (0 < s) = false := decide_eq_false (by omega)
          have hs2 := hsle.2
          clear hnd hyx hade hja hsle
          go_upto_region 13 with fail
          go_cut [10, 11] (fun x z wx => ∃ (g : Nat) (A : Option Addr) (c : Nat) (B : Option Addr) (d : Nat), x = .pointer (some ⟨g, 0, none⟩) ∧ wr.heap.size ≤ g ∧ z = .int .i64 0 ∧ Below wr.heap.size wr wx ∧ CB wx g (.bool (sg qj)) (.slice A (dig (nu qj)).length c) (.slice B (dig qj.den).length d) ∧ Fc wx A c B d qj 2)
          case first =>
            have HB0 : Below wr.heap.size wr wr.drew := drew_ext wr
            have held : ∀ {W' : World}, Below wr.heap.size wr W' → W'.cell? (ad.add (a * 4)) = some (.int .i64 x.id) ∧ W'.cell? ⟨(ad.add (a * 4)).block, (ad.add (a * 4)).off + 1, none⟩ = some (.slice x.A x.l.length x.c) ∧ W'.cell? ⟨(ad.add (a * 4)).block, (ad.add (a * 4)).off + 2, none⟩ = some (.int .i64 x.f) ∧ W'.cell? ⟨(ad.add (a * 4)).block, (ad.add (a * 4)).off + 3, none⟩ = some (.int .i64 x.t) ∧ W'.cell? (ad.add (j * 4)) = some (.int .i64 y.id) ∧ W'.cell? ⟨(ad.add (j * 4)).block, (ad.add (j * 4)).off + 1, none⟩ = some (.slice y.A y.l.length y.c) ∧ W'.cell? ⟨(ad.add (j * 4)).block, (ad.add (j * 4)).off + 2, none⟩ = some (.int .i64 y.f) ∧ W'.cell? ⟨(ad.add (j * 4)).block, (ad.add (j * 4)).off + 3, none⟩ = some (.int .i64 y.t) := fun hb => ⟨below_up hb p0, below_up hb p1, below_up hb p2, below_up hb p3, below_up hb r0, below_up hb r1, below_up hb r2, below_up hb r3⟩
            go_region_held3 (fun W' => W'.cell? (ad.add (a * 4)) = some (.int .i64 x.id) ∧ W'.cell? ⟨(ad.add (a * 4)).block, (ad.add (a * 4)).off + 1, none⟩ = some (.slice x.A x.l.length x.c) ∧ W'.cell? ⟨(ad.add (a * 4)).block, (ad.add (a * 4)).off + 2, none⟩ = some (.int .i64 x.f) ∧ W'.cell? ⟨(ad.add (a * 4)).block, (ad.add (a * 4)).off + 3, none⟩ = some (.int .i64 x.t) ∧ W'.cell? (ad.add (j * 4)) = some (.int .i64 y.id) ∧ W'.cell? ⟨(ad.add (j * 4)).block, (ad.add (j * 4)).off + 1, none⟩ = some (.slice y.A y.l.length y.c) ∧ W'.cell? ⟨(ad.add (j * 4)).block, (ad.add (j * 4)).off + 2, none⟩ = some (.int .i64 y.f) ∧ W'.cell? ⟨(ad.add (j * 4)).block, (ad.add (j * 4)).off + 3, none⟩ = some (.int .i64 y.t))
              ((refine held ?_; repeat' first | exact HB1 | exact HB0 | exact Below.refl _ _ | refine bel_al ?_ _ | refine bel_dr ?_ | refine bel_set ?_ ?_ _ | omega | (simp <;> omega)))
              (first
                    | (go_at_call 13; refine (coeff_any x.A y.A x.c y.c x.l y.l _ (EX2.ext (by repeat' first | exact HB0 | exact Below.refl _ _ | refine bel_al ?_ _ | refine bel_dr ?_)) (EY.ext (by repeat' first | exact HB0 | exact Below.refl _ _ | refine bel_al ?_ _ | refine bel_dr ?_)) hxl hyl VX.out VY.out HQj).mono ?_; rintro e w1 ⟨A8, c8, B8, d8, rfl, F8, hb1⟩; have HB1 := bel_trans (a := wr) (by repeat' first | exact HB0 | exact Below.refl _ _ | refine bel_al ?_ _ | refine bel_dr ?_) hb1; have HC1 := bel_trans (a := wr) (by repeat' first | exact HB0 | exact Below.refl _ _ | refine bel_al ?_ _ | refine bel_dr ?_) hb1; have hs1 := HB1.size; have ht1 := HC1.size; (try have f100c : w1.cell? ⟨wr.heap.size, 0, none⟩ = some (.bool false) := by rw [hb1.cell (by first | omega | (simp <;> omega))]; simp [*]); (try have f100f : w1.frozen? ⟨wr.heap.size, 0, none⟩ = false := by rw [hb1.frozen (by first | omega | (simp <;> omega))]; simp [*]); (try have f100c1 : w1.cell? ⟨wr.heap.size, 1, none⟩ = some (.slice none 0 0) := by rw [hb1.cell (by first | omega | (simp <;> omega))]; simp [*]); (try have f100f1 : w1.frozen? ⟨wr.heap.size, 1, none⟩ = false := by rw [hb1.frozen (by first | omega | (simp <;> omega))]; simp [*]); (try have f100c2 : w1.cell? ⟨wr.heap.size, 2, none⟩ = some (.slice none 0 0) := by rw [hb1.cell (by first | omega | (simp <;> omega))]; simp [*]); (try have f100f2 : w1.frozen? ⟨wr.heap.size, 2, none⟩ = false := by rw [hb1.frozen (by first | omega | (simp <;> omega))]; simp [*]); (try have f100d : ∀ o, (w1.alloc o).cell? ⟨wr.heap.size, 0, none⟩ = some (.bool false) := fun o => by rw [(below_alloc w1 o).cell (cell_lt f100c)]; exact f100c); (try have f100g : ∀ o, (w1.alloc o).frozen? ⟨wr.heap.size, 0, none⟩ = false := fun o => by rw [(below_alloc w1 o).frozen (cell_lt f100c)]; exact f100f); (try have f100d1 : ∀ o, (w1.alloc o).cell? ⟨wr.heap.size, 1, none⟩ = some (.slice none 0 0) := fun o => by rw [(below_alloc w1 o).cell (cell_lt f100c1)]; exact f100c1); (try have f100g1 : ∀ o, (w1.alloc o).frozen? ⟨wr.heap.size, 1, none⟩ = false := fun o => by rw [(below_alloc w1 o).frozen (cell_lt f100c1)]; exact f100f1); (try have f100d2 : ∀ o, (w1.alloc o).cell? ⟨wr.heap.size, 2, none⟩ = some (.slice none 0 0) := fun o => by rw [(below_alloc w1 o).cell (cell_lt f100c2)]; exact f100c2); (try have f100g2 : ∀ o, (w1.alloc o).frozen? ⟨wr.heap.size, 2, none⟩ = false := fun o => by rw [(below_alloc w1 o).frozen (cell_lt f100c2)]; exact f100f2); (try have f100x : wr.heap.size < w1.heap.size := cell_lt f100c); (try have f1001 : wr.heap.size ≠ w1.heap.size := Nat.ne_of_lt (cell_lt f100c)); (try have f1002 : w1.heap.size ≠ wr.heap.size := Nat.ne_of_gt (cell_lt f100c))))
            all_goals (
              go_wp2_with fail
              go_meet
              case rel =>
                clear held
                first
                  | (refine ⟨_, A8, c8, B8, d8, rfl, by first | omega | (simp <;> omega), rfl, ?_, ⟨al_at rfl _ rfl, al_at rfl _ rfl, al_at rfl _ rfl⟩, F8.ext (below_alloc _ _)⟩
                     repeat' first | with_reducible exact HB1 | with_reducible refine bel_al ?_ _ | with_reducible refine bel_set ?_ ?_ _ | omega | (simp <;> omega))
                  | (refine ⟨_, A8, c8, B8, d8, rfl, by first | omega | (simp <;> omega), rfl, ?_, fin3s ?_ ?_ ?_ ?_ F8 _ _ _⟩
                     · repeat' first | with_reducible exact HB1 | with_reducible refine bel_al ?_ _ | with_reducible refine bel_set ?_ ?_ _ | omega | (simp <;> omega)
                     · first | exact Keep.refl _ | exact (Keep.refl _).alloc _
                     · first | assumption | exact al_at rfl _ rfl | (simp; done) | (apply_assumption)
                     · first | assumption | exact al_at rfl _ rfl | (simp; done) | (apply_assumption)
                     · first | assumption | exact al_at rfl _ rfl | (simp; done) | (apply_assumption)))
          case rest =>
            obtain ⟨g8, A8, c8, B8, d8, rfl, hge, rfl, hb, hcb8, F8⟩ := hcut
            have hcc0 := hcb8.c0
            have hcc1 := hcb8.c1
            have hcc2 := hcb8.c2
            have hq := hcb.ext (bel_trans hbw hb)
            have hd0 := hq.c0
            have hd1 := hq.c1
            have hd2 := hq.c2
            have F5n := F5.ext (bel_trans hbw hb)
            replace hbw := bel_trans hbw hb
            clear hb hge p0 p1 p2 p3 r0 r1 r2 r3 EX2 EY
            go_wp2_with fail
            refine (fcmp_h Hs F8.fr F5n.fr (by omega) (by omega)).mono ?_
            rintro e w8 ⟨rfl, hb⟩
            replace hbw := bel_trans hbw hb
            clear hb hcc0 hcc1 hcc2 hd0 hd1 hd2 hq F5n F8 hcb8
            by_cases hs0 : s = 0
            · subst hs0
              have hjb : decide (j < b) = false := decide_eq_false (by have := hs2 rfl; omega)
              have hjb2 : decide ((j : Int) < (b : Int)) = false := decide_eq_false (by have := hs2 rfl; omega)
              clear hs2
              go_wp2
              go_roundg (hs.length - (j + 1))
              case measure => omega
              case rel => exact ⟨j + 1, by omega, by go_num, hbw⟩
            · have hsb : (s == 0) = false := by rw [beq_eq_false_iff_ne]; exact hs0
              clear hs2 hs0
              go_wp2
              go_roundg (hs.length - (j + 1))
              case measure => omega
              case rel => exact ⟨j + 1, by omega, by go_num, hbw⟩
      · go_wp2
        go_ret
        exact ⟨by first | rfl | simp, bel_trans hbx hbw⟩
set_option maxHeartbeats 1000000 in
set_option maxRecDepth 100000 in
theorem nearestS_any {A : Option Addr} {c : Nat} {hs : List HR} {i : Int} (w : World) (hT : Tab w) (H : HL w A hs) (hl : hs.length ≤ 9223372036854775807) (_h1 : -9223372036854775808 ≤ i) (_h2 : i ≤ 9223372036854775807) :
    Calls Tryz.prog 9 #[.slice A hs.length c, .int .i64 i] w (RetB w true) := by
  cases hfew : fewS hs with
  | false => exact nr_few w hT H hl hfew
  | true =>
    obtain ⟨k, E, hN⟩ := NearIs.ex hs i
    by_cases hE : E = 0
    · subst hE
      exact nr_ok w hT H hl hfew (Lib.hid hN)
    · exact nr_err w hT H hl hfew (Lib.hid hN) hE
end Go.Proofs.YthempimelfmipaaGreatDoor
