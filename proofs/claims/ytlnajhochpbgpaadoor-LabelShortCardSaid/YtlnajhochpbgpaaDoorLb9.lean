/- Pairings: the texts of two labels, and their readers. -/
import Derived.Test.YtlnajhochpbgpaaDoorLb8
import Derived.RegionTactic
import Derived.BigRegion
namespace Go.Proofs.YtlnajhochpbgpaaDoor
open Go.RowKit Go.Proofs Go

/-- an obverse and a reverse label -/
def POk (a b c a' b' c' : Int) : Prop := LOk a b c ∧ LOk a' b' c' ∧ a = 0 ∧ a' = 1
def pairT (a b c a' b' c' : Int) : List UInt8 := labT a b c ++ 47 :: labT a' b' c'
/-- what Pairing returns -/
def PG (a b c a' b' c' : Int) (T : List UInt8) (E : Int) : Prop := (E = 0 ∧ POk a b c a' b' c' ∧ pairT a b c a' b' c' = T) ∨ (E = 1 ∧ T = [] ∧ ¬ POk a b c a' b' c')
theorem PG.ex (a b c a' b' c' : Int) : ∃ T E, PG a b c a' b' c' T E := by
  by_cases h : POk a b c a' b' c'
  · exact ⟨_, 0, .inl ⟨rfl, h, rfl⟩⟩
  · exact ⟨[], 1, .inr ⟨rfl, rfl, h⟩⟩
theorem pairT_len {a b c a' b' c' : Int} (h : POk a b c a' b' c') : (pairT a b c a' b' c').length ≤ 11 := by
  have h1 := labT_len h.1
  have h2 := labT_len h.2.1
  rw [pairT]; simp; omega
theorem PG.len {a b c a' b' c' E : Int} {T : List UInt8} (h : PG a b c a' b' c' T E) : T.length ≤ 11 := by
  rcases h with ⟨_, h1, rfl⟩ | ⟨_, rfl, _⟩
  · exact pairT_len h1
  · simp
theorem labT_not (a b c : Int) (h : LOk a b c) : (47 : UInt8) ∉ labT a b c := by
  intro m
  rw [labT] at m
  rcases List.mem_cons.1 m with m | m
  · rw [sideB] at m; split at m <;> cases m
  · rcases List.mem_append.1 m with m | m
    · exact dz_not rfl _ m
    · rw [stateT] at m
      split at m
      · cases m
      · have e : (UInt8.ofNat (96 + c.toNat)).toNat = 96 + c.toNat := by rw [UInt8.toNat_ofNat']; have := h.2.2; omega
        have := List.mem_singleton.1 m
        rw [← this] at e
        have e47 : (47 : UInt8).toNat = 47 := rfl
        omega
theorem pair_cut {a b c a' b' c' : Int} (h : POk a b c a' b' c') : Lib.cut (pairT a b c a' b' c') [47] = (labT a b c, labT a' b' c', true) := cut_at 47 [] _ _ (labT_not _ _ _ h.1)
theorem pairT_inj {a b c a' b' c' u v x u' v' x' : Int} (h : POk a b c a' b' c') (k : POk u v x u' v' x') (e : pairT a b c a' b' c' = pairT u v x u' v' x') : (a = u ∧ b = v ∧ c = x) ∧ (a' = u' ∧ b' = v' ∧ c' = x') := by
  have e1 := pair_cut h
  rw [e, pair_cut k] at e1
  injection e1 with e2 e3
  injection e3 with e3 _
  obtain ⟨q1, q2, q3⟩ := labT_inj h.1 k.1 e2.symm
  obtain ⟨q4, q5, q6⟩ := labT_inj h.2.1 k.2.1 e3.symm
  exact ⟨⟨q1, q2, q3⟩, q4, q5, q6⟩
/-- what a reader of pairings returns -/
def PPX (L : List UInt8) (a b c a' b' c' E : Int) : Prop :=
  (E = 0 ∧ POk a b c a' b' c' ∧ pairT a b c a' b' c' = L) ∨ (E = 3 ∧ ((a = 0 ∧ b = 0 ∧ c = 0) ∧ (a' = 0 ∧ b' = 0 ∧ c' = 0)) ∧ ∀ a b c a' b' c', POk a b c a' b' c' → pairT a b c a' b' c' ≠ L)
theorem PPX.ex (L : List UInt8) : ∃ a b c a' b' c' E, PPX L a b c a' b' c' E := by
  by_cases h : ∃ a b c a' b' c', POk a b c a' b' c' ∧ pairT a b c a' b' c' = L
  · obtain ⟨a, b, c, a', b', c', h1, h2⟩ := h
    exact ⟨a, b, c, a', b', c', 0, .inl ⟨rfl, h1, h2⟩⟩
  · exact ⟨0, 0, 0, 0, 0, 0, 3, .inr ⟨rfl, ⟨⟨rfl, rfl, rfl⟩, rfl, rfl, rfl⟩, fun a b c a' b' c' h1 h2 => h ⟨a, b, c, a', b', c', h1, h2⟩⟩⟩
theorem PPX.of {L : List UInt8} {a b c a' b' c' E u v x u' v' x' : Int} (h : PPX L a b c a' b' c' E) (k : POk u v x u' v' x') (e : pairT u v x u' v' x' = L) : a = u ∧ b = v ∧ c = x ∧ a' = u' ∧ b' = v' ∧ c' = x' ∧ E = 0 := by
  rcases h with ⟨h1, h2, h3⟩ | ⟨_, _, h3⟩
  · obtain ⟨⟨q1, q2, q3⟩, q4, q5, q6⟩ := pairT_inj h2 k (h3.trans e.symm)
    exact ⟨q1, q2, q3, q4, q5, q6, h1⟩
  · exact absurd e (h3 _ _ _ _ _ _ k)
theorem PPX.not {L : List UInt8} {a b c a' b' c' E : Int} (h : PPX L a b c a' b' c' E) (k : ∀ a b c a' b' c', POk a b c a' b' c' → pairT a b c a' b' c' ≠ L) : a = 0 ∧ b = 0 ∧ c = 0 ∧ a' = 0 ∧ b' = 0 ∧ c' = 0 ∧ E = 3 := by
  rcases h with ⟨_, h2, h3⟩ | ⟨e, ⟨⟨q1, q2, q3⟩, q4, q5, q6⟩, _⟩
  · exact absurd h3 (k _ _ _ _ _ _ h2)
  · exact ⟨q1, q2, q3, q4, q5, q6, e⟩
/-- the implementation's reader -/
theorem PPX.read {L P R T : List UInt8} {d : Bool} {a b c a' b' c' E u v x u' v' x' E1 E2 E3 : Int} (h : PPX L a b c a' b' c' E) (hc : Lib.cut L [47] = (P, R, d)) (h1 : PL P u v x E1) (h2 : PL R u' v' x' E2) (h3 : PG u v x u' v' x' T E3) :
    (E1 = 0 ∧ E2 = 0 ∧ E3 = 0 ∧ T = L ∧ (a = u ∧ b = v ∧ c = x ∧ a' = u' ∧ b' = v' ∧ c' = x') ∧ E = 0) ∨ (¬ (E1 = 0 ∧ E2 = 0 ∧ E3 = 0 ∧ T = L) ∧ (a = 0 ∧ b = 0 ∧ c = 0 ∧ a' = 0 ∧ b' = 0 ∧ c' = 0) ∧ E = 3) := by
  by_cases hk : E1 = 0 ∧ E2 = 0 ∧ E3 = 0 ∧ T = L
  · left
    obtain ⟨rfl, rfl, rfl, rfl⟩ := hk
    rcases h3 with ⟨_, h4, h5⟩ | ⟨h4, _⟩
    · obtain ⟨q1, q2, q3, q4, q5, q6, q7⟩ := h.of h4 h5
      exact ⟨rfl, rfl, rfl, rfl, ⟨q1, q2, q3, q4, q5, q6⟩, q7⟩
    · omega
  · right
    obtain ⟨q1, q2, q3, q4, q5, q6, q7⟩ := h.not (fun a b c a' b' c' hp he => hk (by
      rw [← he, pair_cut hp] at hc
      injection hc with e1 e2
      injection e2 with e2 _
      obtain ⟨r1, r2, r3, r4⟩ := h1.of hp.1 e1
      obtain ⟨s1, s2, s3, s4⟩ := h2.of hp.2.1 e2
      subst r1 r2 r3 s1 s2 s3
      rcases h3 with ⟨h4, _, h5⟩ | ⟨_, _, h5⟩
      · exact ⟨r4, s4, h4, h5.symm.trans he⟩
      · exact absurd hp h5))
    exact ⟨hk, ⟨q1, q2, q3, q4, q5, q6⟩, q7⟩
/-- what Pairing returns -/
def RetPP (w : World) (a b c a' b' c' E : Int) (e : Ending) (w' : World) : Prop := e = .returned (.tuple #[.agg #[.int .i64 a, .int .i64 b, .int .i64 c], .agg #[.int .i64 a', .int .i64 b', .int .i64 c'], .int .i64 E]) ∧ Below w.heap.size w w'
set_option maxHeartbeats 4000000 in
set_option maxRecDepth 100000 in
theorem lpair_any {a b c a' b' c' E : Int} {T : List UInt8} (w : World) (hT : Tab w) (hP : PG a b c a' b' c' T E) :
    Calls Tryd.prog 25 #[.agg #[.int .i64 a, .int .i64 b, .int .i64 c], .agg #[.int .i64 a', .int .i64 b', .int .i64 c']] w (RetR w T E) := by
  have HX := BL.two w #[.int .i64 a, .int .i64 b, .int .i64 c] #[.int .i64 a', .int .i64 b', .int .i64 c'] 23 23
  rcases hP with ⟨rfl, ⟨h1, h2, rfl, rfl⟩, hL⟩ | ⟨rfl, rfl, hn⟩
  · have HV1 := yes h1
    have HV2 := yes h2
    obtain ⟨T1, hT1⟩ : ∃ T1, labT 0 b c = T1 := ⟨_, rfl⟩
    obtain ⟨T2, hT2⟩ : ∃ T2, labT 1 b' c' = T2 := ⟨_, rfl⟩
    have hl1 : T1.length ≤ 5 := hT1 ▸ labT_len h1
    have hl2 : T2.length ≤ 5 := hT2 ▸ labT_len h2
    have hs1 : (str T1).size = T1.length := str_size T1
    have hs2 : (str T2).size = T2.length := str_size T2
    have HT1 : Hid (PT 0 b c T1) := Lib.hid (.inl ⟨h1, hT1⟩)
    have HT2 : Hid (PT 1 b' c' T2) := Lib.hid (.inl ⟨h2, hT2⟩)
    have HL : Hid (str T1 ++ (⟨#[47]⟩ : ByteArray) ++ str T2 = str T) := Lib.hid (by
      rw [← hL, pairT, hT1, hT2, show (⟨#[47]⟩ : ByteArray) = str [47] from rfl, str_append, str_append]; simp)
    clear hT1 hT2 h1 h2 hL
    go_enter Tryd.func25, Tryd.ntmps25
    go_upto_region 1 with fail
    generalize (w.alloc (.cells #[.int .i64 0, .int .i64 b, .int .i64 c] 23)).alloc (.cells #[.int .i64 1, .int .i64 b', .int .i64 c'] 23) = W at *
    have hc00 := HX.cell 0 0 rfl rfl
    have hc01 := HX.cell 0 1 rfl rfl
    have hc02 := HX.cell 0 2 rfl rfl
    try simp only [List.getElem_toArray, List.getElem_cons_zero, List.getElem_cons_succ] at hc00 hc01 hc02
    have hc10 := HX.cell 1 0 rfl rfl
    have hc11 := HX.cell 1 1 rfl rfl
    have hc12 := HX.cell 1 2 rfl rfl
    try simp only [List.getElem_toArray, List.getElem_cons_zero, List.getElem_cons_succ] at hc10 hc11 hc12
    go_wp2_with fail
    refine (lvalid_any (v := true) _ HV1).mono ?_
    rintro e w1 ⟨rfl, hb⟩
    clear hc00 hc01 hc02
    clear hc10 hc11 hc12
    replace HX := HX.ext hb
    clear hb
    have hc00 := HX.cell 0 0 rfl rfl
    have hc01 := HX.cell 0 1 rfl rfl
    have hc02 := HX.cell 0 2 rfl rfl
    try simp only [List.getElem_toArray, List.getElem_cons_zero, List.getElem_cons_succ] at hc00 hc01 hc02
    have hc10 := HX.cell 1 0 rfl rfl
    have hc11 := HX.cell 1 1 rfl rfl
    have hc12 := HX.cell 1 2 rfl rfl
    try simp only [List.getElem_toArray, List.getElem_cons_zero, List.getElem_cons_succ] at hc10 hc11 hc12
    go_wp2_with fail
    refine (lvalid_any (v := true) _ HV2).mono ?_
    rintro e w2 ⟨rfl, hb⟩
    clear hc00 hc01 hc02
    clear hc10 hc11 hc12
    replace HX := HX.ext hb
    clear hb
    have hc00 := HX.cell 0 0 rfl rfl
    have hc01 := HX.cell 0 1 rfl rfl
    have hc02 := HX.cell 0 2 rfl rfl
    try simp only [List.getElem_toArray, List.getElem_cons_zero, List.getElem_cons_succ] at hc00 hc01 hc02
    have hc10 := HX.cell 1 0 rfl rfl
    have hc11 := HX.cell 1 1 rfl rfl
    have hc12 := HX.cell 1 2 rfl rfl
    try simp only [List.getElem_toArray, List.getElem_cons_zero, List.getElem_cons_succ] at hc10 hc11 hc12
    clear hc00 hc01 hc02
    clear hc10 hc11 hc12
    have hcc1 : ¬ 9223372036854775807 < T1.length + 1 := by omega
    have hcc2 : ¬ 9223372036854775807 < T1.length + 1 + T2.length := by omega
    have hc00 := HX.cell 0 0 rfl rfl
    have hc01 := HX.cell 0 1 rfl rfl
    have hc02 := HX.cell 0 2 rfl rfl
    try simp only [List.getElem_toArray, List.getElem_cons_zero, List.getElem_cons_succ] at hc00 hc01 hc02
    have hc10 := HX.cell 1 0 rfl rfl
    have hc11 := HX.cell 1 1 rfl rfl
    have hc12 := HX.cell 1 2 rfl rfl
    try simp only [List.getElem_toArray, List.getElem_cons_zero, List.getElem_cons_succ] at hc10 hc11 hc12
    go_upto_region 3 with fail
    clear hc00 hc01 hc02
    clear hc10 hc11 hc12
    replace HX := HX.ext (drew_ext _)
    have held : ∀ {W' : World}, BL w W' [(w.heap.size, #[.int .i64 0, .int .i64 b, .int .i64 c], 23), (w.heap.size + 1, #[.int .i64 1, .int .i64 b', .int .i64 c'], 23)] → W'.cell? ⟨w.heap.size, 0, none⟩ = some (.int .i64 0) ∧ W'.cell? ⟨w.heap.size, 1, none⟩ = some (.int .i64 b) ∧ W'.cell? ⟨w.heap.size, 2, none⟩ = some (.int .i64 c) ∧ W'.cell? ⟨w.heap.size + 1, 0, none⟩ = some (.int .i64 1) ∧ W'.cell? ⟨w.heap.size + 1, 1, none⟩ = some (.int .i64 b') ∧ W'.cell? ⟨w.heap.size + 1, 2, none⟩ = some (.int .i64 c') := fun h => ⟨h.cell 0 0 rfl rfl, h.cell 0 1 rfl rfl, h.cell 0 2 rfl rfl, h.cell 1 0 rfl rfl, h.cell 1 1 rfl rfl, h.cell 1 2 rfl rfl⟩
    go_region_held3 (fun W' => W'.cell? ⟨w.heap.size, 0, none⟩ = some (.int .i64 0) ∧ W'.cell? ⟨w.heap.size, 1, none⟩ = some (.int .i64 b) ∧ W'.cell? ⟨w.heap.size, 2, none⟩ = some (.int .i64 c) ∧ W'.cell? ⟨w.heap.size + 1, 0, none⟩ = some (.int .i64 1) ∧ W'.cell? ⟨w.heap.size + 1, 1, none⟩ = some (.int .i64 b') ∧ W'.cell? ⟨w.heap.size + 1, 2, none⟩ = some (.int .i64 c'))
      (exact held HX)
      (first
        | (go_at_call_of 12 (Value.agg #[.int .i64 0, .int .i64 b, .int .i64 c]); refine (ltext_any _ (hT.ext HX.below) HT1.out).mono ?_; rintro e w5 ⟨rfl, hb⟩; replace HX := HX.ext hb; clear hb)
        | (go_at_call_of 12 (Value.agg #[.int .i64 1, .int .i64 b', .int .i64 c']); refine (ltext_any _ (hT.ext HX.below) HT2.out).mono ?_; rintro e w6 ⟨rfl, hb⟩; replace HX := HX.ext hb; clear hb))
    all_goals (
      clear hcc1 hcc2
      go_wp2
      go_ret2
      exact ⟨by rw [← HL.out]; rfl, HX.below⟩)
  · by_cases h1 : LOk a b c
    · have HV1 := yes h1
      by_cases h2 : LOk a' b' c'
      · have HV2 := yes h2
        by_cases ha : a = 0
        · have hab : (a != 0) = false := by rw [bne_eq_false_iff_eq]; exact ha
          have ha' : (a' != 1) = true := bne_iff_ne.2 fun e => hn ⟨h1, h2, ha, e⟩
          clear hn h1 h2 ha
          go_enter Tryd.func25, Tryd.ntmps25
          go_upto_region 1 with fail
          generalize (w.alloc (.cells #[.int .i64 a, .int .i64 b, .int .i64 c] 23)).alloc (.cells #[.int .i64 a', .int .i64 b', .int .i64 c'] 23) = W at *
          have hc00 := HX.cell 0 0 rfl rfl
          have hc01 := HX.cell 0 1 rfl rfl
          have hc02 := HX.cell 0 2 rfl rfl
          try simp only [List.getElem_toArray, List.getElem_cons_zero, List.getElem_cons_succ] at hc00 hc01 hc02
          have hc10 := HX.cell 1 0 rfl rfl
          have hc11 := HX.cell 1 1 rfl rfl
          have hc12 := HX.cell 1 2 rfl rfl
          try simp only [List.getElem_toArray, List.getElem_cons_zero, List.getElem_cons_succ] at hc10 hc11 hc12
          go_wp2_with fail
          refine (lvalid_any (v := true) _ HV1).mono ?_
          rintro e w1 ⟨rfl, hb⟩
          clear hc00 hc01 hc02
          clear hc10 hc11 hc12
          replace HX := HX.ext hb
          clear hb
          have hc00 := HX.cell 0 0 rfl rfl
          have hc01 := HX.cell 0 1 rfl rfl
          have hc02 := HX.cell 0 2 rfl rfl
          try simp only [List.getElem_toArray, List.getElem_cons_zero, List.getElem_cons_succ] at hc00 hc01 hc02
          have hc10 := HX.cell 1 0 rfl rfl
          have hc11 := HX.cell 1 1 rfl rfl
          have hc12 := HX.cell 1 2 rfl rfl
          try simp only [List.getElem_toArray, List.getElem_cons_zero, List.getElem_cons_succ] at hc10 hc11 hc12
          go_wp2_with fail
          refine (lvalid_any (v := true) _ HV2).mono ?_
          rintro e w2 ⟨rfl, hb⟩
          clear hc00 hc01 hc02
          clear hc10 hc11 hc12
          replace HX := HX.ext hb
          clear hb
          have hc00 := HX.cell 0 0 rfl rfl
          have hc01 := HX.cell 0 1 rfl rfl
          have hc02 := HX.cell 0 2 rfl rfl
          try simp only [List.getElem_toArray, List.getElem_cons_zero, List.getElem_cons_succ] at hc00 hc01 hc02
          have hc10 := HX.cell 1 0 rfl rfl
          have hc11 := HX.cell 1 1 rfl rfl
          have hc12 := HX.cell 1 2 rfl rfl
          try simp only [List.getElem_toArray, List.getElem_cons_zero, List.getElem_cons_succ] at hc10 hc11 hc12
          go_wp2
          go_ret2
          exact ⟨by first | rfl | simp [str], HX.below⟩
        · have hab : (a != 0) = true := bne_iff_ne.2 ha
          clear hn h1 h2 ha
          go_enter Tryd.func25, Tryd.ntmps25
          go_upto_region 1 with fail
          generalize (w.alloc (.cells #[.int .i64 a, .int .i64 b, .int .i64 c] 23)).alloc (.cells #[.int .i64 a', .int .i64 b', .int .i64 c'] 23) = W at *
          have hc00 := HX.cell 0 0 rfl rfl
          have hc01 := HX.cell 0 1 rfl rfl
          have hc02 := HX.cell 0 2 rfl rfl
          try simp only [List.getElem_toArray, List.getElem_cons_zero, List.getElem_cons_succ] at hc00 hc01 hc02
          have hc10 := HX.cell 1 0 rfl rfl
          have hc11 := HX.cell 1 1 rfl rfl
          have hc12 := HX.cell 1 2 rfl rfl
          try simp only [List.getElem_toArray, List.getElem_cons_zero, List.getElem_cons_succ] at hc10 hc11 hc12
          go_wp2_with fail
          refine (lvalid_any (v := true) _ HV1).mono ?_
          rintro e w1 ⟨rfl, hb⟩
          clear hc00 hc01 hc02
          clear hc10 hc11 hc12
          replace HX := HX.ext hb
          clear hb
          have hc00 := HX.cell 0 0 rfl rfl
          have hc01 := HX.cell 0 1 rfl rfl
          have hc02 := HX.cell 0 2 rfl rfl
          try simp only [List.getElem_toArray, List.getElem_cons_zero, List.getElem_cons_succ] at hc00 hc01 hc02
          have hc10 := HX.cell 1 0 rfl rfl
          have hc11 := HX.cell 1 1 rfl rfl
          have hc12 := HX.cell 1 2 rfl rfl
          try simp only [List.getElem_toArray, List.getElem_cons_zero, List.getElem_cons_succ] at hc10 hc11 hc12
          go_wp2_with fail
          refine (lvalid_any (v := true) _ HV2).mono ?_
          rintro e w2 ⟨rfl, hb⟩
          clear hc00 hc01 hc02
          clear hc10 hc11 hc12
          replace HX := HX.ext hb
          clear hb
          have hc00 := HX.cell 0 0 rfl rfl
          have hc01 := HX.cell 0 1 rfl rfl
          have hc02 := HX.cell 0 2 rfl rfl
          try simp only [List.getElem_toArray, List.getElem_cons_zero, List.getElem_cons_succ] at hc00 hc01 hc02
          have hc10 := HX.cell 1 0 rfl rfl
          have hc11 := HX.cell 1 1 rfl rfl
          have hc12 := HX.cell 1 2 rfl rfl
          try simp only [List.getElem_toArray, List.getElem_cons_zero, List.getElem_cons_succ] at hc10 hc11 hc12
          go_wp2
          go_ret2
          exact ⟨by first | rfl | simp [str], HX.below⟩
      · have HV2 := no h2
        clear hn h1 h2
        go_enter Tryd.func25, Tryd.ntmps25
        go_upto_region 1 with fail
        generalize (w.alloc (.cells #[.int .i64 a, .int .i64 b, .int .i64 c] 23)).alloc (.cells #[.int .i64 a', .int .i64 b', .int .i64 c'] 23) = W at *
        have hc00 := HX.cell 0 0 rfl rfl
        have hc01 := HX.cell 0 1 rfl rfl
        have hc02 := HX.cell 0 2 rfl rfl
        try simp only [List.getElem_toArray, List.getElem_cons_zero, List.getElem_cons_succ] at hc00 hc01 hc02
        have hc10 := HX.cell 1 0 rfl rfl
        have hc11 := HX.cell 1 1 rfl rfl
        have hc12 := HX.cell 1 2 rfl rfl
        try simp only [List.getElem_toArray, List.getElem_cons_zero, List.getElem_cons_succ] at hc10 hc11 hc12
        go_wp2_with fail
        refine (lvalid_any (v := true) _ HV1).mono ?_
        rintro e w1 ⟨rfl, hb⟩
        clear hc00 hc01 hc02
        clear hc10 hc11 hc12
        replace HX := HX.ext hb
        clear hb
        have hc00 := HX.cell 0 0 rfl rfl
        have hc01 := HX.cell 0 1 rfl rfl
        have hc02 := HX.cell 0 2 rfl rfl
        try simp only [List.getElem_toArray, List.getElem_cons_zero, List.getElem_cons_succ] at hc00 hc01 hc02
        have hc10 := HX.cell 1 0 rfl rfl
        have hc11 := HX.cell 1 1 rfl rfl
        have hc12 := HX.cell 1 2 rfl rfl
        try simp only [List.getElem_toArray, List.getElem_cons_zero, List.getElem_cons_succ] at hc10 hc11 hc12
        go_wp2_with fail
        refine (lvalid_any (v := false) _ HV2).mono ?_
        rintro e w2 ⟨rfl, hb⟩
        clear hc00 hc01 hc02
        clear hc10 hc11 hc12
        replace HX := HX.ext hb
        clear hb
        have hc00 := HX.cell 0 0 rfl rfl
        have hc01 := HX.cell 0 1 rfl rfl
        have hc02 := HX.cell 0 2 rfl rfl
        try simp only [List.getElem_toArray, List.getElem_cons_zero, List.getElem_cons_succ] at hc00 hc01 hc02
        have hc10 := HX.cell 1 0 rfl rfl
        have hc11 := HX.cell 1 1 rfl rfl
        have hc12 := HX.cell 1 2 rfl rfl
        try simp only [List.getElem_toArray, List.getElem_cons_zero, List.getElem_cons_succ] at hc10 hc11 hc12
        go_wp2
        go_ret2
        exact ⟨by first | rfl | simp [str], HX.below⟩
    · have HV1 := no h1
      clear hn h1
      go_enter Tryd.func25, Tryd.ntmps25
      go_upto_region 1 with fail
      generalize (w.alloc (.cells #[.int .i64 a, .int .i64 b, .int .i64 c] 23)).alloc (.cells #[.int .i64 a', .int .i64 b', .int .i64 c'] 23) = W at *
      have hc00 := HX.cell 0 0 rfl rfl
      have hc01 := HX.cell 0 1 rfl rfl
      have hc02 := HX.cell 0 2 rfl rfl
      try simp only [List.getElem_toArray, List.getElem_cons_zero, List.getElem_cons_succ] at hc00 hc01 hc02
      have hc10 := HX.cell 1 0 rfl rfl
      have hc11 := HX.cell 1 1 rfl rfl
      have hc12 := HX.cell 1 2 rfl rfl
      try simp only [List.getElem_toArray, List.getElem_cons_zero, List.getElem_cons_succ] at hc10 hc11 hc12
      go_wp2_with fail
      refine (lvalid_any (v := false) _ HV1).mono ?_
      rintro e w1 ⟨rfl, hb⟩
      clear hc00 hc01 hc02
      clear hc10 hc11 hc12
      replace HX := HX.ext hb
      clear hb
      have hc00 := HX.cell 0 0 rfl rfl
      have hc01 := HX.cell 0 1 rfl rfl
      have hc02 := HX.cell 0 2 rfl rfl
      try simp only [List.getElem_toArray, List.getElem_cons_zero, List.getElem_cons_succ] at hc00 hc01 hc02
      have hc10 := HX.cell 1 0 rfl rfl
      have hc11 := HX.cell 1 1 rfl rfl
      have hc12 := HX.cell 1 2 rfl rfl
      try simp only [List.getElem_toArray, List.getElem_cons_zero, List.getElem_cons_succ] at hc10 hc11 hc12
      go_wp2
      go_ret2
      exact ⟨by first | rfl | simp [str], HX.below⟩
set_option maxHeartbeats 4000000 in
set_option maxRecDepth 100000 in
theorem rpair_any {a b c a' b' c' E : Int} {T : List UInt8} (w : World) (hP : PG a b c a' b' c' T E) :
    Calls Tryd.prog 26 #[.agg #[.int .i64 a, .int .i64 b, .int .i64 c], .agg #[.int .i64 a', .int .i64 b', .int .i64 c']] w (RetR w T E) := by
  have HX := BL.two w #[.int .i64 a, .int .i64 b, .int .i64 c] #[.int .i64 a', .int .i64 b', .int .i64 c'] 23 23
  rcases hP with ⟨rfl, ⟨h1, h2, rfl, rfl⟩, hL⟩ | ⟨rfl, rfl, hn⟩
  · have HV1 := yes h1
    have HV2 := yes h2
    obtain ⟨T1, hT1⟩ : ∃ T1, labT 0 b c = T1 := ⟨_, rfl⟩
    obtain ⟨T2, hT2⟩ : ∃ T2, labT 1 b' c' = T2 := ⟨_, rfl⟩
    have hl1 : T1.length ≤ 5 := hT1 ▸ labT_len h1
    have hl2 : T2.length ≤ 5 := hT2 ▸ labT_len h2
    have hs1 : (str T1).size = T1.length := str_size T1
    have hs2 : (str T2).size = T2.length := str_size T2
    have HT1 : Hid (PT 0 b c T1) := Lib.hid (.inl ⟨h1, hT1⟩)
    have HT2 : Hid (PT 1 b' c' T2) := Lib.hid (.inl ⟨h2, hT2⟩)
    have HL : Hid (str T1 ++ (⟨#[47]⟩ : ByteArray) ++ str T2 = str T) := Lib.hid (by
      rw [← hL, pairT, hT1, hT2, show (⟨#[47]⟩ : ByteArray) = str [47] from rfl, str_append, str_append]; simp)
    clear hT1 hT2 h1 h2 hL
    go_enter Tryd.func26, Tryd.ntmps26
    go_upto_region 1 with fail
    generalize (w.alloc (.cells #[.int .i64 0, .int .i64 b, .int .i64 c] 23)).alloc (.cells #[.int .i64 1, .int .i64 b', .int .i64 c'] 23) = W at *
    have hc00 := HX.cell 0 0 rfl rfl
    have hc01 := HX.cell 0 1 rfl rfl
    have hc02 := HX.cell 0 2 rfl rfl
    try simp only [List.getElem_toArray, List.getElem_cons_zero, List.getElem_cons_succ] at hc00 hc01 hc02
    have hc10 := HX.cell 1 0 rfl rfl
    have hc11 := HX.cell 1 1 rfl rfl
    have hc12 := HX.cell 1 2 rfl rfl
    try simp only [List.getElem_toArray, List.getElem_cons_zero, List.getElem_cons_succ] at hc10 hc11 hc12
    go_wp2_with fail
    refine (rvalid_any (v := true) _ HV1).mono ?_
    rintro e w1 ⟨rfl, hb⟩
    clear hc00 hc01 hc02
    clear hc10 hc11 hc12
    replace HX := HX.ext hb
    clear hb
    have hc00 := HX.cell 0 0 rfl rfl
    have hc01 := HX.cell 0 1 rfl rfl
    have hc02 := HX.cell 0 2 rfl rfl
    try simp only [List.getElem_toArray, List.getElem_cons_zero, List.getElem_cons_succ] at hc00 hc01 hc02
    have hc10 := HX.cell 1 0 rfl rfl
    have hc11 := HX.cell 1 1 rfl rfl
    have hc12 := HX.cell 1 2 rfl rfl
    try simp only [List.getElem_toArray, List.getElem_cons_zero, List.getElem_cons_succ] at hc10 hc11 hc12
    go_wp2_with fail
    refine (rvalid_any (v := true) _ HV2).mono ?_
    rintro e w2 ⟨rfl, hb⟩
    clear hc00 hc01 hc02
    clear hc10 hc11 hc12
    replace HX := HX.ext hb
    clear hb
    have hc00 := HX.cell 0 0 rfl rfl
    have hc01 := HX.cell 0 1 rfl rfl
    have hc02 := HX.cell 0 2 rfl rfl
    try simp only [List.getElem_toArray, List.getElem_cons_zero, List.getElem_cons_succ] at hc00 hc01 hc02
    have hc10 := HX.cell 1 0 rfl rfl
    have hc11 := HX.cell 1 1 rfl rfl
    have hc12 := HX.cell 1 2 rfl rfl
    try simp only [List.getElem_toArray, List.getElem_cons_zero, List.getElem_cons_succ] at hc10 hc11 hc12
    clear hc00 hc01 hc02
    clear hc10 hc11 hc12
    have hcc1 : ¬ 9223372036854775807 < T1.length + 1 := by omega
    have hcc2 : ¬ 9223372036854775807 < T1.length + 1 + T2.length := by omega
    have hc00 := HX.cell 0 0 rfl rfl
    have hc01 := HX.cell 0 1 rfl rfl
    have hc02 := HX.cell 0 2 rfl rfl
    try simp only [List.getElem_toArray, List.getElem_cons_zero, List.getElem_cons_succ] at hc00 hc01 hc02
    have hc10 := HX.cell 1 0 rfl rfl
    have hc11 := HX.cell 1 1 rfl rfl
    have hc12 := HX.cell 1 2 rfl rfl
    try simp only [List.getElem_toArray, List.getElem_cons_zero, List.getElem_cons_succ] at hc10 hc11 hc12
    go_upto_region 3 with fail
    clear hc00 hc01 hc02
    clear hc10 hc11 hc12
    replace HX := HX.ext (drew_ext _)
    have held : ∀ {W' : World}, BL w W' [(w.heap.size, #[.int .i64 0, .int .i64 b, .int .i64 c], 23), (w.heap.size + 1, #[.int .i64 1, .int .i64 b', .int .i64 c'], 23)] → W'.cell? ⟨w.heap.size, 0, none⟩ = some (.int .i64 0) ∧ W'.cell? ⟨w.heap.size, 1, none⟩ = some (.int .i64 b) ∧ W'.cell? ⟨w.heap.size, 2, none⟩ = some (.int .i64 c) ∧ W'.cell? ⟨w.heap.size + 1, 0, none⟩ = some (.int .i64 1) ∧ W'.cell? ⟨w.heap.size + 1, 1, none⟩ = some (.int .i64 b') ∧ W'.cell? ⟨w.heap.size + 1, 2, none⟩ = some (.int .i64 c') := fun h => ⟨h.cell 0 0 rfl rfl, h.cell 0 1 rfl rfl, h.cell 0 2 rfl rfl, h.cell 1 0 rfl rfl, h.cell 1 1 rfl rfl, h.cell 1 2 rfl rfl⟩
    go_region_held3 (fun W' => W'.cell? ⟨w.heap.size, 0, none⟩ = some (.int .i64 0) ∧ W'.cell? ⟨w.heap.size, 1, none⟩ = some (.int .i64 b) ∧ W'.cell? ⟨w.heap.size, 2, none⟩ = some (.int .i64 c) ∧ W'.cell? ⟨w.heap.size + 1, 0, none⟩ = some (.int .i64 1) ∧ W'.cell? ⟨w.heap.size + 1, 1, none⟩ = some (.int .i64 b') ∧ W'.cell? ⟨w.heap.size + 1, 2, none⟩ = some (.int .i64 c'))
      (exact held HX)
      (first
        | (go_at_call_of 15 (Value.agg #[.int .i64 0, .int .i64 b, .int .i64 c]); refine (rltext_any _ HT1.out).mono ?_; rintro e w5 ⟨rfl, hb⟩; replace HX := HX.ext hb; clear hb)
        | (go_at_call_of 15 (Value.agg #[.int .i64 1, .int .i64 b', .int .i64 c']); refine (rltext_any _ HT2.out).mono ?_; rintro e w6 ⟨rfl, hb⟩; replace HX := HX.ext hb; clear hb))
    all_goals (
      clear hcc1 hcc2
      go_wp2
      go_ret2
      exact ⟨by rw [← HL.out]; rfl, HX.below⟩)
  · by_cases h1 : LOk a b c
    · have HV1 := yes h1
      by_cases h2 : LOk a' b' c'
      · have HV2 := yes h2
        by_cases ha : a = 0
        · have hab : (a != 0) = false := by rw [bne_eq_false_iff_eq]; exact ha
          have ha' : (a' != 1) = true := bne_iff_ne.2 fun e => hn ⟨h1, h2, ha, e⟩
          clear hn h1 h2 ha
          go_enter Tryd.func26, Tryd.ntmps26
          go_upto_region 1 with fail
          generalize (w.alloc (.cells #[.int .i64 a, .int .i64 b, .int .i64 c] 23)).alloc (.cells #[.int .i64 a', .int .i64 b', .int .i64 c'] 23) = W at *
          have hc00 := HX.cell 0 0 rfl rfl
          have hc01 := HX.cell 0 1 rfl rfl
          have hc02 := HX.cell 0 2 rfl rfl
          try simp only [List.getElem_toArray, List.getElem_cons_zero, List.getElem_cons_succ] at hc00 hc01 hc02
          have hc10 := HX.cell 1 0 rfl rfl
          have hc11 := HX.cell 1 1 rfl rfl
          have hc12 := HX.cell 1 2 rfl rfl
          try simp only [List.getElem_toArray, List.getElem_cons_zero, List.getElem_cons_succ] at hc10 hc11 hc12
          go_wp2_with fail
          refine (rvalid_any (v := true) _ HV1).mono ?_
          rintro e w1 ⟨rfl, hb⟩
          clear hc00 hc01 hc02
          clear hc10 hc11 hc12
          replace HX := HX.ext hb
          clear hb
          have hc00 := HX.cell 0 0 rfl rfl
          have hc01 := HX.cell 0 1 rfl rfl
          have hc02 := HX.cell 0 2 rfl rfl
          try simp only [List.getElem_toArray, List.getElem_cons_zero, List.getElem_cons_succ] at hc00 hc01 hc02
          have hc10 := HX.cell 1 0 rfl rfl
          have hc11 := HX.cell 1 1 rfl rfl
          have hc12 := HX.cell 1 2 rfl rfl
          try simp only [List.getElem_toArray, List.getElem_cons_zero, List.getElem_cons_succ] at hc10 hc11 hc12
          go_wp2_with fail
          refine (rvalid_any (v := true) _ HV2).mono ?_
          rintro e w2 ⟨rfl, hb⟩
          clear hc00 hc01 hc02
          clear hc10 hc11 hc12
          replace HX := HX.ext hb
          clear hb
          have hc00 := HX.cell 0 0 rfl rfl
          have hc01 := HX.cell 0 1 rfl rfl
          have hc02 := HX.cell 0 2 rfl rfl
          try simp only [List.getElem_toArray, List.getElem_cons_zero, List.getElem_cons_succ] at hc00 hc01 hc02
          have hc10 := HX.cell 1 0 rfl rfl
          have hc11 := HX.cell 1 1 rfl rfl
          have hc12 := HX.cell 1 2 rfl rfl
          try simp only [List.getElem_toArray, List.getElem_cons_zero, List.getElem_cons_succ] at hc10 hc11 hc12
          go_wp2
          go_ret2
          exact ⟨by first | rfl | simp [str], HX.below⟩
        · have hab : (a != 0) = true := bne_iff_ne.2 ha
          clear hn h1 h2 ha
          go_enter Tryd.func26, Tryd.ntmps26
          go_upto_region 1 with fail
          generalize (w.alloc (.cells #[.int .i64 a, .int .i64 b, .int .i64 c] 23)).alloc (.cells #[.int .i64 a', .int .i64 b', .int .i64 c'] 23) = W at *
          have hc00 := HX.cell 0 0 rfl rfl
          have hc01 := HX.cell 0 1 rfl rfl
          have hc02 := HX.cell 0 2 rfl rfl
          try simp only [List.getElem_toArray, List.getElem_cons_zero, List.getElem_cons_succ] at hc00 hc01 hc02
          have hc10 := HX.cell 1 0 rfl rfl
          have hc11 := HX.cell 1 1 rfl rfl
          have hc12 := HX.cell 1 2 rfl rfl
          try simp only [List.getElem_toArray, List.getElem_cons_zero, List.getElem_cons_succ] at hc10 hc11 hc12
          go_wp2_with fail
          refine (rvalid_any (v := true) _ HV1).mono ?_
          rintro e w1 ⟨rfl, hb⟩
          clear hc00 hc01 hc02
          clear hc10 hc11 hc12
          replace HX := HX.ext hb
          clear hb
          have hc00 := HX.cell 0 0 rfl rfl
          have hc01 := HX.cell 0 1 rfl rfl
          have hc02 := HX.cell 0 2 rfl rfl
          try simp only [List.getElem_toArray, List.getElem_cons_zero, List.getElem_cons_succ] at hc00 hc01 hc02
          have hc10 := HX.cell 1 0 rfl rfl
          have hc11 := HX.cell 1 1 rfl rfl
          have hc12 := HX.cell 1 2 rfl rfl
          try simp only [List.getElem_toArray, List.getElem_cons_zero, List.getElem_cons_succ] at hc10 hc11 hc12
          go_wp2_with fail
          refine (rvalid_any (v := true) _ HV2).mono ?_
          rintro e w2 ⟨rfl, hb⟩
          clear hc00 hc01 hc02
          clear hc10 hc11 hc12
          replace HX := HX.ext hb
          clear hb
          have hc00 := HX.cell 0 0 rfl rfl
          have hc01 := HX.cell 0 1 rfl rfl
          have hc02 := HX.cell 0 2 rfl rfl
          try simp only [List.getElem_toArray, List.getElem_cons_zero, List.getElem_cons_succ] at hc00 hc01 hc02
          have hc10 := HX.cell 1 0 rfl rfl
          have hc11 := HX.cell 1 1 rfl rfl
          have hc12 := HX.cell 1 2 rfl rfl
          try simp only [List.getElem_toArray, List.getElem_cons_zero, List.getElem_cons_succ] at hc10 hc11 hc12
          go_wp2
          go_ret2
          exact ⟨by first | rfl | simp [str], HX.below⟩
      · have HV2 := no h2
        clear hn h1 h2
        go_enter Tryd.func26, Tryd.ntmps26
        go_upto_region 1 with fail
        generalize (w.alloc (.cells #[.int .i64 a, .int .i64 b, .int .i64 c] 23)).alloc (.cells #[.int .i64 a', .int .i64 b', .int .i64 c'] 23) = W at *
        have hc00 := HX.cell 0 0 rfl rfl
        have hc01 := HX.cell 0 1 rfl rfl
        have hc02 := HX.cell 0 2 rfl rfl
        try simp only [List.getElem_toArray, List.getElem_cons_zero, List.getElem_cons_succ] at hc00 hc01 hc02
        have hc10 := HX.cell 1 0 rfl rfl
        have hc11 := HX.cell 1 1 rfl rfl
        have hc12 := HX.cell 1 2 rfl rfl
        try simp only [List.getElem_toArray, List.getElem_cons_zero, List.getElem_cons_succ] at hc10 hc11 hc12
        go_wp2_with fail
        refine (rvalid_any (v := true) _ HV1).mono ?_
        rintro e w1 ⟨rfl, hb⟩
        clear hc00 hc01 hc02
        clear hc10 hc11 hc12
        replace HX := HX.ext hb
        clear hb
        have hc00 := HX.cell 0 0 rfl rfl
        have hc01 := HX.cell 0 1 rfl rfl
        have hc02 := HX.cell 0 2 rfl rfl
        try simp only [List.getElem_toArray, List.getElem_cons_zero, List.getElem_cons_succ] at hc00 hc01 hc02
        have hc10 := HX.cell 1 0 rfl rfl
        have hc11 := HX.cell 1 1 rfl rfl
        have hc12 := HX.cell 1 2 rfl rfl
        try simp only [List.getElem_toArray, List.getElem_cons_zero, List.getElem_cons_succ] at hc10 hc11 hc12
        go_wp2_with fail
        refine (rvalid_any (v := false) _ HV2).mono ?_
        rintro e w2 ⟨rfl, hb⟩
        clear hc00 hc01 hc02
        clear hc10 hc11 hc12
        replace HX := HX.ext hb
        clear hb
        have hc00 := HX.cell 0 0 rfl rfl
        have hc01 := HX.cell 0 1 rfl rfl
        have hc02 := HX.cell 0 2 rfl rfl
        try simp only [List.getElem_toArray, List.getElem_cons_zero, List.getElem_cons_succ] at hc00 hc01 hc02
        have hc10 := HX.cell 1 0 rfl rfl
        have hc11 := HX.cell 1 1 rfl rfl
        have hc12 := HX.cell 1 2 rfl rfl
        try simp only [List.getElem_toArray, List.getElem_cons_zero, List.getElem_cons_succ] at hc10 hc11 hc12
        go_wp2
        go_ret2
        exact ⟨by first | rfl | simp [str], HX.below⟩
    · have HV1 := no h1
      clear hn h1
      go_enter Tryd.func26, Tryd.ntmps26
      go_upto_region 1 with fail
      generalize (w.alloc (.cells #[.int .i64 a, .int .i64 b, .int .i64 c] 23)).alloc (.cells #[.int .i64 a', .int .i64 b', .int .i64 c'] 23) = W at *
      have hc00 := HX.cell 0 0 rfl rfl
      have hc01 := HX.cell 0 1 rfl rfl
      have hc02 := HX.cell 0 2 rfl rfl
      try simp only [List.getElem_toArray, List.getElem_cons_zero, List.getElem_cons_succ] at hc00 hc01 hc02
      have hc10 := HX.cell 1 0 rfl rfl
      have hc11 := HX.cell 1 1 rfl rfl
      have hc12 := HX.cell 1 2 rfl rfl
      try simp only [List.getElem_toArray, List.getElem_cons_zero, List.getElem_cons_succ] at hc10 hc11 hc12
      go_wp2_with fail
      refine (rvalid_any (v := false) _ HV1).mono ?_
      rintro e w1 ⟨rfl, hb⟩
      clear hc00 hc01 hc02
      clear hc10 hc11 hc12
      replace HX := HX.ext hb
      clear hb
      have hc00 := HX.cell 0 0 rfl rfl
      have hc01 := HX.cell 0 1 rfl rfl
      have hc02 := HX.cell 0 2 rfl rfl
      try simp only [List.getElem_toArray, List.getElem_cons_zero, List.getElem_cons_succ] at hc00 hc01 hc02
      have hc10 := HX.cell 1 0 rfl rfl
      have hc11 := HX.cell 1 1 rfl rfl
      have hc12 := HX.cell 1 2 rfl rfl
      try simp only [List.getElem_toArray, List.getElem_cons_zero, List.getElem_cons_succ] at hc10 hc11 hc12
      go_wp2
      go_ret2
      exact ⟨by first | rfl | simp [str], HX.below⟩
theorem lparse_any {L : List UInt8} {a b c E : Int} (w : World) (hE : Env w) (hl : L.length ≤ 20000) (hP : PL L a b c E) : Calls Tryd.prog 16 #[.string (str L)] w (RetL w a b c E) := by
  cases L with
  | nil => exact lparse_nil w hP
  | cons x r => exact lparse_cons w hE hl hP
theorem rparse_any5 {L : List UInt8} {a b c E : Int} (w : World) (hl : L.length ≤ 20000) (hP : PL L a b c E) : Calls Tryd.prog 17 #[.string (str L)] w (RetL w a b c E) := by
  cases L with
  | nil => exact rparse_nil w hP
  | cons x r => exact rparse_cons w hl hP
theorem PL.code {L : List UInt8} {a b c E : Int} (h : PL L a b c E) : E = 0 ∨ E = 3 := by rcases h with ⟨h, _⟩ | ⟨h, _⟩ <;> omega
theorem PG.code {a b c a' b' c' E : Int} {T : List UInt8} (h : PG a b c a' b' c' T E) : E = 0 ∨ E = 1 := by rcases h with ⟨h, _⟩ | ⟨h, _⟩ <;> omega
set_option maxHeartbeats 8000000 in
set_option maxRecDepth 100000 in
theorem lpp_any {L : List UInt8} {a b c a' b' c' E : Int} (w : World) (hE : Env w) (hl : L.length ≤ 20000) (hP : PPX L a b c a' b' c' E) :
    Calls Tryd.prog 27 #[.string (str L)] w (RetPP w a b c a' b' c' E) := by
  obtain ⟨⟨P, R, d⟩, hcut⟩ : ∃ q, Lib.cut L [47] = q := ⟨_, rfl⟩
  have hcl := cut_len L 47
  rw [hcut] at hcl
  simp only [] at hcl
  have hPl : P.length ≤ 20000 := by omega
  have hRl : R.length ≤ 20000 := by omega
  obtain ⟨u, v, x, E1, h1⟩ := PL.ex P
  obtain ⟨u', v', x', E2, h2⟩ := PL.ex R
  obtain ⟨T, E3, h3⟩ := PG.ex u v x u' v' x'
  have hfin := Lib.hid (hP.read hcut h1 h2 h3)
  have hTl := h3.len
  have hsT : (str T).size = T.length := str_size T
  have hsL : (str L).size = L.length := str_size L
  have HCUT := Lib.hid hcut
  have H1 := Lib.hid h1
  have H2 := Lib.hid h2
  have H3 := Lib.hid h3
  clear hcut hcl hP h1 h2 h3
  have HX := BL.two w #[.int .i64 0, .int .i64 0, .int .i64 0] #[.int .i64 0, .int .i64 0, .int .i64 0] 23 23
  go_enter Tryd.func27, Tryd.ntmps27
  go_upto_region 1 with fail
  generalize (w.alloc (.cells #[.int .i64 0, .int .i64 0, .int .i64 0] 23)).alloc (.cells #[.int .i64 0, .int .i64 0, .int .i64 0] 23) = W1 at *
  go_wp2_with fail
  refine (cut_h _ HCUT (hE.ext HX.below) (by omega)).mono ?_
  rintro e w2 ⟨rfl, hb⟩
  replace HX := HX.ext hb
  clear hb
  go_wp2_with fail
  refine (lparse_any _ (hE.ext HX.below) hPl H1.out).mono ?_
  rintro e w3 ⟨rfl, hb⟩
  replace HX := HX.ext hb
  clear hb
  go_upto_region 3 with fail
  have hlg20 := HX.lt 0 rfl
  simp only [] at hlg20
  have hlg21 := HX.lt 1 rfl
  simp only [] at hlg21
  replace HX := HX.new #[.int .i64 u, .int .i64 v, .int .i64 x] 23
  simp only [List.cons_append, List.nil_append] at HX
  generalize w3.alloc (.cells #[.int .i64 u, .int .i64 v, .int .i64 x] 23) = W3 at *
  generalize w3.heap.size = g2 at *

  go_wp2_with fail
  refine (lparse_any _ (hE.ext HX.below) hRl H2.out).mono ?_
  rintro e w4 ⟨rfl, hb⟩
  replace HX := HX.ext hb
  clear hb
  go_upto_region 4 with fail
  have hlg30 := HX.lt 0 rfl
  simp only [] at hlg30
  have hlg31 := HX.lt 1 rfl
  simp only [] at hlg31
  have hlg32 := HX.lt 2 rfl
  simp only [] at hlg32
  replace HX := HX.new #[.int .i64 u', .int .i64 v', .int .i64 x'] 23
  simp only [List.cons_append, List.nil_append] at HX
  generalize w4.alloc (.cells #[.int .i64 u', .int .i64 v', .int .i64 x'] 23) = W4 at *
  generalize w4.heap.size = g3 at *

  have hc20 := HX.cell 2 0 rfl rfl
  have hc21 := HX.cell 2 1 rfl rfl
  have hc22 := HX.cell 2 2 rfl rfl
  try simp only [List.getElem_toArray, List.getElem_cons_zero, List.getElem_cons_succ] at hc20 hc21 hc22
  have hc30 := HX.cell 3 0 rfl rfl
  have hc31 := HX.cell 3 1 rfl rfl
  have hc32 := HX.cell 3 2 rfl rfl
  try simp only [List.getElem_toArray, List.getElem_cons_zero, List.getElem_cons_succ] at hc30 hc31 hc32
  go_wp2_with fail
  refine (lpair_any _ (hE.ext HX.below).tab H3.out).mono ?_
  rintro e w5 ⟨rfl, hb⟩
  clear hc20 hc21 hc22
  clear hc30 hc31 hc32
  replace HX := HX.ext hb
  clear hb
  rcases hfin.out with ⟨rfl, rfl, rfl, rfl, ⟨rfl, rfl, rfl, rfl, rfl, rfl⟩, rfl⟩ | ⟨hn, ⟨rfl, rfl, rfl, rfl, rfl, rfl⟩, rfl⟩
  · have hs : ((str T).toList == (str T).toList) = true := beq_self_eq_true _
    have hc00 := HX.cell 0 0 rfl rfl
    have hf00 := HX.free 0 0 rfl
    have hc01 := HX.cell 0 1 rfl rfl
    have hf01 := HX.free 0 1 rfl
    have hc02 := HX.cell 0 2 rfl rfl
    have hf02 := HX.free 0 2 rfl
    try simp only [List.getElem_toArray, List.getElem_cons_zero, List.getElem_cons_succ] at hc00 hf00 hc01 hf01 hc02 hf02
    have hc10 := HX.cell 1 0 rfl rfl
    have hf10 := HX.free 1 0 rfl
    have hc11 := HX.cell 1 1 rfl rfl
    have hf11 := HX.free 1 1 rfl
    have hc12 := HX.cell 1 2 rfl rfl
    have hf12 := HX.free 1 2 rfl
    try simp only [List.getElem_toArray, List.getElem_cons_zero, List.getElem_cons_succ] at hc10 hf10 hc11 hf11 hc12 hf12
    have hc20 := HX.cell 2 0 rfl rfl
    have hc21 := HX.cell 2 1 rfl rfl
    have hc22 := HX.cell 2 2 rfl rfl
    try simp only [List.getElem_toArray, List.getElem_cons_zero, List.getElem_cons_succ] at hc20 hc21 hc22
    have hc30 := HX.cell 3 0 rfl rfl
    have hc31 := HX.cell 3 1 rfl rfl
    have hc32 := HX.cell 3 2 rfl rfl
    try simp only [List.getElem_toArray, List.getElem_cons_zero, List.getElem_cons_succ] at hc30 hc31 hc32
    go_upto_region 7 with fail
    go_region
    all_goals (
      clear hc20 hc21 hc22
      clear hc30 hc31 hc32
      clear hc00 hf00 hc01 hf01 hc02 hf02
      clear hc10 hf10 hc11 hf11 hc12 hf12
      replace HX := HX.put3 0 rfl (by omega) (by intro k q hk hne; match k, hk with | 0, hk => (simp at hk; subst hk; simp at hne ⊢; try omega) | 1, hk => (simp at hk; subst hk; simp at hne ⊢; try omega) | 2, hk => (simp at hk; subst hk; simp at hne ⊢; try omega) | 3, hk => (simp at hk; subst hk; simp at hne ⊢; try omega) | k + 4, hk => simp at hk) (.int .i64 a) (.int .i64 b) (.int .i64 c)
      simp only [List.set_cons_zero, List.set_cons_succ] at HX
      replace HX := HX.put3 1 rfl (by omega) (by intro k q hk hne; match k, hk with | 0, hk => (simp at hk; subst hk; simp at hne ⊢; try omega) | 1, hk => (simp at hk; subst hk; simp at hne ⊢; try omega) | 2, hk => (simp at hk; subst hk; simp at hne ⊢; try omega) | 3, hk => (simp at hk; subst hk; simp at hne ⊢; try omega) | k + 4, hk => simp at hk) (.int .i64 a') (.int .i64 b') (.int .i64 c')
      simp only [List.set_cons_zero, List.set_cons_succ] at HX
      replace HX := HX.ext (drew_ext _)
      have hc00 := HX.cell 0 0 rfl rfl
      have hc01 := HX.cell 0 1 rfl rfl
      have hc02 := HX.cell 0 2 rfl rfl
      try simp only [List.getElem_toArray, List.getElem_cons_zero, List.getElem_cons_succ] at hc00 hc01 hc02
      have hc10 := HX.cell 1 0 rfl rfl
      have hc11 := HX.cell 1 1 rfl rfl
      have hc12 := HX.cell 1 2 rfl rfl
      try simp only [List.getElem_toArray, List.getElem_cons_zero, List.getElem_cons_succ] at hc10 hc11 hc12
      go_wp2
      exact bodyPost_ret (v := .tuple #[.agg #[.int .i64 a, .int .i64 b, .int .i64 c], .agg #[.int .i64 a', .int .i64 b', .int .i64 c'], .int .i64 0]) (by simp [results, Tryd.results27, go_sem, hc00, hc01, hc02, hc10, hc11, hc12]) rfl (show RetPP w _ _ _ _ _ _ 0 _ _ from ⟨rfl, HX.below⟩))
  · rcases H1.out.code with rfl | rfl
    · rcases H2.out.code with rfl | rfl
      · rcases H3.out.code with rfl | rfl
        · have hs : ((str T).toList == (str L).toList) = false := str_eq (beq_eq_false_iff_ne.2 fun e => hn ⟨rfl, rfl, rfl, e⟩)
          clear hn
          have hc00 := HX.cell 0 0 rfl rfl
          have hf00 := HX.free 0 0 rfl
          have hc01 := HX.cell 0 1 rfl rfl
          have hf01 := HX.free 0 1 rfl
          have hc02 := HX.cell 0 2 rfl rfl
          have hf02 := HX.free 0 2 rfl
          try simp only [List.getElem_toArray, List.getElem_cons_zero, List.getElem_cons_succ] at hc00 hf00 hc01 hf01 hc02 hf02
          have hc10 := HX.cell 1 0 rfl rfl
          have hf10 := HX.free 1 0 rfl
          have hc11 := HX.cell 1 1 rfl rfl
          have hf11 := HX.free 1 1 rfl
          have hc12 := HX.cell 1 2 rfl rfl
          have hf12 := HX.free 1 2 rfl
          try simp only [List.getElem_toArray, List.getElem_cons_zero, List.getElem_cons_succ] at hc10 hf10 hc11 hf11 hc12 hf12
          go_wp2
          clear hc00 hf00 hc01 hf01 hc02 hf02
          clear hc10 hf10 hc11 hf11 hc12 hf12
          replace HX := HX.put3 0 rfl (by omega) (by intro k q hk hne; match k, hk with | 0, hk => (simp at hk; subst hk; simp at hne ⊢; try omega) | 1, hk => (simp at hk; subst hk; simp at hne ⊢; try omega) | 2, hk => (simp at hk; subst hk; simp at hne ⊢; try omega) | 3, hk => (simp at hk; subst hk; simp at hne ⊢; try omega) | k + 4, hk => simp at hk) (.int .i64 0) (.int .i64 0) (.int .i64 0)
          simp only [List.set_cons_zero, List.set_cons_succ] at HX
          replace HX := HX.put3 1 rfl (by omega) (by intro k q hk hne; match k, hk with | 0, hk => (simp at hk; subst hk; simp at hne ⊢; try omega) | 1, hk => (simp at hk; subst hk; simp at hne ⊢; try omega) | 2, hk => (simp at hk; subst hk; simp at hne ⊢; try omega) | 3, hk => (simp at hk; subst hk; simp at hne ⊢; try omega) | k + 4, hk => simp at hk) (.int .i64 0) (.int .i64 0) (.int .i64 0)
          simp only [List.set_cons_zero, List.set_cons_succ] at HX
          have hc00 := HX.cell 0 0 rfl rfl
          have hc01 := HX.cell 0 1 rfl rfl
          have hc02 := HX.cell 0 2 rfl rfl
          try simp only [List.getElem_toArray, List.getElem_cons_zero, List.getElem_cons_succ] at hc00 hc01 hc02
          have hc10 := HX.cell 1 0 rfl rfl
          have hc11 := HX.cell 1 1 rfl rfl
          have hc12 := HX.cell 1 2 rfl rfl
          try simp only [List.getElem_toArray, List.getElem_cons_zero, List.getElem_cons_succ] at hc10 hc11 hc12
          exact bodyPost_ret (v := .tuple #[.agg #[.int .i64 0, .int .i64 0, .int .i64 0], .agg #[.int .i64 0, .int .i64 0, .int .i64 0], .int .i64 3]) (by simp [results, Tryd.results27, go_sem, hc00, hc01, hc02, hc10, hc11, hc12]) rfl (show RetPP w 0 0 0 0 0 0 3 _ _ from ⟨rfl, HX.below⟩)
        · clear hn
          have hc00 := HX.cell 0 0 rfl rfl
          have hf00 := HX.free 0 0 rfl
          have hc01 := HX.cell 0 1 rfl rfl
          have hf01 := HX.free 0 1 rfl
          have hc02 := HX.cell 0 2 rfl rfl
          have hf02 := HX.free 0 2 rfl
          try simp only [List.getElem_toArray, List.getElem_cons_zero, List.getElem_cons_succ] at hc00 hf00 hc01 hf01 hc02 hf02
          have hc10 := HX.cell 1 0 rfl rfl
          have hf10 := HX.free 1 0 rfl
          have hc11 := HX.cell 1 1 rfl rfl
          have hf11 := HX.free 1 1 rfl
          have hc12 := HX.cell 1 2 rfl rfl
          have hf12 := HX.free 1 2 rfl
          try simp only [List.getElem_toArray, List.getElem_cons_zero, List.getElem_cons_succ] at hc10 hf10 hc11 hf11 hc12 hf12
          go_wp2
          clear hc00 hf00 hc01 hf01 hc02 hf02
          clear hc10 hf10 hc11 hf11 hc12 hf12
          replace HX := HX.put3 0 rfl (by omega) (by intro k q hk hne; match k, hk with | 0, hk => (simp at hk; subst hk; simp at hne ⊢; try omega) | 1, hk => (simp at hk; subst hk; simp at hne ⊢; try omega) | 2, hk => (simp at hk; subst hk; simp at hne ⊢; try omega) | 3, hk => (simp at hk; subst hk; simp at hne ⊢; try omega) | k + 4, hk => simp at hk) (.int .i64 0) (.int .i64 0) (.int .i64 0)
          simp only [List.set_cons_zero, List.set_cons_succ] at HX
          replace HX := HX.put3 1 rfl (by omega) (by intro k q hk hne; match k, hk with | 0, hk => (simp at hk; subst hk; simp at hne ⊢; try omega) | 1, hk => (simp at hk; subst hk; simp at hne ⊢; try omega) | 2, hk => (simp at hk; subst hk; simp at hne ⊢; try omega) | 3, hk => (simp at hk; subst hk; simp at hne ⊢; try omega) | k + 4, hk => simp at hk) (.int .i64 0) (.int .i64 0) (.int .i64 0)
          simp only [List.set_cons_zero, List.set_cons_succ] at HX
          have hc00 := HX.cell 0 0 rfl rfl
          have hc01 := HX.cell 0 1 rfl rfl
          have hc02 := HX.cell 0 2 rfl rfl
          try simp only [List.getElem_toArray, List.getElem_cons_zero, List.getElem_cons_succ] at hc00 hc01 hc02
          have hc10 := HX.cell 1 0 rfl rfl
          have hc11 := HX.cell 1 1 rfl rfl
          have hc12 := HX.cell 1 2 rfl rfl
          try simp only [List.getElem_toArray, List.getElem_cons_zero, List.getElem_cons_succ] at hc10 hc11 hc12
          exact bodyPost_ret (v := .tuple #[.agg #[.int .i64 0, .int .i64 0, .int .i64 0], .agg #[.int .i64 0, .int .i64 0, .int .i64 0], .int .i64 3]) (by simp [results, Tryd.results27, go_sem, hc00, hc01, hc02, hc10, hc11, hc12]) rfl (show RetPP w 0 0 0 0 0 0 3 _ _ from ⟨rfl, HX.below⟩)
      · clear hn
        have hc00 := HX.cell 0 0 rfl rfl
        have hf00 := HX.free 0 0 rfl
        have hc01 := HX.cell 0 1 rfl rfl
        have hf01 := HX.free 0 1 rfl
        have hc02 := HX.cell 0 2 rfl rfl
        have hf02 := HX.free 0 2 rfl
        try simp only [List.getElem_toArray, List.getElem_cons_zero, List.getElem_cons_succ] at hc00 hf00 hc01 hf01 hc02 hf02
        have hc10 := HX.cell 1 0 rfl rfl
        have hf10 := HX.free 1 0 rfl
        have hc11 := HX.cell 1 1 rfl rfl
        have hf11 := HX.free 1 1 rfl
        have hc12 := HX.cell 1 2 rfl rfl
        have hf12 := HX.free 1 2 rfl
        try simp only [List.getElem_toArray, List.getElem_cons_zero, List.getElem_cons_succ] at hc10 hf10 hc11 hf11 hc12 hf12
        go_wp2
        clear hc00 hf00 hc01 hf01 hc02 hf02
        clear hc10 hf10 hc11 hf11 hc12 hf12
        replace HX := HX.put3 0 rfl (by omega) (by intro k q hk hne; match k, hk with | 0, hk => (simp at hk; subst hk; simp at hne ⊢; try omega) | 1, hk => (simp at hk; subst hk; simp at hne ⊢; try omega) | 2, hk => (simp at hk; subst hk; simp at hne ⊢; try omega) | 3, hk => (simp at hk; subst hk; simp at hne ⊢; try omega) | k + 4, hk => simp at hk) (.int .i64 0) (.int .i64 0) (.int .i64 0)
        simp only [List.set_cons_zero, List.set_cons_succ] at HX
        replace HX := HX.put3 1 rfl (by omega) (by intro k q hk hne; match k, hk with | 0, hk => (simp at hk; subst hk; simp at hne ⊢; try omega) | 1, hk => (simp at hk; subst hk; simp at hne ⊢; try omega) | 2, hk => (simp at hk; subst hk; simp at hne ⊢; try omega) | 3, hk => (simp at hk; subst hk; simp at hne ⊢; try omega) | k + 4, hk => simp at hk) (.int .i64 0) (.int .i64 0) (.int .i64 0)
        simp only [List.set_cons_zero, List.set_cons_succ] at HX
        have hc00 := HX.cell 0 0 rfl rfl
        have hc01 := HX.cell 0 1 rfl rfl
        have hc02 := HX.cell 0 2 rfl rfl
        try simp only [List.getElem_toArray, List.getElem_cons_zero, List.getElem_cons_succ] at hc00 hc01 hc02
        have hc10 := HX.cell 1 0 rfl rfl
        have hc11 := HX.cell 1 1 rfl rfl
        have hc12 := HX.cell 1 2 rfl rfl
        try simp only [List.getElem_toArray, List.getElem_cons_zero, List.getElem_cons_succ] at hc10 hc11 hc12
        exact bodyPost_ret (v := .tuple #[.agg #[.int .i64 0, .int .i64 0, .int .i64 0], .agg #[.int .i64 0, .int .i64 0, .int .i64 0], .int .i64 3]) (by simp [results, Tryd.results27, go_sem, hc00, hc01, hc02, hc10, hc11, hc12]) rfl (show RetPP w 0 0 0 0 0 0 3 _ _ from ⟨rfl, HX.below⟩)
    · clear hn
      have hc00 := HX.cell 0 0 rfl rfl
      have hf00 := HX.free 0 0 rfl
      have hc01 := HX.cell 0 1 rfl rfl
      have hf01 := HX.free 0 1 rfl
      have hc02 := HX.cell 0 2 rfl rfl
      have hf02 := HX.free 0 2 rfl
      try simp only [List.getElem_toArray, List.getElem_cons_zero, List.getElem_cons_succ] at hc00 hf00 hc01 hf01 hc02 hf02
      have hc10 := HX.cell 1 0 rfl rfl
      have hf10 := HX.free 1 0 rfl
      have hc11 := HX.cell 1 1 rfl rfl
      have hf11 := HX.free 1 1 rfl
      have hc12 := HX.cell 1 2 rfl rfl
      have hf12 := HX.free 1 2 rfl
      try simp only [List.getElem_toArray, List.getElem_cons_zero, List.getElem_cons_succ] at hc10 hf10 hc11 hf11 hc12 hf12
      go_wp2
      clear hc00 hf00 hc01 hf01 hc02 hf02
      clear hc10 hf10 hc11 hf11 hc12 hf12
      replace HX := HX.put3 0 rfl (by omega) (by intro k q hk hne; match k, hk with | 0, hk => (simp at hk; subst hk; simp at hne ⊢; try omega) | 1, hk => (simp at hk; subst hk; simp at hne ⊢; try omega) | 2, hk => (simp at hk; subst hk; simp at hne ⊢; try omega) | 3, hk => (simp at hk; subst hk; simp at hne ⊢; try omega) | k + 4, hk => simp at hk) (.int .i64 0) (.int .i64 0) (.int .i64 0)
      simp only [List.set_cons_zero, List.set_cons_succ] at HX
      replace HX := HX.put3 1 rfl (by omega) (by intro k q hk hne; match k, hk with | 0, hk => (simp at hk; subst hk; simp at hne ⊢; try omega) | 1, hk => (simp at hk; subst hk; simp at hne ⊢; try omega) | 2, hk => (simp at hk; subst hk; simp at hne ⊢; try omega) | 3, hk => (simp at hk; subst hk; simp at hne ⊢; try omega) | k + 4, hk => simp at hk) (.int .i64 0) (.int .i64 0) (.int .i64 0)
      simp only [List.set_cons_zero, List.set_cons_succ] at HX
      have hc00 := HX.cell 0 0 rfl rfl
      have hc01 := HX.cell 0 1 rfl rfl
      have hc02 := HX.cell 0 2 rfl rfl
      try simp only [List.getElem_toArray, List.getElem_cons_zero, List.getElem_cons_succ] at hc00 hc01 hc02
      have hc10 := HX.cell 1 0 rfl rfl
      have hc11 := HX.cell 1 1 rfl rfl
      have hc12 := HX.cell 1 2 rfl rfl
      try simp only [List.getElem_toArray, List.getElem_cons_zero, List.getElem_cons_succ] at hc10 hc11 hc12
      exact bodyPost_ret (v := .tuple #[.agg #[.int .i64 0, .int .i64 0, .int .i64 0], .agg #[.int .i64 0, .int .i64 0, .int .i64 0], .int .i64 3]) (by simp [results, Tryd.results27, go_sem, hc00, hc01, hc02, hc10, hc11, hc12]) rfl (show RetPP w 0 0 0 0 0 0 3 _ _ from ⟨rfl, HX.below⟩)
theorem cut_byte {L : List UInt8} {j : Nat} (h : j < L.length) (hx : L[j] = 47) (hno : 47 ∉ L.take j) : Lib.cut L [47] = (L.take j, L.drop (j + 1), true) := by
  have e : L.take j ++ (47 :: [] ++ L.drop (j + 1)) = L := by
    rw [← hx]; simp
  have := cut_at 47 [] (L.take j) (L.drop (j + 1)) hno
  rwa [e] at this
theorem PPX.none {L : List UInt8} {a b c a' b' c' E : Int} (h : PPX L a b c a' b' c' E) (hno : 47 ∉ L) : a = 0 ∧ b = 0 ∧ c = 0 ∧ a' = 0 ∧ b' = 0 ∧ c' = 0 ∧ E = 3 :=
  h.not fun a b c a' b' c' _ he => hno (by rw [← he, pairT]; simp)
/-- the reference's reader -/
theorem PPX.readR {L P R : List UInt8} {d : Bool} {a b c a' b' c' E u v x u' v' x' E1 E2 : Int} (h : PPX L a b c a' b' c' E) (hL : L = P ++ 47 :: R) (hc : Lib.cut L [47] = (P, R, d)) (h1 : PL P u v x E1) (h2 : PL R u' v' x' E2) :
    (E1 = 0 ∧ E2 = 0 ∧ u = 0 ∧ u' = 1 ∧ (a = u ∧ b = v ∧ c = x ∧ a' = u' ∧ b' = v' ∧ c' = x') ∧ E = 0) ∨ (¬ (E1 = 0 ∧ E2 = 0 ∧ u = 0 ∧ u' = 1) ∧ (a = 0 ∧ b = 0 ∧ c = 0 ∧ a' = 0 ∧ b' = 0 ∧ c' = 0) ∧ E = 3) := by
  by_cases hk : E1 = 0 ∧ E2 = 0 ∧ u = 0 ∧ u' = 1
  · left
    obtain ⟨rfl, rfl, rfl, rfl⟩ := hk
    rcases h1 with ⟨_, h3, h4⟩ | ⟨h3, _⟩
    · rcases h2 with ⟨_, h5, h6⟩ | ⟨h5, _⟩
      · obtain ⟨q1, q2, q3, q4, q5, q6, q7⟩ := h.of (u := 0) (v := v) (x := x) (u' := 1) (v' := v') (x' := x') ⟨h3, h5, rfl, rfl⟩ (by rw [pairT, h4, h6, hL])
        exact ⟨rfl, rfl, rfl, rfl, ⟨q1, q2, q3, q4, q5, q6⟩, q7⟩
      · omega
    · omega
  · right
    obtain ⟨q1, q2, q3, q4, q5, q6, q7⟩ := h.not (fun a b c a' b' c' hp he => hk (by
      rw [← he, pair_cut hp] at hc
      injection hc with e1 e2
      injection e2 with e2 _
      obtain ⟨r1, r2, r3, r4⟩ := h1.of hp.1 e1
      obtain ⟨s1, s2, s3, s4⟩ := h2.of hp.2.1 e2
      exact ⟨r4, s4, r1.trans hp.2.2.1, s1.trans hp.2.2.2⟩))
    exact ⟨hk, ⟨q1, q2, q3, q4, q5, q6⟩, q7⟩
set_option maxHeartbeats 8000000 in
set_option maxRecDepth 100000 in
theorem rpp_any {L : List UInt8} {a b c a' b' c' E : Int} (w : World) (hl : L.length ≤ 20000) (hP : PPX L a b c a' b' c' E) :
    Calls Tryd.prog 28 #[.string (str L)] w (RetPP w a b c a' b' c' E) := by
  have hsL : (str L).size = L.length := str_size L
  replace hP := Lib.hid hP
  have HX := BL.two w #[.int .i64 0, .int .i64 0, .int .i64 0] #[.int .i64 0, .int .i64 0, .int .i64 0] 23 23
  go_enter Tryd.func28, Tryd.ntmps28
  go_upto_region 1 with fail
  generalize (w.alloc (.cells #[.int .i64 0, .int .i64 0, .int .i64 0] 23)).alloc (.cells #[.int .i64 0, .int .i64 0, .int .i64 0] 23) = W1 at *
  go_wp2
  go_loopg [5] L.length (fun k i wr => ∃ j : Nat, j + k = L.length ∧ i = .int .i64 (j : Int) ∧ Hid (47 ∉ L.take j) ∧ BL w wr [(w.heap.size, #[.int .i64 0, .int .i64 0, .int .i64 0], 23), (w.heap.size + 1, #[.int .i64 0, .int .i64 0, .int .i64 0], 23)])
  case atStart => exact ⟨0, by omega, rfl, Lib.hid (by simp), HX⟩
  case round =>
    clear HX
    obtain ⟨j, hj, rfl, hno, HX⟩ := hrel
    by_cases hj0 : j < L.length
    · have hix : ∀ h, (str L)[j]'h = L[j]'hj0 := fun _ => rfl
      by_cases hx47 : L[j]'hj0 = 47
      · have hcut := cut_byte hj0 hx47 hno.out
        have hxb : ((((L[j]'hj0).toNat : Nat) : Int) == 47) = true := by rw [hx47]; rfl
        have hjl : ((j : Int) == (L.length : Int)) = false := beq_eq_false_iff_ne.2 (by omega)
        have hLe : L = L.take j ++ 47 :: L.drop (j + 1) := by rw [← hx47]; simp
        obtain ⟨u, v, x, E1, h1⟩ := PL.ex (L.take j)
        obtain ⟨u', v', x', E2, h2⟩ := PL.ex (L.drop (j + 1))
        have hfin := Lib.hid (hP.out.readR hLe hcut h1 h2)
        have H1 := Lib.hid h1
        have H2 := Lib.hid h2
        have hx1 : (str L).extract 0 j = str (L.take j) := str_take _ _
        have hx2 : (str L).extract (j + 1) L.length = str (L.drop (j + 1)) := str_drop _ _
        have hl1 : (L.take j).length ≤ 20000 := by rw [List.length_take]; omega
        have hl2 : (L.drop (j + 1)).length ≤ 20000 := by rw [List.length_drop]; omega
        generalize L[j] = xb at *
        generalize L.take j = P at *
        generalize L.drop (j + 1) = R at *
        clear hcut hLe h1 h2 hx47 hno hP
        go_wp2_with fail
        refine (rparse_any5 _ hl1 H1.out).mono ?_
        rintro e w3 ⟨rfl, hb⟩
        replace HX := HX.ext hb
        clear hb
        go_upto_region 7 with fail
        have hlg20 := HX.lt 0 rfl
        simp only [] at hlg20
        have hlg21 := HX.lt 1 rfl
        simp only [] at hlg21
        replace HX := HX.new #[.int .i64 u, .int .i64 v, .int .i64 x] 23
        simp only [List.cons_append, List.nil_append] at HX
        generalize w3.alloc (.cells #[.int .i64 u, .int .i64 v, .int .i64 x] 23) = W3 at *
        generalize w3.heap.size = g2 at *

        go_wp2_with fail
        refine (rparse_any5 _ hl2 H2.out).mono ?_
        rintro e w4 ⟨rfl, hb⟩
        replace HX := HX.ext hb
        clear hb
        go_upto_region 8 with fail
        have hlg30 := HX.lt 0 rfl
        simp only [] at hlg30
        have hlg31 := HX.lt 1 rfl
        simp only [] at hlg31
        have hlg32 := HX.lt 2 rfl
        simp only [] at hlg32
        replace HX := HX.new #[.int .i64 u', .int .i64 v', .int .i64 x'] 23
        simp only [List.cons_append, List.nil_append] at HX
        generalize w4.alloc (.cells #[.int .i64 u', .int .i64 v', .int .i64 x'] 23) = W4 at *
        generalize w4.heap.size = g3 at *

        clear hx1 hx2 hix hxb
        rcases hfin.out with ⟨rfl, rfl, rfl, rfl, ⟨rfl, rfl, rfl, rfl, rfl, rfl⟩, rfl⟩ | ⟨hn, ⟨rfl, rfl, rfl, rfl, rfl, rfl⟩, rfl⟩
        · have hc00 := HX.cell 0 0 rfl rfl
          have hf00 := HX.free 0 0 rfl
          have hc01 := HX.cell 0 1 rfl rfl
          have hf01 := HX.free 0 1 rfl
          have hc02 := HX.cell 0 2 rfl rfl
          have hf02 := HX.free 0 2 rfl
          try simp only [List.getElem_toArray, List.getElem_cons_zero, List.getElem_cons_succ] at hc00 hf00 hc01 hf01 hc02 hf02
          have hc10 := HX.cell 1 0 rfl rfl
          have hf10 := HX.free 1 0 rfl
          have hc11 := HX.cell 1 1 rfl rfl
          have hf11 := HX.free 1 1 rfl
          have hc12 := HX.cell 1 2 rfl rfl
          have hf12 := HX.free 1 2 rfl
          try simp only [List.getElem_toArray, List.getElem_cons_zero, List.getElem_cons_succ] at hc10 hf10 hc11 hf11 hc12 hf12
          have hc20 := HX.cell 2 0 rfl rfl
          have hc21 := HX.cell 2 1 rfl rfl
          have hc22 := HX.cell 2 2 rfl rfl
          try simp only [List.getElem_toArray, List.getElem_cons_zero, List.getElem_cons_succ] at hc20 hc21 hc22
          have hc30 := HX.cell 3 0 rfl rfl
          have hc31 := HX.cell 3 1 rfl rfl
          have hc32 := HX.cell 3 2 rfl rfl
          try simp only [List.getElem_toArray, List.getElem_cons_zero, List.getElem_cons_succ] at hc30 hc31 hc32
          go_upto_region 10 with fail
          go_region
          all_goals (
            clear hc20 hc21 hc22
            clear hc30 hc31 hc32
            clear hc00 hf00 hc01 hf01 hc02 hf02
            clear hc10 hf10 hc11 hf11 hc12 hf12
            replace HX := HX.put3 0 rfl (by omega) (by intro k q hk hne; match k, hk with | 0, hk => (simp at hk; subst hk; simp at hne ⊢; try omega) | 1, hk => (simp at hk; subst hk; simp at hne ⊢; try omega) | 2, hk => (simp at hk; subst hk; simp at hne ⊢; try omega) | 3, hk => (simp at hk; subst hk; simp at hne ⊢; try omega) | k + 4, hk => simp at hk) (.int .i64 0) (.int .i64 b) (.int .i64 c)
            simp only [List.set_cons_zero, List.set_cons_succ] at HX
            replace HX := HX.put3 1 rfl (by omega) (by intro k q hk hne; match k, hk with | 0, hk => (simp at hk; subst hk; simp at hne ⊢; try omega) | 1, hk => (simp at hk; subst hk; simp at hne ⊢; try omega) | 2, hk => (simp at hk; subst hk; simp at hne ⊢; try omega) | 3, hk => (simp at hk; subst hk; simp at hne ⊢; try omega) | k + 4, hk => simp at hk) (.int .i64 1) (.int .i64 b') (.int .i64 c')
            simp only [List.set_cons_zero, List.set_cons_succ] at HX
            replace HX := HX.ext (drew_ext _)
            have hc00 := HX.cell 0 0 rfl rfl
            have hc01 := HX.cell 0 1 rfl rfl
            have hc02 := HX.cell 0 2 rfl rfl
            try simp only [List.getElem_toArray, List.getElem_cons_zero, List.getElem_cons_succ] at hc00 hc01 hc02
            have hc10 := HX.cell 1 0 rfl rfl
            have hc11 := HX.cell 1 1 rfl rfl
            have hc12 := HX.cell 1 2 rfl rfl
            try simp only [List.getElem_toArray, List.getElem_cons_zero, List.getElem_cons_succ] at hc10 hc11 hc12
            go_wp2
            exact bodyPost_ret (v := .tuple #[.agg #[.int .i64 0, .int .i64 b, .int .i64 c], .agg #[.int .i64 1, .int .i64 b', .int .i64 c'], .int .i64 0]) (by simp [results, Tryd.results28, go_sem, hc00, hc01, hc02, hc10, hc11, hc12]) rfl (show RetPP w _ _ _ _ _ _ 0 _ _ from ⟨rfl, HX.below⟩))
        · rcases H1.out.code with rfl | rfl
          · rcases H2.out.code with rfl | rfl
            · by_cases hu : u = 0
              · have hub : (u != 0) = false := by rw [bne_eq_false_iff_eq]; exact hu
                have hub' : (u' != 1) = true := bne_iff_ne.2 fun e => hn ⟨rfl, rfl, hu, e⟩
                clear hn hu
                have hc20 := HX.cell 2 0 rfl rfl
                have hc21 := HX.cell 2 1 rfl rfl
                have hc22 := HX.cell 2 2 rfl rfl
                try simp only [List.getElem_toArray, List.getElem_cons_zero, List.getElem_cons_succ] at hc20 hc21 hc22
                have hc30 := HX.cell 3 0 rfl rfl
                have hc31 := HX.cell 3 1 rfl rfl
                have hc32 := HX.cell 3 2 rfl rfl
                try simp only [List.getElem_toArray, List.getElem_cons_zero, List.getElem_cons_succ] at hc30 hc31 hc32
                have hc00 := HX.cell 0 0 rfl rfl
                have hf00 := HX.free 0 0 rfl
                have hc01 := HX.cell 0 1 rfl rfl
                have hf01 := HX.free 0 1 rfl
                have hc02 := HX.cell 0 2 rfl rfl
                have hf02 := HX.free 0 2 rfl
                try simp only [List.getElem_toArray, List.getElem_cons_zero, List.getElem_cons_succ] at hc00 hf00 hc01 hf01 hc02 hf02
                have hc10 := HX.cell 1 0 rfl rfl
                have hf10 := HX.free 1 0 rfl
                have hc11 := HX.cell 1 1 rfl rfl
                have hf11 := HX.free 1 1 rfl
                have hc12 := HX.cell 1 2 rfl rfl
                have hf12 := HX.free 1 2 rfl
                try simp only [List.getElem_toArray, List.getElem_cons_zero, List.getElem_cons_succ] at hc10 hf10 hc11 hf11 hc12 hf12
                go_wp2
                clear hc00 hf00 hc01 hf01 hc02 hf02
                clear hc10 hf10 hc11 hf11 hc12 hf12
                replace HX := HX.put3 0 rfl (by omega) (by intro k q hk hne; match k, hk with | 0, hk => (simp at hk; subst hk; simp at hne ⊢; try omega) | 1, hk => (simp at hk; subst hk; simp at hne ⊢; try omega) | 2, hk => (simp at hk; subst hk; simp at hne ⊢; try omega) | 3, hk => (simp at hk; subst hk; simp at hne ⊢; try omega) | k + 4, hk => simp at hk) (.int .i64 0) (.int .i64 0) (.int .i64 0)
                simp only [List.set_cons_zero, List.set_cons_succ] at HX
                replace HX := HX.put3 1 rfl (by omega) (by intro k q hk hne; match k, hk with | 0, hk => (simp at hk; subst hk; simp at hne ⊢; try omega) | 1, hk => (simp at hk; subst hk; simp at hne ⊢; try omega) | 2, hk => (simp at hk; subst hk; simp at hne ⊢; try omega) | 3, hk => (simp at hk; subst hk; simp at hne ⊢; try omega) | k + 4, hk => simp at hk) (.int .i64 0) (.int .i64 0) (.int .i64 0)
                simp only [List.set_cons_zero, List.set_cons_succ] at HX
                have hc00 := HX.cell 0 0 rfl rfl
                have hc01 := HX.cell 0 1 rfl rfl
                have hc02 := HX.cell 0 2 rfl rfl
                try simp only [List.getElem_toArray, List.getElem_cons_zero, List.getElem_cons_succ] at hc00 hc01 hc02
                have hc10 := HX.cell 1 0 rfl rfl
                have hc11 := HX.cell 1 1 rfl rfl
                have hc12 := HX.cell 1 2 rfl rfl
                try simp only [List.getElem_toArray, List.getElem_cons_zero, List.getElem_cons_succ] at hc10 hc11 hc12
                exact bodyPost_ret (v := .tuple #[.agg #[.int .i64 0, .int .i64 0, .int .i64 0], .agg #[.int .i64 0, .int .i64 0, .int .i64 0], .int .i64 3]) (by simp [results, Tryd.results28, go_sem, hc00, hc01, hc02, hc10, hc11, hc12]) rfl (show RetPP w 0 0 0 0 0 0 3 _ _ from ⟨rfl, HX.below⟩)
              · have hub : (u != 0) = true := bne_iff_ne.2 hu
                clear hn hu
                have hc20 := HX.cell 2 0 rfl rfl
                have hc21 := HX.cell 2 1 rfl rfl
                have hc22 := HX.cell 2 2 rfl rfl
                try simp only [List.getElem_toArray, List.getElem_cons_zero, List.getElem_cons_succ] at hc20 hc21 hc22
                have hc30 := HX.cell 3 0 rfl rfl
                have hc31 := HX.cell 3 1 rfl rfl
                have hc32 := HX.cell 3 2 rfl rfl
                try simp only [List.getElem_toArray, List.getElem_cons_zero, List.getElem_cons_succ] at hc30 hc31 hc32
                have hc00 := HX.cell 0 0 rfl rfl
                have hf00 := HX.free 0 0 rfl
                have hc01 := HX.cell 0 1 rfl rfl
                have hf01 := HX.free 0 1 rfl
                have hc02 := HX.cell 0 2 rfl rfl
                have hf02 := HX.free 0 2 rfl
                try simp only [List.getElem_toArray, List.getElem_cons_zero, List.getElem_cons_succ] at hc00 hf00 hc01 hf01 hc02 hf02
                have hc10 := HX.cell 1 0 rfl rfl
                have hf10 := HX.free 1 0 rfl
                have hc11 := HX.cell 1 1 rfl rfl
                have hf11 := HX.free 1 1 rfl
                have hc12 := HX.cell 1 2 rfl rfl
                have hf12 := HX.free 1 2 rfl
                try simp only [List.getElem_toArray, List.getElem_cons_zero, List.getElem_cons_succ] at hc10 hf10 hc11 hf11 hc12 hf12
                go_wp2
                clear hc00 hf00 hc01 hf01 hc02 hf02
                clear hc10 hf10 hc11 hf11 hc12 hf12
                replace HX := HX.put3 0 rfl (by omega) (by intro k q hk hne; match k, hk with | 0, hk => (simp at hk; subst hk; simp at hne ⊢; try omega) | 1, hk => (simp at hk; subst hk; simp at hne ⊢; try omega) | 2, hk => (simp at hk; subst hk; simp at hne ⊢; try omega) | 3, hk => (simp at hk; subst hk; simp at hne ⊢; try omega) | k + 4, hk => simp at hk) (.int .i64 0) (.int .i64 0) (.int .i64 0)
                simp only [List.set_cons_zero, List.set_cons_succ] at HX
                replace HX := HX.put3 1 rfl (by omega) (by intro k q hk hne; match k, hk with | 0, hk => (simp at hk; subst hk; simp at hne ⊢; try omega) | 1, hk => (simp at hk; subst hk; simp at hne ⊢; try omega) | 2, hk => (simp at hk; subst hk; simp at hne ⊢; try omega) | 3, hk => (simp at hk; subst hk; simp at hne ⊢; try omega) | k + 4, hk => simp at hk) (.int .i64 0) (.int .i64 0) (.int .i64 0)
                simp only [List.set_cons_zero, List.set_cons_succ] at HX
                have hc00 := HX.cell 0 0 rfl rfl
                have hc01 := HX.cell 0 1 rfl rfl
                have hc02 := HX.cell 0 2 rfl rfl
                try simp only [List.getElem_toArray, List.getElem_cons_zero, List.getElem_cons_succ] at hc00 hc01 hc02
                have hc10 := HX.cell 1 0 rfl rfl
                have hc11 := HX.cell 1 1 rfl rfl
                have hc12 := HX.cell 1 2 rfl rfl
                try simp only [List.getElem_toArray, List.getElem_cons_zero, List.getElem_cons_succ] at hc10 hc11 hc12
                exact bodyPost_ret (v := .tuple #[.agg #[.int .i64 0, .int .i64 0, .int .i64 0], .agg #[.int .i64 0, .int .i64 0, .int .i64 0], .int .i64 3]) (by simp [results, Tryd.results28, go_sem, hc00, hc01, hc02, hc10, hc11, hc12]) rfl (show RetPP w 0 0 0 0 0 0 3 _ _ from ⟨rfl, HX.below⟩)
            · clear hn
              have hc00 := HX.cell 0 0 rfl rfl
              have hf00 := HX.free 0 0 rfl
              have hc01 := HX.cell 0 1 rfl rfl
              have hf01 := HX.free 0 1 rfl
              have hc02 := HX.cell 0 2 rfl rfl
              have hf02 := HX.free 0 2 rfl
              try simp only [List.getElem_toArray, List.getElem_cons_zero, List.getElem_cons_succ] at hc00 hf00 hc01 hf01 hc02 hf02
              have hc10 := HX.cell 1 0 rfl rfl
              have hf10 := HX.free 1 0 rfl
              have hc11 := HX.cell 1 1 rfl rfl
              have hf11 := HX.free 1 1 rfl
              have hc12 := HX.cell 1 2 rfl rfl
              have hf12 := HX.free 1 2 rfl
              try simp only [List.getElem_toArray, List.getElem_cons_zero, List.getElem_cons_succ] at hc10 hf10 hc11 hf11 hc12 hf12
              go_wp2
              clear hc00 hf00 hc01 hf01 hc02 hf02
              clear hc10 hf10 hc11 hf11 hc12 hf12
              replace HX := HX.put3 0 rfl (by omega) (by intro k q hk hne; match k, hk with | 0, hk => (simp at hk; subst hk; simp at hne ⊢; try omega) | 1, hk => (simp at hk; subst hk; simp at hne ⊢; try omega) | 2, hk => (simp at hk; subst hk; simp at hne ⊢; try omega) | 3, hk => (simp at hk; subst hk; simp at hne ⊢; try omega) | k + 4, hk => simp at hk) (.int .i64 0) (.int .i64 0) (.int .i64 0)
              simp only [List.set_cons_zero, List.set_cons_succ] at HX
              replace HX := HX.put3 1 rfl (by omega) (by intro k q hk hne; match k, hk with | 0, hk => (simp at hk; subst hk; simp at hne ⊢; try omega) | 1, hk => (simp at hk; subst hk; simp at hne ⊢; try omega) | 2, hk => (simp at hk; subst hk; simp at hne ⊢; try omega) | 3, hk => (simp at hk; subst hk; simp at hne ⊢; try omega) | k + 4, hk => simp at hk) (.int .i64 0) (.int .i64 0) (.int .i64 0)
              simp only [List.set_cons_zero, List.set_cons_succ] at HX
              have hc00 := HX.cell 0 0 rfl rfl
              have hc01 := HX.cell 0 1 rfl rfl
              have hc02 := HX.cell 0 2 rfl rfl
              try simp only [List.getElem_toArray, List.getElem_cons_zero, List.getElem_cons_succ] at hc00 hc01 hc02
              have hc10 := HX.cell 1 0 rfl rfl
              have hc11 := HX.cell 1 1 rfl rfl
              have hc12 := HX.cell 1 2 rfl rfl
              try simp only [List.getElem_toArray, List.getElem_cons_zero, List.getElem_cons_succ] at hc10 hc11 hc12
              exact bodyPost_ret (v := .tuple #[.agg #[.int .i64 0, .int .i64 0, .int .i64 0], .agg #[.int .i64 0, .int .i64 0, .int .i64 0], .int .i64 3]) (by simp [results, Tryd.results28, go_sem, hc00, hc01, hc02, hc10, hc11, hc12]) rfl (show RetPP w 0 0 0 0 0 0 3 _ _ from ⟨rfl, HX.below⟩)
          · clear hn
            have hc00 := HX.cell 0 0 rfl rfl
            have hf00 := HX.free 0 0 rfl
            have hc01 := HX.cell 0 1 rfl rfl
            have hf01 := HX.free 0 1 rfl
            have hc02 := HX.cell 0 2 rfl rfl
            have hf02 := HX.free 0 2 rfl
            try simp only [List.getElem_toArray, List.getElem_cons_zero, List.getElem_cons_succ] at hc00 hf00 hc01 hf01 hc02 hf02
            have hc10 := HX.cell 1 0 rfl rfl
            have hf10 := HX.free 1 0 rfl
            have hc11 := HX.cell 1 1 rfl rfl
            have hf11 := HX.free 1 1 rfl
            have hc12 := HX.cell 1 2 rfl rfl
            have hf12 := HX.free 1 2 rfl
            try simp only [List.getElem_toArray, List.getElem_cons_zero, List.getElem_cons_succ] at hc10 hf10 hc11 hf11 hc12 hf12
            go_wp2
            clear hc00 hf00 hc01 hf01 hc02 hf02
            clear hc10 hf10 hc11 hf11 hc12 hf12
            replace HX := HX.put3 0 rfl (by omega) (by intro k q hk hne; match k, hk with | 0, hk => (simp at hk; subst hk; simp at hne ⊢; try omega) | 1, hk => (simp at hk; subst hk; simp at hne ⊢; try omega) | 2, hk => (simp at hk; subst hk; simp at hne ⊢; try omega) | 3, hk => (simp at hk; subst hk; simp at hne ⊢; try omega) | k + 4, hk => simp at hk) (.int .i64 0) (.int .i64 0) (.int .i64 0)
            simp only [List.set_cons_zero, List.set_cons_succ] at HX
            replace HX := HX.put3 1 rfl (by omega) (by intro k q hk hne; match k, hk with | 0, hk => (simp at hk; subst hk; simp at hne ⊢; try omega) | 1, hk => (simp at hk; subst hk; simp at hne ⊢; try omega) | 2, hk => (simp at hk; subst hk; simp at hne ⊢; try omega) | 3, hk => (simp at hk; subst hk; simp at hne ⊢; try omega) | k + 4, hk => simp at hk) (.int .i64 0) (.int .i64 0) (.int .i64 0)
            simp only [List.set_cons_zero, List.set_cons_succ] at HX
            have hc00 := HX.cell 0 0 rfl rfl
            have hc01 := HX.cell 0 1 rfl rfl
            have hc02 := HX.cell 0 2 rfl rfl
            try simp only [List.getElem_toArray, List.getElem_cons_zero, List.getElem_cons_succ] at hc00 hc01 hc02
            have hc10 := HX.cell 1 0 rfl rfl
            have hc11 := HX.cell 1 1 rfl rfl
            have hc12 := HX.cell 1 2 rfl rfl
            try simp only [List.getElem_toArray, List.getElem_cons_zero, List.getElem_cons_succ] at hc10 hc11 hc12
            exact bodyPost_ret (v := .tuple #[.agg #[.int .i64 0, .int .i64 0, .int .i64 0], .agg #[.int .i64 0, .int .i64 0, .int .i64 0], .int .i64 3]) (by simp [results, Tryd.results28, go_sem, hc00, hc01, hc02, hc10, hc11, hc12]) rfl (show RetPP w 0 0 0 0 0 0 3 _ _ from ⟨rfl, HX.below⟩)
      · have hxb : ((((L[j]'hj0).toNat : Nat) : Int) == 47) = false := beq_eq_false_iff_ne.2 (fun h => hx47 (UInt8.toNat_inj.1 (show (L[j]'hj0).toNat = 47 by omega)))
        have hnx : Hid (47 ∉ L.take (j + 1)) := Lib.hid (by
          rw [List.take_succ_eq_append_getElem hj0]
          intro m
          rcases List.mem_append.1 m with m | m
          · exact hno.out m
          · exact hx47 (List.mem_singleton.1 m).symm)
        generalize L[j] = xb at *
        clear hx47
        go_wp2
        go_roundg (L.length - (j + 1))
        case measure => omega
        case rel => exact ⟨j + 1, by omega, by go_num, hnx, HX⟩
    · have hno2 := hno.out
      rw [List.take_of_length_le (show L.length ≤ j by omega)] at hno2
      obtain ⟨rfl, rfl, rfl, rfl, rfl, rfl, rfl⟩ := hP.out.none hno2
      have hjl : ((j : Int) == (L.length : Int)) = true := beq_iff_eq.2 (by omega)
      clear hno2 hno
      have hc00 := HX.cell 0 0 rfl rfl
      have hf00 := HX.free 0 0 rfl
      have hc01 := HX.cell 0 1 rfl rfl
      have hf01 := HX.free 0 1 rfl
      have hc02 := HX.cell 0 2 rfl rfl
      have hf02 := HX.free 0 2 rfl
      try simp only [List.getElem_toArray, List.getElem_cons_zero, List.getElem_cons_succ] at hc00 hf00 hc01 hf01 hc02 hf02
      have hc10 := HX.cell 1 0 rfl rfl
      have hf10 := HX.free 1 0 rfl
      have hc11 := HX.cell 1 1 rfl rfl
      have hf11 := HX.free 1 1 rfl
      have hc12 := HX.cell 1 2 rfl rfl
      have hf12 := HX.free 1 2 rfl
      try simp only [List.getElem_toArray, List.getElem_cons_zero, List.getElem_cons_succ] at hc10 hf10 hc11 hf11 hc12 hf12
      go_wp2
      clear hc00 hf00 hc01 hf01 hc02 hf02
      clear hc10 hf10 hc11 hf11 hc12 hf12
      replace HX := HX.put3 0 rfl (by omega) (by intro k q hk hne; match k, hk with | 0, hk => (simp at hk; subst hk; simp at hne ⊢; try omega) | 1, hk => (simp at hk; subst hk; simp at hne ⊢; try omega) | k + 2, hk => simp at hk) (.int .i64 0) (.int .i64 0) (.int .i64 0)
      simp only [List.set_cons_zero, List.set_cons_succ] at HX
      replace HX := HX.put3 1 rfl (by omega) (by intro k q hk hne; match k, hk with | 0, hk => (simp at hk; subst hk; simp at hne ⊢; try omega) | 1, hk => (simp at hk; subst hk; simp at hne ⊢; try omega) | k + 2, hk => simp at hk) (.int .i64 0) (.int .i64 0) (.int .i64 0)
      simp only [List.set_cons_zero, List.set_cons_succ] at HX
      have hc00 := HX.cell 0 0 rfl rfl
      have hc01 := HX.cell 0 1 rfl rfl
      have hc02 := HX.cell 0 2 rfl rfl
      try simp only [List.getElem_toArray, List.getElem_cons_zero, List.getElem_cons_succ] at hc00 hc01 hc02
      have hc10 := HX.cell 1 0 rfl rfl
      have hc11 := HX.cell 1 1 rfl rfl
      have hc12 := HX.cell 1 2 rfl rfl
      try simp only [List.getElem_toArray, List.getElem_cons_zero, List.getElem_cons_succ] at hc10 hc11 hc12
      exact bodyPost_ret (v := .tuple #[.agg #[.int .i64 0, .int .i64 0, .int .i64 0], .agg #[.int .i64 0, .int .i64 0, .int .i64 0], .int .i64 3]) (by simp [results, Tryd.results28, go_sem, hc00, hc01, hc02, hc10, hc11, hc12]) rfl (show RetPP w 0 0 0 0 0 0 3 _ _ from ⟨rfl, HX.below⟩)
end Go.Proofs.YtlnajhochpbgpaaDoor
