/- The statement SimilarityScales: its walk. -/
import Derived.Test.YthempimelfmipaaGreatDoorSxdM
namespace Go.Proofs.YthempimelfmipaaGreatDoor
open Go.RowKit Go.Proofs Go

/-- append of one entry, as a step of a region that draws its order -/
theorem step_epush {ops : Array Oper} {o : Oper} {a : Act} {K : Act → World → Prop} {Q : Exit → Act → World → Prop} {Ex : Prop} (w : World) (hg : o.guard = none) (s x : Operand) (hop : o.op = Op.call { callee := Callee.builtin Builtin.append, args := #[s, x], argTypes := #[22, 22] })
    {B c : Nat} {A : Option Addr} {l : List (Int × Int)} {k v : Int} (hs : a.eval s = .slice A l.length c) (hx : a.eval x = .slice (some ⟨w.heap.size, 0, none⟩) 1 1) (hown : EOwn w B A c l)
    (hl : l.length ≤ 1000000) (hB : B ≤ w.heap.size)
    (hK : ∀ A' c' w', EOwn w' B A' c' (l ++ [(k, v)]) → Below B w w' → w.heap.size < w'.heap.size → K (a.put o.dst (.slice A' (l.length + 1) c')) w') :
    if Region.wanted o (yielded ops a.tmps) = true then Oper.wp Tryz.prog o a (w.alloc (.cells #[.int .i64 k, .int .i64 v] 46)) K Q else Ex := by
  have hw : Region.wanted o (yielded ops a.tmps) = true := by simp [Region.wanted, hg]
  rw [if_pos hw]
  obtain ⟨i, hi, hz, h1, h2⟩ := info_parts infoEntry
  refine wp_append_own _ s x _ hop B _ i _ 2 16 undEntry hi hz h1 h2 (by rfl) (by decide) _ l.length (ecells l) hs (World.ownsRow.alloc hown _) ⟨w.heap.size, 0, none⟩ 1 1 [.int .i64 k, .int .i64 v] hx rfl ?_ ?_ (by unfold maxLen; omega) (by omega) (by simp; omega) ?_
  · intro j u hj
    match j, hj with
    | 0, hj => simp at hj; subst hj; exact al_at (by simp) _ rfl
    | 1, hj => simp at hj; subst hj; exact al_at (by simp) _ rfl
    | j + 2, hj => simp at hj
  · intro u hu
    simp at hu
    rcases hu with rfl | rfl <;> rfl
  · intro v' w' h3 h4 h5
    have hb : w.grownBy w' (Value.slice A l.length c).ownBlock := ⟨h4.os, h4.tape, h4.output, Nat.le_trans (by simp) h4.size, fun k hk hne => (h4.block k (by simp; omega) hne).trans (Below.heap_alloc w _ k hk)⟩
    have hlt : w.heap.size < w'.heap.size := by have := h4.size; simp at this; omega
    obtain ⟨A', c', rfl⟩ : ∃ A' c', v' = .slice A' (l.length + 1) c' := by
      rcases h3.2 with ⟨_, h0⟩ | ⟨g, cap, cur, hv, _⟩
      · omega
      · exact ⟨_, _, hv⟩
    refine hK A' c' w' ?_ (below_of_grown hb hB fun k hk => ((World.ownsRow.lt hown) k hk).1) hlt
    rw [EOwn, ecells_snoc, List.length_append]
    exact h3
set_option maxHeartbeats 1000000 in
set_option maxRecDepth 100000 in
theorem mod9_any (k : Int) (_h1 : -9223372036854775808 ≤ k) (_h2 : k ≤ 9223372036854775807) (w : World) :
    Calls Tryz.prog 20 #[.int .i64 k, .int .i64 9] w fun e w' => ∃ r : Int, 0 ≤ r ∧ r ≤ 8 ∧ e = .returned (.int .i64 r) ∧ w' = w := by
  have h1 : -9 < k.tmod 9 := by
    by_cases h : 0 ≤ k
    · have := Int.tmod_nonneg 9 h
      omega
    · have e : (-k).tmod 9 = -(k.tmod 9) := Int.neg_tmod k 9
      have := Int.tmod_lt_of_pos (-k) (show (0 : Int) < 9 by decide)
      omega
  have h2 : k.tmod 9 < 9 := Int.tmod_lt_of_pos k (by decide)
  by_cases h0 : k.tmod 9 < 0
  · have hd : decide (k.tmod 9 < 0) = true := decide_eq_true h0
    go_enter Tryz.func20, Tryz.ntmps20
    go_wp2
    go_ret
    exact ⟨k.tmod 9 + 9, by omega, by omega, by first | rfl | simp, rfl⟩
  · have hd : decide (k.tmod 9 < 0) = false := decide_eq_false h0
    go_enter Tryz.func20, Tryz.ntmps20
    go_wp2
    go_ret
    exact ⟨k.tmod 9, by omega, by omega, by first | rfl | simp, rfl⟩
theorem mulL_one {k : Int} {l : List (Int × Int)} {j : Nat} {x : Int × Int} (hx : l[j]? = some x) : mulL k (l.take (j + 1)) = mulL k (l.take j) ++ [(x.1, k * x.2)] := by
  obtain ⟨hj, rfl⟩ := List.getElem?_eq_some_iff.1 hx
  rw [List.take_succ_eq_append_getElem hj, mulL, mulL, List.map_append]; rfl
theorem mul_bd9 {k v : Int} (h1 : 1 ≤ k) (h2 : k ≤ 9) (h3 : 1 ≤ v) (h4 : v ≤ 111) : 1 ≤ k * v ∧ k * v ≤ 999 := by
  have h5 := Int.mul_le_mul h2 h4 (by omega) (by omega)
  have h6 := Int.mul_pos (show 0 < k by omega) (show 0 < v by omega)
  omega
theorem mulL_get {k : Int} {l : List (Int × Int)} {i : Nat} : (mulL k l)[i]? = (l[i]?).map fun x => (x.1, k * x.2) := by rw [mulL, List.getElem?_map]
theorem mulL_HV {k id f t : Int} {l : List (Int × Int)} (h1 : 1 ≤ k) (h2 : k ≤ 9) (hv : ∀ x ∈ l, 1 ≤ x.2 ∧ x.2 ≤ 111) : HV id (mulL k l) f t ↔ HV id l f t := by
  unfold HV
  rw [mulL_len]
  have key : Listed 1 999 (mulL k l) ↔ Listed 1 999 l := by
    constructor
    · intro h i x hx
      obtain ⟨g1, _, g3⟩ := h i (x.1, k * x.2) (by rw [mulL_get, hx]; rfl)
      have g4 := hv x (List.mem_of_getElem? hx)
      exact ⟨g1, ⟨g4.1, by omega⟩, fun j y hj hy => g3 j (y.1, k * y.2) hj (by rw [mulL_get, hy]; rfl)⟩
    · intro h i x hx
      rw [mulL_get] at hx
      obtain ⟨z, hz, rfl⟩ := Option.map_eq_some_iff.1 hx
      obtain ⟨g1, _, g3⟩ := h i z hz
      have g4 := hv z (List.mem_of_getElem? hz)
      refine ⟨g1, mul_bd9 h1 h2 g4.1 g4.2, fun j y hj hy => ?_⟩
      rw [mulL_get] at hy
      obtain ⟨u, hu, rfl⟩ := Option.map_eq_some_iff.1 hy
      exact g3 j u hj hu
  rw [key]
set_option maxHeartbeats 2000000 in
set_option maxRecDepth 100000 in
theorem sc_few {ia fa ta ib fb tb kk : Int} {Aa Ab : Option Addr} {ca cb : Nat} {la lb : List (Int × Int)} (w : World) (hT : Tab w) (EA : Es w Aa la) (hla : la.length ≤ 9223372036854775807) (EB : Es w Ab lb) (hlb : lb.length ≤ 9223372036854775807) (hfew : fewS [⟨ia, Aa, ca, la, fa, ta⟩, ⟨ib, Ab, cb, lb, fb, tb⟩] = false) :
    Calls Tryz.prog 4 #[.agg #[.int .i64 ia, .slice Aa la.length ca, .int .i64 fa, .int .i64 ta], .agg #[.int .i64 ib, .slice Ab lb.length cb, .int .i64 fb, .int .i64 tb], .int .i64 kk] w (RetB w true) := by
  go_enter Tryz.func4, Tryz.ntmps4
  go_wp2_with fail
  have HX := BL.two w #[.int .i64 ia, .slice Aa la.length ca, .int .i64 fa, .int .i64 ta] #[.int .i64 ib, .slice Ab lb.length cb, .int .i64 fb, .int .i64 tb] 26 26
  replace hT := hT.ext HX.below
  replace EA := EA.ext HX.below
  replace EB := EB.ext HX.below
  refine (awake_any _ hT).mono ?_
  rintro e wA ⟨rfl, hb⟩
  replace HX := HX.ext hb
  replace hT := hT.ext hb
  replace EA := EA.ext hb
  replace EB := EB.ext hb
  clear hb
  have hc00 := HX.cell 0 0 rfl rfl
  have hc01 := HX.cell 0 1 rfl rfl
  have hc02 := HX.cell 0 2 rfl rfl
  have hc03 := HX.cell 0 3 rfl rfl
  try simp only [List.getElem_toArray, List.getElem_cons_zero, List.getElem_cons_succ] at hc00 hc01 hc02 hc03
  have hc10 := HX.cell 1 0 rfl rfl
  have hc11 := HX.cell 1 1 rfl rfl
  have hc12 := HX.cell 1 2 rfl rfl
  have hc13 := HX.cell 1 3 rfl rfl
  try simp only [List.getElem_toArray, List.getElem_cons_zero, List.getElem_cons_succ] at hc10 hc11 hc12 hc13
  have HLL := HL.lit wA 26 [⟨ia, Aa, ca, la, fa, ta⟩, ⟨ib, Ab, cb, lb, fb, tb⟩] #[.int .i64 ia, .slice Aa la.length ca, .int .i64 fa, .int .i64 ta, .int .i64 ib, .slice Ab lb.length cb, .int .i64 fb, .int .i64 tb] rfl (fun i x hx => by
    match i, hx with
    | 0, hx => simp at hx; subst hx; exact ⟨EA, hla⟩
    | 1, hx => simp at hx; subst hx; exact ⟨EB, hlb⟩
    | i + 2, hx => simp at hx)
  have hb := below_alloc wA (.cells #[.int .i64 ia, .slice Aa la.length ca, .int .i64 fa, .int .i64 ta, .int .i64 ib, .slice Ab lb.length cb, .int .i64 fb, .int .i64 tb] 26)
  have cF : Calls Tryz.prog 12 #[.slice (some ⟨wA.heap.size, 0, none⟩) 2 2] (wA.alloc (.cells #[.int .i64 ia, .slice Aa la.length ca, .int .i64 fa, .int .i64 ta, .int .i64 ib, .slice Ab lb.length cb, .int .i64 fb, .int .i64 tb] 26)) (RetB (wA.alloc (.cells #[.int .i64 ia, .slice Aa la.length ca, .int .i64 fa, .int .i64 ta, .int .i64 ib, .slice Ab lb.length cb, .int .i64 fb, .int .i64 tb] 26)) false) := by
    have h := few_any (some ⟨wA.heap.size, 0, none⟩) 2 [⟨ia, Aa, ca, la, fa, ta⟩, ⟨ib, Ab, cb, lb, fb, tb⟩] _ HLL (by simp)
    rw [hfew] at h
    exact h
  go_wp2_with fail
  refine cF.mono ?_
  rintro e wB ⟨rfl, hb2⟩
  replace hb := bel_trans hb hb2
  clear hb2 cF HLL hc00 hc01 hc02 hc03 hc10 hc11 hc12 hc13
  replace HX := HX.ext hb
  replace hT := hT.ext hb
  replace EA := EA.ext hb
  replace EB := EB.ext hb
  clear hb
  go_wp2_with fail
  refine (awake_any _ hT).mono ?_
  rintro e wz ⟨rfl, hb⟩
  replace HX := HX.ext hb
  clear hb
  go_wp2
  go_ret
  exact ⟨by first | rfl | simp, HX.below⟩
set_option maxHeartbeats 16000000 in
set_option maxRecDepth 100000 in
theorem sc_ok {ia fa ta ib fb tb kk : Int} {Aa Ab : Option Addr} {ca cb : Nat} {la lb : List (Int × Int)} (w : World) (hT : Tab w) (EA : Es w Aa la) (hla : la.length ≤ 9223372036854775807) (EB : Es w Ab lb) (hlb : lb.length ≤ 9223372036854775807) (hk1 : -9223372036854775808 ≤ kk) (hk2 : kk ≤ 9223372036854775807) (hfew : fewS [⟨ia, Aa, ca, la, fa, ta⟩, ⟨ib, Ab, cb, lb, fb, tb⟩] = true) :
    Calls Tryz.prog 4 #[.agg #[.int .i64 ia, .slice Aa la.length ca, .int .i64 fa, .int .i64 ta], .agg #[.int .i64 ib, .slice Ab lb.length cb, .int .i64 fb, .int .i64 tb], .int .i64 kk] w (RetB w true) := by
  have hl40 := Lib.hid (show la.length ≤ 40 by
    rw [fewS, Bool.and_eq_true, List.all_eq_true] at hfew
    exact of_decide_eq_true (hfew.1 _ List.mem_cons_self))
  have EA0 := EA
  have EB0 := EB
  go_enter Tryz.func4, Tryz.ntmps4
  go_wp2_with fail
  have HX := BL.two w #[.int .i64 ia, .slice Aa la.length ca, .int .i64 fa, .int .i64 ta] #[.int .i64 ib, .slice Ab lb.length cb, .int .i64 fb, .int .i64 tb] 26 26
  replace hT := hT.ext HX.below
  replace EA := EA.ext HX.below
  replace EB := EB.ext HX.below
  refine (awake_any _ hT).mono ?_
  rintro e wA ⟨rfl, hb⟩
  replace HX := HX.ext hb
  replace hT := hT.ext hb
  replace EA := EA.ext hb
  replace EB := EB.ext hb
  clear hb
  have hc00 := HX.cell 0 0 rfl rfl
  have hc01 := HX.cell 0 1 rfl rfl
  have hc02 := HX.cell 0 2 rfl rfl
  have hc03 := HX.cell 0 3 rfl rfl
  try simp only [List.getElem_toArray, List.getElem_cons_zero, List.getElem_cons_succ] at hc00 hc01 hc02 hc03
  have hc10 := HX.cell 1 0 rfl rfl
  have hc11 := HX.cell 1 1 rfl rfl
  have hc12 := HX.cell 1 2 rfl rfl
  have hc13 := HX.cell 1 3 rfl rfl
  try simp only [List.getElem_toArray, List.getElem_cons_zero, List.getElem_cons_succ] at hc10 hc11 hc12 hc13
  have HLL := HL.lit wA 26 [⟨ia, Aa, ca, la, fa, ta⟩, ⟨ib, Ab, cb, lb, fb, tb⟩] #[.int .i64 ia, .slice Aa la.length ca, .int .i64 fa, .int .i64 ta, .int .i64 ib, .slice Ab lb.length cb, .int .i64 fb, .int .i64 tb] rfl (fun i x hx => by
    match i, hx with
    | 0, hx => simp at hx; subst hx; exact ⟨EA, hla⟩
    | 1, hx => simp at hx; subst hx; exact ⟨EB, hlb⟩
    | i + 2, hx => simp at hx)
  have hb := below_alloc wA (.cells #[.int .i64 ia, .slice Aa la.length ca, .int .i64 fa, .int .i64 ta, .int .i64 ib, .slice Ab lb.length cb, .int .i64 fb, .int .i64 tb] 26)
  have cF : Calls Tryz.prog 12 #[.slice (some ⟨wA.heap.size, 0, none⟩) 2 2] (wA.alloc (.cells #[.int .i64 ia, .slice Aa la.length ca, .int .i64 fa, .int .i64 ta, .int .i64 ib, .slice Ab lb.length cb, .int .i64 fb, .int .i64 tb] 26)) (RetB (wA.alloc (.cells #[.int .i64 ia, .slice Aa la.length ca, .int .i64 fa, .int .i64 ta, .int .i64 ib, .slice Ab lb.length cb, .int .i64 fb, .int .i64 tb] 26)) true) := by
    have h := few_any (some ⟨wA.heap.size, 0, none⟩) 2 [⟨ia, Aa, ca, la, fa, ta⟩, ⟨ib, Ab, cb, lb, fb, tb⟩] _ HLL (by simp)
    rw [hfew] at h
    exact h
  go_wp2_with fail
  refine cF.mono ?_
  rintro e wB ⟨rfl, hb2⟩
  replace hb := bel_trans hb hb2
  clear hb2 cF HLL hc00 hc01 hc02 hc03 hc10 hc11 hc12 hc13
  replace HX := HX.ext hb
  replace hT := hT.ext hb
  replace EA := EA.ext hb
  replace EB := EB.ext hb
  clear hb
  clear hT EA EB
  go_wp2_with fail
  refine (mod9_any kk hk1 hk2 _).mono ?_
  rintro e w3 ⟨r, hr1, hr2, rfl, rfl⟩
  have hc00 := HX.cell 0 0 rfl rfl
  have hc01 := HX.cell 0 1 rfl rfl
  have hc02 := HX.cell 0 2 rfl rfl
  have hc03 := HX.cell 0 3 rfl rfl
  try simp only [List.getElem_toArray, List.getElem_cons_zero, List.getElem_cons_succ] at hc00 hc01 hc02 hc03
  have hsz3 := HX.lt 1 rfl
  simp only [] at hsz3
  go_upto_region 5 with fail
  clear hc00 hc01 hc02 hc03
  have hb := below_alloc w3 (.cells #[.int .i64 ia, .slice none 0 0, .int .i64 fa, .int .i64 ta] 26)
  replace HX := HX.new #[.int .i64 ia, .slice none 0 0, .int .i64 fa, .int .i64 ta] 26
  simp only [List.cons_append, List.nil_append] at HX
  clear hb
  generalize w3.alloc (.cells #[.int .i64 ia, .slice none 0 0, .int .i64 fa, .int .i64 ta] 26) = W3 at *
  generalize w3.heap.size = g3 at *
  obtain ⟨k, hkd⟩ : ∃ k, 1 + r = k := ⟨_, rfl⟩
  have hk1 : 1 ≤ k := by omega
  have hk2 : k ≤ 9 := by omega
  rw [hkd]
  clear hkd hr1 hr2
  have hltB := HX.lt 2 rfl
  simp only [] at hltB
  obtain ⟨B, hB⟩ : ∃ B, W3.heap.size = B := ⟨_, rfl⟩
  have hBw : w.heap.size ≤ B := by omega
  have hBw2 : g3 < B := by omega
  have HOWN := EOwn.nil W3 B
  go_wp2
  go_loopg [8] la.length (fun g i wr => ∃ (j : Nat) (A8 : Option Addr) (c8 : Nat) (m : List (Int × Int)), j + g = la.length ∧ i = .int .i64 (j : Int) ∧ Hid (mulL k (la.take j) = m) ∧ Hid (∀ x ∈ la.take j, 1 ≤ x.2 ∧ x.2 ≤ 111) ∧ EOwn wr B A8 c8 m ∧ BL w wr [(w.heap.size, #[.int .i64 ia, .slice Aa la.length ca, .int .i64 fa, .int .i64 ta], 26), (w.heap.size + 1, #[.int .i64 ib, .slice Ab lb.length cb, .int .i64 fb, .int .i64 tb], 26), (g3, #[.int .i64 ia, .slice A8 m.length c8, .int .i64 fa, .int .i64 ta], 26)] ∧ B ≤ wr.heap.size)
  case atStart => exact ⟨0, none, 0, [], by omega, rfl, Lib.hid rfl, Lib.hid (fun x h => by simp at h), HOWN, HX, by omega⟩
  case round =>
    clear HX HOWN hB
    obtain ⟨j, A8, c8, m, hj, rfl, hm, hvv, HOWN, HX, hBr⟩ := hrel
    have hml := Lib.hid (show m.length = j by rw [← hm.out, mulL_len, List.length_take]; omega)
    by_cases hj0 : j < la.length
    · have hx := Lib.hid (List.getElem?_eq_getElem hj0)
      obtain ⟨ad, rfl, hbk, hkx, hvx⟩ := (EA0.ext HX.below).at_ hx.out
      have hnx := Lib.hid ((mulL_one (k := k) hx.out).trans (congrArg (· ++ [((la[j]).1, k * (la[j]).2)]) hm.out))
      have hvn0 := show (1 ≤ (la[j]).2 ∧ (la[j]).2 ≤ 111) → ∀ x ∈ la.take (j + 1), 1 ≤ x.2 ∧ x.2 ≤ 111 from fun h x hxm => by
        rw [List.take_succ_eq_append_getElem hj0] at hxm
        rcases List.mem_append.1 hxm with hxm | hxm
        · exact hvv.out x hxm
        · rw [List.mem_singleton.1 hxm]; exact h
      generalize la[j] = xx at *
      obtain ⟨x, v⟩ := xx
      simp only [] at hkx hvx hnx hvn0
      have hvn1 := Lib.hid hvn0
      clear hvn0
      have hc00 := HX.cell 0 0 rfl rfl
      have hc01 := HX.cell 0 1 rfl rfl
      have hc02 := HX.cell 0 2 rfl rfl
      have hc03 := HX.cell 0 3 rfl rfl
      try simp only [List.getElem_toArray, List.getElem_cons_zero, List.getElem_cons_succ] at hc00 hc01 hc02 hc03
      by_cases hv : 1 ≤ v ∧ v ≤ 111
      · have YV := yes (show Rng v 1 111 from hv)
        have hvn := Lib.hid (hvn1.out hv)
        obtain ⟨m1, m2⟩ := mul_bd9 hk1 hk2 hv.1 hv.2
        have hw1 : IntKind.i64.wrap (k * v) = k * v := Go.IntWalk.i64_in _ (by omega)
        clear hvn1 hv
        go_wp2_with fail
        refine (bin_any (b := true) _ YV).mono ?_
        rintro e w4 ⟨rfl, hw4⟩
        have hw5 := hw4.symm
        subst hw5
        clear hw4
        go_upto_region 11 with fail
        clear hc00 hc01 hc02 hc03 hkx hvx
        have hlt40 := hl40.out
        have held : ∀ {W' : World} {L : List (Nat × Array Value × TypeId)}, BL w W' ((w.heap.size, #[.int .i64 ia, .slice (some ad) la.length ca, .int .i64 fa, .int .i64 ta], 26) :: L) → W'.cell? ⟨w.heap.size, 1, none⟩ = some (.slice (some ad) la.length ca) ∧ W'.cell? (ad.add (j * 2)) = some (.int .i64 x) := fun h => ⟨h.cell 0 1 rfl rfl, by
          obtain ⟨ad1, e1, _, r1, r2⟩ := (EA0.ext h.below).at_ hx.out
          obtain rfl := Option.some.inj e1
          exact r1⟩
        have hc21 := HX.cell 2 1 rfl rfl
        have hl3 := HX.lt 2 rfl
        try simp only [List.getElem_toArray, List.getElem_cons_zero, List.getElem_cons_succ] at hc21 hl3
        replace HX := HX.ext (drew_ext _)
        replace HOWN := HOWN.ext (drew_ext _)
        replace hBr : B ≤ wr.drew.heap.size := hBr
        refine wp_region_held_drew (S := fun W' => W'.cell? ⟨w.heap.size, 1, none⟩ = some (.slice (some ad) la.length ca) ∧ W'.cell? (ad.add (j * 2)) = some (.int .i64 x)) (by kernel_rfl) (held HX) (fun hHeld => ?_)
        refine wpAnyH_take (i := 0) (v := ?_) (by simp only [List.getElem?_toArray, List.getElem?_cons_zero]; rfl) (by kernel_rfl) (by kernel_rfl) (by kernel_rfl) (by exact fun _ _ _ h => h) (Or.inl ⟨by kernel_rfl, ?_⟩) (by assumption) ?_
        rotate_left
        · intro w hSw; (try dsimp only at hSw); go_simp <;> (try with_reducible rfl)
        try simp only [Act.put, List.setIfInBounds_toArray, List.set_cons_zero, List.set_cons_succ]
        refine wpAnyH_take (i := 2) (v := ?_) (by simp only [List.getElem?_toArray, List.getElem?_cons_succ, List.getElem?_cons_zero]; rfl) (by kernel_rfl) (by kernel_rfl) (by kernel_rfl) (by exact fun _ _ _ h => h) (Or.inl ⟨by kernel_rfl, ?_⟩) (by assumption) ?_
        rotate_left
        · intro w hSw; (try dsimp only at hSw); go_simp <;> (try with_reducible rfl)
        try simp only [Act.put, List.setIfInBounds_toArray, List.set_cons_zero, List.set_cons_succ]
        refine wpAnyH_take (i := 3) (v := ?_) (by simp only [List.getElem?_toArray, List.getElem?_cons_succ, List.getElem?_cons_zero]; rfl) (by kernel_rfl) (by kernel_rfl) (by kernel_rfl) (by exact fun _ _ _ h => h) (Or.inl ⟨by kernel_rfl, ?_⟩) (by assumption) ?_
        rotate_left
        · intro w hSw; (try dsimp only at hSw); go_simp <;> (try with_reducible rfl)
        try simp only [Act.put, List.setIfInBounds_toArray, List.set_cons_zero, List.set_cons_succ]
        refine wpAnyH_take (i := 4) (v := ?_) (by simp only [List.getElem?_toArray, List.getElem?_cons_succ, List.getElem?_cons_zero]; rfl) (by kernel_rfl) (by kernel_rfl) (by kernel_rfl) (by exact fun _ _ _ h => h) (Or.inl ⟨by kernel_rfl, ?_⟩) (by assumption) ?_
        rotate_left
        · intro w hSw; (try dsimp only at hSw); go_simp <;> (try with_reducible rfl)
        try simp only [Act.put, List.setIfInBounds_toArray, List.set_cons_zero, List.set_cons_succ]
        refine wpAnyH_take (i := 5) (v := ?_) (by simp only [List.getElem?_toArray, List.getElem?_cons_succ, List.getElem?_cons_zero]; rfl) (by kernel_rfl) (by kernel_rfl) (by kernel_rfl) (by exact fun _ _ _ h => h) (Or.inl ⟨by kernel_rfl, ?_⟩) (by assumption) ?_
        rotate_left
        · intro w hSw; (try dsimp only at hSw); go_simp <;> (try with_reducible rfl)
        try simp only [Act.put, List.setIfInBounds_toArray, List.set_cons_zero, List.set_cons_succ]
        refine wpAnyH_take (i := 6) (v := ?_) (by simp only [List.getElem?_toArray, List.getElem?_cons_succ, List.getElem?_cons_zero]; rfl) (by kernel_rfl) (by kernel_rfl) (by kernel_rfl) (by exact fun _ _ _ h => h) (Or.inl ⟨by kernel_rfl, ?_⟩) (by assumption) ?_
        rotate_left
        · intro w hSw; (try dsimp only at hSw); go_simp <;> (try with_reducible rfl)
        try simp only [Act.put, List.setIfInBounds_toArray, List.set_cons_zero, List.set_cons_succ]
        refine wpAnyH_take (i := 7) (v := ?_) (by simp only [List.getElem?_toArray, List.getElem?_cons_succ, List.getElem?_cons_zero]; rfl) (by kernel_rfl) (by kernel_rfl) (by kernel_rfl) (by exact fun _ _ _ h => h) (Or.inl ⟨by kernel_rfl, ?_⟩) (by assumption) ?_
        rotate_left
        · intro w hSw; (try dsimp only at hSw); go_simp <;> (try with_reducible rfl)
        try simp only [Act.put, List.setIfInBounds_toArray, List.set_cons_zero, List.set_cons_succ]
        refine wpAnyH_take (i := 8) (v := ?_) (by simp only [List.getElem?_toArray, List.getElem?_cons_succ, List.getElem?_cons_zero]; rfl) (by kernel_rfl) (by kernel_rfl) (by kernel_rfl) (by exact fun _ _ _ h => h) (Or.inl ⟨by kernel_rfl, ?_⟩) (by assumption) ?_
        rotate_left
        · intro w hSw; (try dsimp only at hSw); go_simp <;> (try with_reducible rfl)
        try simp only [Act.put, List.setIfInBounds_toArray, List.set_cons_zero, List.set_cons_succ]
        refine wpAnyH_take (i := 9) (v := ?_) (by simp only [List.getElem?_toArray, List.getElem?_cons_succ, List.getElem?_cons_zero]; rfl) (by kernel_rfl) (by kernel_rfl) (by kernel_rfl) (by exact fun _ _ _ h => h) (Or.inl ⟨by kernel_rfl, ?_⟩) (by assumption) ?_
        rotate_left
        · intro w hSw; (try dsimp only at hSw); go_simp <;> (try with_reducible rfl)
        try simp only [Act.put, List.setIfInBounds_toArray, List.set_cons_zero, List.set_cons_succ]
        refine wpAnyH_take (i := 10) (v := ?_) (by simp only [List.getElem?_toArray, List.getElem?_cons_succ, List.getElem?_cons_zero]; rfl) (by kernel_rfl) (by kernel_rfl) (by kernel_rfl) (by exact fun _ _ _ h => h) (Or.inl ⟨by kernel_rfl, ?_⟩) (by assumption) ?_
        rotate_left
        · intro w hSw; (try dsimp only at hSw); go_simp <;> (try with_reducible rfl)
        try simp only [Act.put, List.setIfInBounds_toArray, List.set_cons_zero, List.set_cons_succ]
        refine wpAnyH_take (i := 11) (v := ?_) (by simp only [List.getElem?_toArray, List.getElem?_cons_succ, List.getElem?_cons_zero]; rfl) (by kernel_rfl) (by kernel_rfl) (by kernel_rfl) (by exact fun _ _ _ h => h) (Or.inl ⟨by kernel_rfl, ?_⟩) (by assumption) ?_
        rotate_left
        · intro w hSw; (try dsimp only at hSw); go_simp <;> (try with_reducible rfl)
        try simp only [Act.put, List.setIfInBounds_toArray, List.set_cons_zero, List.set_cons_succ]
        refine wpAnyH_ready (rs := [1, 12]) (by kernel_rfl) (by simp) ?_
        refine AllReadyH.cons (by simp only [List.getElem?_toArray, List.getElem?_cons_succ, List.getElem?_cons_zero]; rfl) (fun K hK => ?_) (AllReadyH.cons (by simp only [List.getElem?_toArray, List.getElem?_cons_succ, List.getElem?_cons_zero]; rfl) (fun K hK => ?_) AllReadyH.nil)
        · go_simp
          clear hHeld
          refine hK.out _ _ (held HX) (fun hHeld => ?_)
          clear hK K
          try simp only [Act.put, List.setIfInBounds_toArray, List.set_cons_zero, List.set_cons_succ]
          refine wpAnyH_ready (rs := [12]) (by kernel_rfl) (by simp) ?_
          refine AllReadyH.cons (by simp only [List.getElem?_toArray, List.getElem?_cons_succ, List.getElem?_cons_zero]; rfl) (fun K hK => ?_) AllReadyH.nil
          go_simp
          clear hHeld
          refine hK.out _ _ (held (HX.ext (below_alloc _ _))) (fun hHeld => ?_)
          clear hK K
          try simp only [Act.put, List.setIfInBounds_toArray, List.set_cons_zero, List.set_cons_succ]
          refine wpAnyH_ready (rs := [13]) (by kernel_rfl) (by simp) ?_
          refine AllReadyH.cons (by simp only [List.getElem?_toArray, List.getElem?_cons_succ, List.getElem?_cons_zero]; rfl) (fun K hK => ?_) AllReadyH.nil
          refine step_epush wr.drew rfl _ _ rfl rfl rfl HOWN (by have := hml.out; omega) hBr ?_
          intro A9 c9 w7 HOWN2 hb7 hlt7
          replace HX := HX.low hBw (by intro i q hq; match i, hq with | 0, hq => (simp at hq; subst hq; simp; try omega) | 1, hq => (simp at hq; subst hq; simp; try omega) | 2, hq => (simp at hq; subst hq; simp; try omega) | i + 3, hq => simp at hq) hb7
          clear hc21 hl3 hHeld
          have hc21 := HX.cell 2 1 rfl rfl
          have hf21 := HX.free 2 1 rfl
          try simp only [List.getElem_toArray, List.getElem_cons_zero, List.getElem_cons_succ] at hc21 hf21
          refine hK.out _ _ (held HX) (fun hHeld => ?_)
          clear hK K
          try simp only [Act.put, List.setIfInBounds_toArray, List.set_cons_zero, List.set_cons_succ]
          refine wpAnyH_ready (rs := [14]) (by kernel_rfl) (by simp) ?_
          refine AllReadyH.cons (by simp only [List.getElem?_toArray, List.getElem?_cons_succ, List.getElem?_cons_zero]; rfl) (fun K hK => ?_) AllReadyH.nil
          go_simp
          clear hHeld
          refine hK.out _ _ (held HX) (fun hHeld => ?_)
          clear hK K
          try simp only [Act.put, List.setIfInBounds_toArray, List.set_cons_zero, List.set_cons_succ]
          refine wpAnyH_ready (rs := [15]) (by kernel_rfl) (by simp) ?_
          refine AllReadyH.cons (by simp only [List.getElem?_toArray, List.getElem?_cons_succ, List.getElem?_cons_zero]; rfl) (fun K hK => ?_) AllReadyH.nil
          go_simp
          clear hHeld
          refine hK.out _ _ (held (HX.set1 2 rfl (by omega) (by intro k q hk hne; match k, hk with | 0, hk => (simp at hk; subst hk; simp at hne ⊢; try omega) | 1, hk => (simp at hk; subst hk; simp at hne ⊢; try omega) | 2, hk => (simp at hk; subst hk; simp at hne ⊢; try omega) | k + 3, hk => simp at hk) 1 _)) (fun hHeld => ?_)
          clear hK K
          try simp only [Act.put, List.setIfInBounds_toArray, List.set_cons_zero, List.set_cons_succ]
          refine wpAnyH_done (by kernel_rfl) ?_ _
          clear hc21 hf21 held hHeld
          have hB7 : B ≤ w7.heap.size := by omega
          replace HX := HX.set1 2 rfl (by omega) (by intro k q hk hne; match k, hk with | 0, hk => (simp at hk; subst hk; simp at hne ⊢; try omega) | 1, hk => (simp at hk; subst hk; simp at hne ⊢; try omega) | 2, hk => (simp at hk; subst hk; simp at hne ⊢; try omega) | k + 3, hk => simp at hk) 1 (.slice A9 (m.length + 1) c9)
          simp only [List.set_cons_zero, List.set_cons_succ, List.setIfInBounds_toArray] at HX
          replace HOWN2 := HOWN2.far (p := ⟨g3, 1, none⟩) (by show g3 < B; omega) (.slice A9 (m.length + 1) c9)
          have hB8 : B ≤ (w7.setCell ⟨g3, 1, none⟩ (.slice A9 (m.length + 1) c9)).heap.size := by simpa [World.setCell] using hB7
          generalize w7.setCell ⟨g3, 1, none⟩ (.slice A9 (m.length + 1) c9) = w8 at *
          go_wp2
          go_roundg (la.length - (j + 1))
          case measure => omega
          case rel => exact ⟨j + 1, A9, c9, _, by omega, by go_num, hnx, hvn, HOWN2, by rw [List.length_append]; exact HX, hB8⟩
        · go_simp
          clear hHeld
          refine hK.out _ _ (held (HX.ext (below_alloc _ _))) (fun hHeld => ?_)
          clear hK K
          try simp only [Act.put, List.setIfInBounds_toArray, List.set_cons_zero, List.set_cons_succ]
          refine wpAnyH_ready (rs := [1]) (by kernel_rfl) (by simp) ?_
          refine AllReadyH.cons (by simp only [List.getElem?_toArray, List.getElem?_cons_succ, List.getElem?_cons_zero]; rfl) (fun K hK => ?_) AllReadyH.nil
          go_simp
          clear hHeld
          refine hK.out _ _ (held (HX.ext (below_alloc _ _))) (fun hHeld => ?_)
          clear hK K
          try simp only [Act.put, List.setIfInBounds_toArray, List.set_cons_zero, List.set_cons_succ]
          refine wpAnyH_ready (rs := [13]) (by kernel_rfl) (by simp) ?_
          refine AllReadyH.cons (by simp only [List.getElem?_toArray, List.getElem?_cons_succ, List.getElem?_cons_zero]; rfl) (fun K hK => ?_) AllReadyH.nil
          refine step_epush wr.drew rfl _ _ rfl rfl rfl HOWN (by have := hml.out; omega) hBr ?_
          intro A9 c9 w7 HOWN2 hb7 hlt7
          replace HX := HX.low hBw (by intro i q hq; match i, hq with | 0, hq => (simp at hq; subst hq; simp; try omega) | 1, hq => (simp at hq; subst hq; simp; try omega) | 2, hq => (simp at hq; subst hq; simp; try omega) | i + 3, hq => simp at hq) hb7
          clear hc21 hl3 hHeld
          have hc21 := HX.cell 2 1 rfl rfl
          have hf21 := HX.free 2 1 rfl
          try simp only [List.getElem_toArray, List.getElem_cons_zero, List.getElem_cons_succ] at hc21 hf21
          refine hK.out _ _ (held HX) (fun hHeld => ?_)
          clear hK K
          try simp only [Act.put, List.setIfInBounds_toArray, List.set_cons_zero, List.set_cons_succ]
          refine wpAnyH_ready (rs := [14]) (by kernel_rfl) (by simp) ?_
          refine AllReadyH.cons (by simp only [List.getElem?_toArray, List.getElem?_cons_succ, List.getElem?_cons_zero]; rfl) (fun K hK => ?_) AllReadyH.nil
          go_simp
          clear hHeld
          refine hK.out _ _ (held HX) (fun hHeld => ?_)
          clear hK K
          try simp only [Act.put, List.setIfInBounds_toArray, List.set_cons_zero, List.set_cons_succ]
          refine wpAnyH_ready (rs := [15]) (by kernel_rfl) (by simp) ?_
          refine AllReadyH.cons (by simp only [List.getElem?_toArray, List.getElem?_cons_succ, List.getElem?_cons_zero]; rfl) (fun K hK => ?_) AllReadyH.nil
          go_simp
          clear hHeld
          refine hK.out _ _ (held (HX.set1 2 rfl (by omega) (by intro k q hk hne; match k, hk with | 0, hk => (simp at hk; subst hk; simp at hne ⊢; try omega) | 1, hk => (simp at hk; subst hk; simp at hne ⊢; try omega) | 2, hk => (simp at hk; subst hk; simp at hne ⊢; try omega) | k + 3, hk => simp at hk) 1 _)) (fun hHeld => ?_)
          clear hK K
          try simp only [Act.put, List.setIfInBounds_toArray, List.set_cons_zero, List.set_cons_succ]
          refine wpAnyH_done (by kernel_rfl) ?_ _
          clear hc21 hf21 held hHeld
          have hB7 : B ≤ w7.heap.size := by omega
          replace HX := HX.set1 2 rfl (by omega) (by intro k q hk hne; match k, hk with | 0, hk => (simp at hk; subst hk; simp at hne ⊢; try omega) | 1, hk => (simp at hk; subst hk; simp at hne ⊢; try omega) | 2, hk => (simp at hk; subst hk; simp at hne ⊢; try omega) | k + 3, hk => simp at hk) 1 (.slice A9 (m.length + 1) c9)
          simp only [List.set_cons_zero, List.set_cons_succ, List.setIfInBounds_toArray] at HX
          replace HOWN2 := HOWN2.far (p := ⟨g3, 1, none⟩) (by show g3 < B; omega) (.slice A9 (m.length + 1) c9)
          have hB8 : B ≤ (w7.setCell ⟨g3, 1, none⟩ (.slice A9 (m.length + 1) c9)).heap.size := by simpa [World.setCell] using hB7
          generalize w7.setCell ⟨g3, 1, none⟩ (.slice A9 (m.length + 1) c9) = w8 at *
          go_wp2
          go_roundg (la.length - (j + 1))
          case measure => omega
          case rel => exact ⟨j + 1, A9, c9, _, by omega, by go_num, hnx, hvn, HOWN2, by rw [List.length_append]; exact HX, hB8⟩
      · have NV := no (show ¬ Rng v 1 111 from hv)
        clear hvn1 hv
        go_wp2_with fail
        refine (bin_any (b := false) _ NV).mono ?_
        rintro e w4 ⟨rfl, hw4⟩
        have hw5 := hw4.symm
        subst hw5
        clear hw4
        go_wp2
        go_ret
        exact ⟨by first | rfl | simp, HX.below⟩
    · have hjl : la.take j = la := List.take_of_length_le (by omega)
      have hvl := Lib.hid (show ∀ x ∈ la, 1 ≤ x.2 ∧ x.2 ≤ 111 by have := hvv.out; rwa [hjl] at this)
      have hmm := Lib.hid (show mulL k la = m by have := hm.out; rwa [hjl] at this)
      have EM := HOWN.es
      have EA := EA0.ext HX.below
      have EB := EB0.ext HX.below
      have hiff := Lib.hid (show HV ia m fa ta ↔ HV ia la fa ta by rw [← hmm.out]; exact mulL_HV hk1 hk2 hvl.out)
      clear hjl hvv hm HOWN
      by_cases hvab : HV ia la fa ta ∧ HV ib lb fb tb
      · obtain ⟨va, vb⟩ := hvab
        have VA := Lib.hid va
        have VB := Lib.hid vb
        have VM := Lib.hid (hiff.out.2 va)
        obtain ⟨q, HQ⟩ : ∃ q, Hid (coD la lb 99 = q) := ⟨_, Lib.hid rfl⟩
        have HQ2 : Hid (coD m lb 99 = q) := Lib.hid (by
          have h1 := va.pos
          have h2 := vb.pos
          rw [← HQ.out, ← hmm.out]; exact mulL_co (by omega) (by omega) (by omega))
        clear va vb
        have hc00 := HX.cell 0 0 rfl rfl
        have hc01 := HX.cell 0 1 rfl rfl
        have hc02 := HX.cell 0 2 rfl rfl
        have hc03 := HX.cell 0 3 rfl rfl
        try simp only [List.getElem_toArray, List.getElem_cons_zero, List.getElem_cons_succ] at hc00 hc01 hc02 hc03
        have hc10 := HX.cell 1 0 rfl rfl
        have hc11 := HX.cell 1 1 rfl rfl
        have hc12 := HX.cell 1 2 rfl rfl
        have hc13 := HX.cell 1 3 rfl rfl
        try simp only [List.getElem_toArray, List.getElem_cons_zero, List.getElem_cons_succ] at hc10 hc11 hc12 hc13
        go_wp2_with fail
        refine (coeff_any Aa Ab ca cb la lb _ EA EB hla hlb VA.out VB.out HQ).mono ?_
        rintro e w1 ⟨A5, c5, B5, d5, rfl, F5, hb⟩
        clear hc00 hc01 hc02 hc03
        clear hc10 hc11 hc12 hc13
        replace HX := HX.ext hb
        replace EA := EA.ext hb
        replace EB := EB.ext hb
        replace EM := EM.ext hb
        clear hb
        go_upto_region 13 with fail
        have hb := below_alloc w1 (.cells #[.bool (sg q), .slice A5 (dig (nu q)).length c5, .slice B5 (dig q.den).length d5] 33)
        replace HX := HX.new #[.bool (sg q), .slice A5 (dig (nu q)).length c5, .slice B5 (dig q.den).length d5] 33
        simp only [List.cons_append, List.nil_append] at HX
        replace EA := EA.ext hb
        replace EB := EB.ext hb
        replace EM := EM.ext hb
        replace F5 := F5.ext hb
        clear hb
        generalize w1.alloc (.cells #[.bool (sg q), .slice A5 (dig (nu q)).length c5, .slice B5 (dig q.den).length d5] 33) = V1 at *
        generalize w1.heap.size = g1 at *
        have hc20 := HX.cell 2 0 rfl rfl
        have hc21 := HX.cell 2 1 rfl rfl
        have hc22 := HX.cell 2 2 rfl rfl
        have hc23 := HX.cell 2 3 rfl rfl
        try simp only [List.getElem_toArray, List.getElem_cons_zero, List.getElem_cons_succ] at hc20 hc21 hc22 hc23
        have hc10 := HX.cell 1 0 rfl rfl
        have hc11 := HX.cell 1 1 rfl rfl
        have hc12 := HX.cell 1 2 rfl rfl
        have hc13 := HX.cell 1 3 rfl rfl
        try simp only [List.getElem_toArray, List.getElem_cons_zero, List.getElem_cons_succ] at hc10 hc11 hc12 hc13
        go_wp2_with fail
        refine (coeff_any A8 Ab c8 cb m lb _ EM EB (by have := hml.out; omega) hlb VM.out VB.out HQ2).mono ?_
        rintro e w2 ⟨A6, c6, B6, d6, rfl, F6, hb⟩
        clear hc20 hc21 hc22 hc23
        clear hc10 hc11 hc12 hc13
        replace HX := HX.ext hb
        replace EA := EA.ext hb
        replace EB := EB.ext hb
        replace EM := EM.ext hb
        replace F5 := F5.ext hb
        clear hb
        go_upto_region 14 with fail
        have hb := below_alloc w2 (.cells #[.bool (sg q), .slice A6 (dig (nu q)).length c6, .slice B6 (dig q.den).length d6] 33)
        replace HX := HX.new #[.bool (sg q), .slice A6 (dig (nu q)).length c6, .slice B6 (dig q.den).length d6] 33
        simp only [List.cons_append, List.nil_append] at HX
        replace EA := EA.ext hb
        replace EB := EB.ext hb
        replace EM := EM.ext hb
        replace F5 := F5.ext hb
        replace F6 := F6.ext hb
        clear hb
        generalize w2.alloc (.cells #[.bool (sg q), .slice A6 (dig (nu q)).length c6, .slice B6 (dig q.den).length d6] 33) = V2 at *
        generalize w2.heap.size = g2 at *
        have hc30 := HX.cell 3 0 rfl rfl
        have hc31 := HX.cell 3 1 rfl rfl
        have hc32 := HX.cell 3 2 rfl rfl
        try simp only [List.getElem_toArray, List.getElem_cons_zero, List.getElem_cons_succ] at hc30 hc31 hc32
        have hc40 := HX.cell 4 0 rfl rfl
        have hc41 := HX.cell 4 1 rfl rfl
        have hc42 := HX.cell 4 2 rfl rfl
        try simp only [List.getElem_toArray, List.getElem_cons_zero, List.getElem_cons_succ] at hc40 hc41 hc42
        go_wp2_with fail
        refine (bfrac_s F5 F6 (by omega) (by omega)).mono ?_
        rintro e w3 ⟨rfl, hb⟩
        clear hc30 hc31 hc32
        clear hc40 hc41 hc42
        replace HX := HX.ext hb
        replace EA := EA.ext hb
        replace EB := EB.ext hb
        replace EM := EM.ext hb
        replace F5 := F5.ext hb
        replace F6 := F6.ext hb
        clear hb
        go_wp2
        go_ret
        exact ⟨by first | rfl | simp, HX.below⟩
      · have HN := Lib.hid hvab
        have HN2 := Lib.hid (show ¬ (HV ia m fa ta ∧ HV ib lb fb tb) from fun h => hvab ⟨hiff.out.1 h.1, h.2⟩)
        clear hvab
        have hc00 := HX.cell 0 0 rfl rfl
        have hc01 := HX.cell 0 1 rfl rfl
        have hc02 := HX.cell 0 2 rfl rfl
        have hc03 := HX.cell 0 3 rfl rfl
        try simp only [List.getElem_toArray, List.getElem_cons_zero, List.getElem_cons_succ] at hc00 hc01 hc02 hc03
        have hc10 := HX.cell 1 0 rfl rfl
        have hc11 := HX.cell 1 1 rfl rfl
        have hc12 := HX.cell 1 2 rfl rfl
        have hc13 := HX.cell 1 3 rfl rfl
        try simp only [List.getElem_toArray, List.getElem_cons_zero, List.getElem_cons_succ] at hc10 hc11 hc12 hc13
        go_wp2_with fail
        refine (coeff_no Aa Ab ca cb la lb _ EA EB hla hlb HN.out).mono ?_
        rintro e w1 ⟨rfl, hb⟩
        clear hc00 hc01 hc02 hc03
        clear hc10 hc11 hc12 hc13
        replace HX := HX.ext hb
        replace EA := EA.ext hb
        replace EB := EB.ext hb
        replace EM := EM.ext hb
        clear hb
        go_upto_region 13 with fail
        have hb := below_alloc w1 (.cells #[.bool false, .slice none 0 0, .slice none 0 0] 33)
        replace HX := HX.new #[.bool false, .slice none 0 0, .slice none 0 0] 33
        simp only [List.cons_append, List.nil_append] at HX
        replace EA := EA.ext hb
        replace EB := EB.ext hb
        replace EM := EM.ext hb
        clear hb
        generalize w1.alloc (.cells #[.bool false, .slice none 0 0, .slice none 0 0] 33) = V1 at *
        generalize w1.heap.size = g1 at *
        have hc20 := HX.cell 2 0 rfl rfl
        have hc21 := HX.cell 2 1 rfl rfl
        have hc22 := HX.cell 2 2 rfl rfl
        have hc23 := HX.cell 2 3 rfl rfl
        try simp only [List.getElem_toArray, List.getElem_cons_zero, List.getElem_cons_succ] at hc20 hc21 hc22 hc23
        have hc10 := HX.cell 1 0 rfl rfl
        have hc11 := HX.cell 1 1 rfl rfl
        have hc12 := HX.cell 1 2 rfl rfl
        have hc13 := HX.cell 1 3 rfl rfl
        try simp only [List.getElem_toArray, List.getElem_cons_zero, List.getElem_cons_succ] at hc10 hc11 hc12 hc13
        go_wp2_with fail
        refine (coeff_no A8 Ab c8 cb m lb _ EM EB (by have := hml.out; omega) hlb HN2.out).mono ?_
        rintro e w2 ⟨rfl, hb⟩
        clear hc20 hc21 hc22 hc23
        clear hc10 hc11 hc12 hc13
        replace HX := HX.ext hb
        replace EA := EA.ext hb
        replace EB := EB.ext hb
        replace EM := EM.ext hb
        clear hb
        go_upto_region 14 with fail
        have hb := below_alloc w2 (.cells #[.bool false, .slice none 0 0, .slice none 0 0] 33)
        replace HX := HX.new #[.bool false, .slice none 0 0, .slice none 0 0] 33
        simp only [List.cons_append, List.nil_append] at HX
        replace EA := EA.ext hb
        replace EB := EB.ext hb
        replace EM := EM.ext hb
        clear hb
        generalize w2.alloc (.cells #[.bool false, .slice none 0 0, .slice none 0 0] 33) = V2 at *
        generalize w2.heap.size = g2 at *
        have hc30 := HX.cell 3 0 rfl rfl
        have hc31 := HX.cell 3 1 rfl rfl
        have hc32 := HX.cell 3 2 rfl rfl
        try simp only [List.getElem_toArray, List.getElem_cons_zero, List.getElem_cons_succ] at hc30 hc31 hc32
        have hc40 := HX.cell 4 0 rfl rfl
        have hc41 := HX.cell 4 1 rfl rfl
        have hc42 := HX.cell 4 2 rfl rfl
        try simp only [List.getElem_toArray, List.getElem_cons_zero, List.getElem_cons_succ] at hc40 hc41 hc42
        go_wp2_with fail
        refine (bfrac_0).mono ?_
        rintro e w3 ⟨rfl, hb⟩
        clear hc30 hc31 hc32
        clear hc40 hc41 hc42
        replace HX := HX.ext hb
        replace EA := EA.ext hb
        replace EB := EB.ext hb
        replace EM := EM.ext hb
        clear hb
        go_wp2
        go_ret
        exact ⟨by first | rfl | simp, HX.below⟩
set_option maxHeartbeats 1000000 in
set_option maxRecDepth 100000 in
theorem scales_any {ia fa ta ib fb tb kk : Int} {Aa Ab : Option Addr} {ca cb : Nat} {la lb : List (Int × Int)} (w : World) (hT : Tab w) (EA : Es w Aa la) (hla : la.length ≤ 9223372036854775807) (EB : Es w Ab lb) (hlb : lb.length ≤ 9223372036854775807) (hk1 : -9223372036854775808 ≤ kk) (hk2 : kk ≤ 9223372036854775807) :
    Calls Tryz.prog 4 #[.agg #[.int .i64 ia, .slice Aa la.length ca, .int .i64 fa, .int .i64 ta], .agg #[.int .i64 ib, .slice Ab lb.length cb, .int .i64 fb, .int .i64 tb], .int .i64 kk] w (RetB w true) := by
  cases hfew : fewS [⟨ia, Aa, ca, la, fa, ta⟩, ⟨ib, Ab, cb, lb, fb, tb⟩] with
  | false => exact sc_few w hT EA hla EB hlb hfew
  | true => exact sc_ok w hT EA hla EB hlb hk1 hk2 hfew
end Go.Proofs.YthempimelfmipaaGreatDoor
