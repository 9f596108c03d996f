/- The statements' own helpers: few, awake. -/
import Derived.Test.YtajddhkepbnilaaDoorHl
import Derived.Test.YtajddhkepbnilaaDoorHs
import Derived.Test.YtajddhkepbnilaaDoorHt
import Derived.Test.YtajddhkepbnilaaDoorHe
namespace Go.Proofs.YtajddhkepbnilaaDoor
open Go.RowKit Go.Proofs Go

/-- a hoard's cells -/
structure HE where
  id : Int
  A : Option Addr
  n : Nat
  c : Nat
  f : Int
  t : Int
def HE.cells (x : HE) : List Value := [.int .i64 x.id, .slice x.A x.n x.c, .int .i64 x.f, .int .i64 x.t]
def HFS (w : World) (A : Option Addr) (hs : List HE) : Prop :=
  0 < hs.length → ∃ ad, A = some ad ∧ ad.block < w.heap.size ∧ ∀ i x, hs[i]? = some x → w.cell? ⟨(ad.add (i * 4)).block, (ad.add (i * 4)).off + 1, none⟩ = some (.slice x.A x.n x.c)
theorem HE.flat_at : ∀ (hs : List HE) (i j : Nat) (x : HE), hs[i]? = some x → j < 4 → (hs.flatMap HE.cells)[i * 4 + j]? = x.cells[j]?
  | [], i, j, x, h, _ => by simp at h
  | y :: hs, 0, j, x, h, hj => by
    simp at h; subst h
    rw [List.flatMap_cons, List.getElem?_append_left (by simp [HE.cells]; omega), Nat.zero_mul, Nat.zero_add]
  | y :: hs, i + 1, j, x, h, hj => by
    rw [List.flatMap_cons, List.getElem?_append_right (by simp [HE.cells]; omega)]
    rw [show (i + 1) * 4 + j - y.cells.length = i * 4 + j from by simp [HE.cells]; omega]
    exact HE.flat_at hs i j x (by simpa using h) hj
theorem HFS.lit (W : World) (T : TypeId) (hs : List HE) (cs : Array Value) (hcs : cs.toList = hs.flatMap HE.cells) : HFS (W.alloc (.cells cs T)) (some ⟨W.heap.size, 0, none⟩) hs := by
  intro _
  refine ⟨_, rfl, by simp, fun i x hx => ?_⟩
  rw [Addr.add_lit, Nat.zero_add]
  show (W.alloc (.cells cs T)).cell? ⟨W.heap.size, i * 4 + 1, none⟩ = _
  rw [World.cell?_alloc_at _ _ _ _ rfl, ← Array.getElem?_toList, hcs]
  exact HE.flat_at hs i 1 x hx (by omega)
def fewH (hs : List HE) : Bool := hs.all fun x => decide (x.n ≤ 40)
set_option maxHeartbeats 400000 in
set_option maxRecDepth 100000 in
theorem hfew_any (A : Option Addr) (n c : Nat) (hs : List HE) (w : World) (H : HFS w A hs) (hn : n = hs.length) (hl : n ≤ 9223372036854775807) (hlen : ∀ x ∈ hs, x.n ≤ 9223372036854775807) :
    Calls Tryd.prog 10 #[.slice A n c] w fun e w' => e = .returned (.bool (fewH hs)) ∧ w = w' := by
  subst hn
  have HL := Lib.hid hlen
  clear hlen
  go_enter Tryd.func10, Tryd.ntmps10
  go_wp2
  go_loop [3] (fun i => ∃ k : Nat, k ≤ hs.length ∧ i = .int .i64 (k : Int) ∧ (hs.take k).all (fun x => decide (x.n ≤ 40)) = true) (fun i => (hs.length - intOf i).toNat)
  case atStart => exact ⟨0, Nat.zero_le _, rfl, rfl⟩
  case round =>
    obtain ⟨k, hk, rfl, he⟩ := hrel
    have HE := Lib.hid he
    clear he
    by_cases hk0 : k < hs.length
    · obtain ⟨ad, rfl, hb, hc⟩ := H (by omega)
      have hc1 := hc k _ (List.getElem?_eq_getElem hk0)
      have hbd := HL.out _ (List.getElem_mem hk0)
      have hsu := Lib.hid (show (hs.take (k + 1)).all (fun x => decide (x.n ≤ 40)) = ((hs.take k).all (fun x => decide (x.n ≤ 40)) && decide ((hs[k]).n ≤ 40)) by
        rw [List.take_succ_eq_append_getElem hk0, List.all_append]; simp)
      have hal := Lib.hid (show ¬ (hs[k]).n ≤ 40 → fewH hs = false from fun h => by
        rw [fewH, List.all_eq_false]; exact ⟨_, List.getElem_mem hk0, by simpa using h⟩)
      clear hc
      generalize hs[k] = x at *
      by_cases h1 : x.n ≤ 40
      · have t1 : decide ((40 : Int) < (x.n : Int)) = false := decide_eq_false (by omega)
        have hnx := Lib.hid (show (hs.take (k + 1)).all (fun x => decide (x.n ≤ 40)) = true by rw [hsu.out, HE.out, decide_eq_true h1]; rfl)
        go_wp2
        go_round
        case rel => exact ⟨k + 1, by omega, by go_num, hnx.out⟩
        case measure => simp [intOf]; omega
      · have t1 : decide ((40 : Int) < (x.n : Int)) = true := decide_eq_true (by omega)
        have hfin := Lib.hid (hal.out h1)
        go_wp2
        go_ret
        exact ⟨by rw [hfin.out]; rfl, rfl⟩
    · have hfin := Lib.hid (show fewH hs = true by
        have := HE.out
        rwa [List.take_of_length_le (by omega)] at this)
      go_wp2
      go_ret
      exact ⟨by rw [hfin.out]; rfl, rfl⟩
theorem listed2 {lo hi a b c d : Int} (h1 : 1 ≤ a) (h2 : a < c) (h3 : c ≤ 99) (h4 : lo ≤ b ∧ b ≤ hi) (h5 : lo ≤ d ∧ d ≤ hi) : Listed lo hi [(a, b), (c, d)] := by
  intro i x hx
  match i, hx with
  | 0, hx => simp at hx; subst hx; exact ⟨by omega, h4, fun j y h => absurd h (by omega)⟩
  | 1, hx =>
    simp at hx; subst hx
    refine ⟨by omega, h5, fun j y hj hy => ?_⟩
    obtain rfl : j = 0 := by omega
    simp at hy; subst hy; exact h2
  | i + 2, hx => simp at hx
theorem Es.lit2 (W : World) (a b c d : Int) : Es (W.alloc (.cells #[.int .i64 a, .int .i64 b, .int .i64 c, .int .i64 d] 50)) (some ⟨W.heap.size, 0, none⟩) [(a, b), (c, d)] := by
  intro _
  refine ⟨_, rfl, by simp, fun i x hx => ?_⟩
  rw [Addr.add_lit, Nat.zero_add]
  match i, hx with
  | 0, hx => simp at hx; subst hx; exact ⟨al_at rfl _ rfl, al_at rfl _ rfl⟩
  | 1, hx => simp at hx; subst hx; exact ⟨al_at rfl _ rfl, al_at rfl _ rfl⟩
  | i + 2, hx => simp at hx
theorem hv0 : HV 3 [(4, 12), (7, 1)] (-43) (-30) := ⟨by omega, by simp, listed2 (by omega) (by omega) (by omega) (by omega) (by omega), by unfold YV; omega⟩
theorem late0 : LateIs 3 [(4, 12), (7, 1)] (-43) (-30) [(4, -60), (7, -60)] 7 0 :=
  .inr ⟨hv0, listed2 (by omega) (by omega) (by omega) (by omega) (by omega), .inr ⟨-60, by decide +kernel, rfl⟩⟩
theorem text0 : (hoardText 3 [(4, 12), (7, 1)] (-43) (-30) == [72, 51, 58, 32, 52, 120, 49, 50, 32, 55, 120, 49, 59, 32, 52, 52, 45, 51, 49, 32, 66, 67]) = true := by decide +kernel
theorem shq0 : shq [(4, 12), (7, 1)] 7 = rv false 1 13 := rfl
theorem ftx0 : fracText (rv false 1 13) = [49, 47, 49, 51] := lit_text (s := false) (a := 1) (b := 13) rfl (by omega) (by omega) (by decide +kernel)
set_option maxHeartbeats 2000000 in
set_option maxRecDepth 100000 in
theorem hawake_any (w : World) (hT : Tab w) :
    Calls Tryd.prog 9 #[] w (RetB w true) := by
  obtain ⟨L, hL⟩ : ∃ L, hoardText 3 [(4, 12), (7, 1)] (-43) (-30) = L := ⟨_, rfl⟩
  have ht0 := text0
  rw [hL] at ht0
  have ht1 : ((str L).toList == [72, 51, 58, 32, 52, 120, 49, 50, 32, 55, 120, 49, 59, 32, 52, 52, 45, 51, 49, 32, 66, 67]) = true := by rw [str_toList]; exact ht0
  have HL := Lib.hid hL
  clear hL ht0
  obtain ⟨q, hq⟩ : ∃ q, rv false 1 13 = q := ⟨_, rfl⟩
  have HQ : Hid (shq [(4, 12), (7, 1)] 7 = q) := Lib.hid (by rw [shq0, hq])
  have hft := ftx0
  rw [hq] at hft
  obtain ⟨M, hM⟩ : ∃ M, fracText q = M := ⟨_, rfl⟩
  rw [hM] at hft
  have hm1 : ((str M).toList == [49, 47, 49, 51]) = true := by rw [str_toList, hft]; rfl
  have HM := Lib.hid hM
  have NT : TotIs 3 [(4, 12), (7, 1)] (-43) (-30) 13 := ⟨fun _ => rfl, fun h => absurd hv0 h⟩
  clear hq hft hM
  have HX := (BL.nil w).new #[.int .i64 4, .int .i64 12, .int .i64 7, .int .i64 1] 50
  have H := Es.lit2 w 4 12 7 1
  replace HX := HX.new #[.int .i64 3, .slice (some ⟨w.heap.size, 0, none⟩) 2 2, .int .i64 (-43), .int .i64 (-30)] 26
  replace H := H.ext (below_alloc _ (.cells #[.int .i64 3, .slice (some ⟨w.heap.size, 0, none⟩) 2 2, .int .i64 (-43), .int .i64 (-30)] 26))
  simp only [List.cons_append, List.nil_append] at HX
  go_enter Tryd.func9, Tryd.ntmps9
  go_upto_region 2 with fail
  rw [show (w.alloc (.cells #[.int .i64 4, .int .i64 12, .int .i64 7, .int .i64 1] 50)).heap.size = w.heap.size + 1 from by simp] at HX
  replace hT := hT.ext HX.below
  generalize (w.alloc (.cells #[.int .i64 4, .int .i64 12, .int .i64 7, .int .i64 1] 50)).alloc (.cells #[.int .i64 3, .slice (some ⟨w.heap.size, 0, none⟩) 2 2, .int .i64 (-43), .int .i64 (-30)] 26) = W2 at *
  have hc10 := HX.cell 1 0 rfl rfl
  have hc11 := HX.cell 1 1 rfl rfl
  have hc12 := HX.cell 1 2 rfl rfl
  have hc13 := HX.cell 1 3 rfl rfl
  try simp only [List.getElem_toArray, List.getElem_cons_zero, List.getElem_cons_succ] at hc10 hc11 hc12 hc13
  go_wp2_with fail
  refine (hshare_yes _ 2 [(4, 12), (7, 1)] _ H (by simp) hv0 HQ).mono ?_
  rintro e w3 ⟨A3, c3, B3, d3, rfl, F3, hb⟩
  clear hc10 hc11 hc12 hc13
  replace HX := HX.ext hb
  replace H := H.ext hb
  replace hT := hT.ext hb
  clear hb
  go_upto_region 3 with fail
  have hb := below_alloc w3 (.cells #[.bool (sg q), .slice A3 (dig (nu q)).length c3, .slice B3 (dig q.den).length d3] 33)
  replace HX := HX.new #[.bool (sg q), .slice A3 (dig (nu q)).length c3, .slice B3 (dig q.den).length d3] 33
  simp only [List.cons_append, List.nil_append] at HX
  replace H := H.ext hb
  replace hT := hT.ext hb
  replace F3 := F3.ext hb
  clear hb
  generalize w3.alloc (.cells #[.bool (sg q), .slice A3 (dig (nu q)).length c3, .slice B3 (dig q.den).length d3] 33) = W3 at *
  generalize w3.heap.size = g3 at *
  have hc10 := HX.cell 1 0 rfl rfl
  have hc11 := HX.cell 1 1 rfl rfl
  have hc12 := HX.cell 1 2 rfl rfl
  have hc13 := HX.cell 1 3 rfl rfl
  try simp only [List.getElem_toArray, List.getElem_cons_zero, List.getElem_cons_succ] at hc10 hc11 hc12 hc13
  go_wp2_with fail
  have hb := below_alloc W3 (.cells #[.int .i64 4, .int .i64 (-60), .int .i64 7, .int .i64 (-60)] 50)
  refine (hlate_any _ _ 2 2 [(4, 12), (7, 1)] [(4, -60), (7, -60)] _ (H.ext hb) (Es.lit2 W3 4 (-60) 7 (-60)) (by simp) (by simp) late0).mono ?_
  rintro e w4 ⟨rfl, hb4⟩
  clear hc10 hc11 hc12 hc13
  replace hb := bel_trans hb hb4
  clear hb4
  replace HX := HX.ext hb
  replace H := H.ext hb
  replace hT := hT.ext hb
  replace F3 := F3.ext hb
  clear hb
  have hc10 := HX.cell 1 0 rfl rfl
  have hc11 := HX.cell 1 1 rfl rfl
  have hc12 := HX.cell 1 2 rfl rfl
  have hc13 := HX.cell 1 3 rfl rfl
  try simp only [List.getElem_toArray, List.getElem_cons_zero, List.getElem_cons_succ] at hc10 hc11 hc12 hc13
  go_wp2_with fail
  refine (htext_any _ 2 [(4, 12), (7, 1)] _ H (by simp) hv0 HL hT).mono ?_
  rintro e w5 ⟨rfl, hb⟩
  clear hc10 hc11 hc12 hc13
  replace HX := HX.ext hb
  replace H := H.ext hb
  replace hT := hT.ext hb
  replace F3 := F3.ext hb
  clear hb
  have hc10 := HX.cell 1 0 rfl rfl
  have hc11 := HX.cell 1 1 rfl rfl
  have hc12 := HX.cell 1 2 rfl rfl
  have hc13 := HX.cell 1 3 rfl rfl
  try simp only [List.getElem_toArray, List.getElem_cons_zero, List.getElem_cons_succ] at hc10 hc11 hc12 hc13
  go_wp2_with fail
  refine (htotal_any _ 2 [(4, 12), (7, 1)] _ H (by simp) NT).mono ?_
  rintro e w6 ⟨rfl, hb⟩
  clear hc10 hc11 hc12 hc13
  replace HX := HX.ext hb
  replace hT := hT.ext hb
  replace F3 := F3.ext hb
  clear hb H
  have hc20 := HX.cell 2 0 rfl rfl
  have hc21 := HX.cell 2 1 rfl rfl
  have hc22 := HX.cell 2 2 rfl rfl
  try simp only [List.getElem_toArray, List.getElem_cons_zero, List.getElem_cons_succ] at hc20 hc21 hc22
  go_wp2_with fail
  refine (ftext_any _ F3.fr (by omega) hT).mono ?_
  rw [HM.out]
  rintro e w7 ⟨rfl, hb⟩
  replace HX := HX.ext hb
  go_wp2
  go_ret
  exact ⟨by first | rfl | simp, HX.below⟩
end Go.Proofs.YtajddhkepbnilaaDoor
