/- The common years of two. -/
import Derived.Test.YteleohgalknkiaaGreatDoorHown
namespace Go.Proofs.YteleohgalknkiaaGreatDoor
open Go.RowKit Go.Proofs Go

/-- F and T are the first and the last common year -/
def Com (fa ta fb tb F T : Int) : Prop := (if fa < fb then fb else fa) = F ∧ (if ta < tb then ta else tb) = T
theorem Com.ex (fa ta fb tb : Int) : ∃ F T, Com fa ta fb tb F T := ⟨_, _, rfl, rfl⟩
theorem Com.yv {fa ta fb tb F T : Int} (h : Com fa ta fb tb F T) (ha : YV fa ta) (hb : YV fb tb) : YV F T ↔ F ≤ T := by
  obtain ⟨h1, h2⟩ := h
  unfold YV at *
  split at h1 <;> split at h2 <;> subst h1 h2 <;> omega
set_option maxRecDepth 100000 in
theorem rvalid4_any {f t : Int} {b : Bool} (w : World) (hb : Tells b (YV f t)) :
    Calls Tryz.prog 137 #[.agg #[.int .i64 f, .int .i64 t]] w (RetB w b) := by
  go_enter Tryz.func137, Tryz.ntmps137
  go_wp2_with fail
  have HX := BL.one w #[.int .i64 f, .int .i64 t] 24
  refine (byears_any _ hb).mono ?_
  rintro e w1 ⟨rfl, hb2⟩
  replace HX := HX.ext hb2
  go_wp2
  go_ret
  exact ⟨rfl, HX.below⟩
set_option maxHeartbeats 1000000 in
set_option maxRecDepth 100000 in
theorem hmeet_yes {fa ta fb tb F T : Int} (w : World) (ha : YV fa ta) (hb : YV fb tb) (hc : Com fa ta fb tb F T) (hFT : F ≤ T) :
    Calls Tryz.prog 62 #[.agg #[.int .i64 fa, .int .i64 ta], .agg #[.int .i64 fb, .int .i64 tb]] w fun e w' => e = .returned (.tuple #[.agg #[.int .i64 F, .int .i64 T], .bool true]) ∧ Below w.heap.size w w' := by
  have HA := yes ha
  have HB := yes hb
  have HC := yes ((hc.yv ha hb).2 hFT)
  have hgt : decide (T < F) = false := decide_eq_false (by omega)
  obtain ⟨h1, h2⟩ := hc
  clear ha hb hFT
  have key : (if fa < fb then fb else fa) = F ∧ (if ta < tb then ta else tb) = T := ⟨h1, h2⟩
  have HK := Lib.hid key
  clear key h1 h2
  have HX := ((BL.three w #[.int .i64 fa, .int .i64 ta] #[.int .i64 fb, .int .i64 tb] #[.int .i64 0, .int .i64 0] 24 24 24).new #[.int .i64 F, .int .i64 T] 24)
  simp only [List.cons_append, List.nil_append] at HX
  have HX := Lib.hid HX
  go_enter Tryz.func62, Tryz.ntmps62
  go_upto_region 1 with fail
  go_cut [6] (fun x wx => x = .pointer (some ⟨w.heap.size + 3, 0, none⟩) ∧ wx = (((w.alloc (.cells #[.int .i64 fa, .int .i64 ta] 24)).alloc (.cells #[.int .i64 fb, .int .i64 tb] 24)).alloc (.cells #[.int .i64 0, .int .i64 0] 24)).alloc (.cells #[.int .i64 F, .int .i64 T] 24))
  case first =>
    obtain ⟨h1, h2⟩ := HK.out
    clear HX HA HB HC
    by_cases k1 : fa < fb
    · rw [if_pos k1] at h1
      subst h1
      rcases Int.lt_trichotomy ta tb with k2 | k2 | k2
      · rw [if_pos k2] at h2
        subst h2
        go_wp2
        go_meet
        case rel => exact ⟨by first | rfl | simp, by first | rfl | simp⟩
      · subst k2
        rw [if_neg (Int.lt_irrefl _)] at h2
        subst h2
        go_wp2
        go_meet
        case rel => exact ⟨by first | rfl | simp, by first | rfl | simp⟩
      · rw [if_neg (by omega)] at h2
        subst h2
        go_wp2
        go_meet
        case rel => exact ⟨by first | rfl | simp, by first | rfl | simp⟩
    · rw [if_neg k1] at h1
      subst h1
      rcases Int.lt_trichotomy ta tb with k2 | k2 | k2
      · rw [if_pos k2] at h2
        subst h2
        go_wp2
        go_meet
        case rel => exact ⟨by first | rfl | simp, by first | rfl | simp⟩
      · subst k2
        rw [if_neg (Int.lt_irrefl _)] at h2
        subst h2
        go_wp2
        go_meet
        case rel => exact ⟨by first | rfl | simp, by first | rfl | simp⟩
      · rw [if_neg (by omega)] at h2
        subst h2
        go_wp2
        go_meet
        case rel => exact ⟨by first | rfl | simp, by first | rfl | simp⟩
  case rest =>
    obtain ⟨rfl, rfl⟩ := hcut
    have HX := HX.out
    rw [show (((w.alloc (.cells #[.int .i64 fa, .int .i64 ta] 24)).alloc (.cells #[.int .i64 fb, .int .i64 tb] 24)).alloc (.cells #[.int .i64 0, .int .i64 0] 24)).heap.size = w.heap.size + 3 from by simp] at HX
    clear HK
    generalize (((w.alloc (.cells #[.int .i64 fa, .int .i64 ta] 24)).alloc (.cells #[.int .i64 fb, .int .i64 tb] 24)).alloc (.cells #[.int .i64 0, .int .i64 0] 24)).alloc (.cells #[.int .i64 F, .int .i64 T] 24) = W2 at *
    have hc00 := HX.cell 0 0 rfl rfl
    have hc01 := HX.cell 0 1 rfl rfl
    try simp only [List.getElem_toArray, List.getElem_cons_zero, List.getElem_cons_succ] at hc00 hc01
    go_wp2_with fail
    refine (yvalid_any (b := true) _ HA).mono ?_
    rintro e w3 ⟨rfl, hb⟩
    clear hc00 hc01
    replace HX := HX.ext hb
    clear hb
    have hc10 := HX.cell 1 0 rfl rfl
    have hc11 := HX.cell 1 1 rfl rfl
    try simp only [List.getElem_toArray, List.getElem_cons_zero, List.getElem_cons_succ] at hc10 hc11
    go_wp2_with fail
    refine (yvalid_any (b := true) _ HB).mono ?_
    rintro e w4 ⟨rfl, hb⟩
    clear hc10 hc11
    replace HX := HX.ext hb
    clear hb
    have hc30 := HX.cell 3 0 rfl rfl
    have hc31 := HX.cell 3 1 rfl rfl
    try simp only [List.getElem_toArray, List.getElem_cons_zero, List.getElem_cons_succ] at hc30 hc31
    go_wp2_with fail
    refine (yvalid_any (b := true) _ HC).mono ?_
    rintro e w5 ⟨rfl, hb⟩
    clear hc30 hc31
    replace HX := HX.ext hb
    clear hb
    have hc30 := HX.cell 3 0 rfl rfl
    have hc31 := HX.cell 3 1 rfl rfl
    try simp only [List.getElem_toArray, List.getElem_cons_zero, List.getElem_cons_succ] at hc30 hc31
    have hc20 := HX.cell 2 0 rfl rfl
    have hc21 := HX.cell 2 1 rfl rfl
    try simp only [List.getElem_toArray, List.getElem_cons_zero, List.getElem_cons_succ] at hc20 hc21
    have hf20 := HX.free 2 0 rfl
    have hf21 := HX.free 2 1 rfl
    try simp only [] at hf20 hf21
    go_wp2
    clear hc20 hc21 hf20 hf21 hc30 hc31
    replace HX := HX.put2 2 rfl (by omega) (by intro k q hk hne; match k, hk with | 0, hk => (simp at hk; subst hk; simp at hne ⊢; try omega) | 1, hk => (simp at hk; subst hk; simp at hne ⊢; try omega) | 2, hk => (simp at hk; subst hk; simp at hne ⊢; try omega) | 3, hk => (simp at hk; subst hk; simp at hne ⊢; try omega) | k + 4, hk => simp at hk) (.int .i64 F) (.int .i64 T)
    simp only [List.set_cons_zero, List.set_cons_succ] at HX
    have hc20 := HX.cell 2 0 rfl rfl
    have hc21 := HX.cell 2 1 rfl rfl
    try simp only [List.getElem_toArray, List.getElem_cons_zero, List.getElem_cons_succ] at hc20 hc21
    exact bodyPost_ret (v := .tuple #[.agg #[.int .i64 F, .int .i64 T], .bool true]) (by simp [results, Tryz.results62, go_sem, hc20, hc21]) rfl ⟨rfl, HX.below⟩
set_option maxHeartbeats 1000000 in
set_option maxRecDepth 100000 in
theorem hmeet_no {fa ta fb tb F T : Int} (w : World) (ha : YV fa ta) (hb : YV fb tb) (hc : Com fa ta fb tb F T) (hFT : ¬ F ≤ T) :
    Calls Tryz.prog 62 #[.agg #[.int .i64 fa, .int .i64 ta], .agg #[.int .i64 fb, .int .i64 tb]] w fun e w' => e = .returned (.tuple #[.agg #[.int .i64 0, .int .i64 0], .bool false]) ∧ Below w.heap.size w w' := by
  have HA := yes ha
  have HB := yes hb
  have HC := no (fun h => hFT ((hc.yv ha hb).1 h))
  have hgt : decide (T < F) = true := decide_eq_true (by omega)
  obtain ⟨h1, h2⟩ := hc
  clear ha hb hFT
  have key : (if fa < fb then fb else fa) = F ∧ (if ta < tb then ta else tb) = T := ⟨h1, h2⟩
  have HK := Lib.hid key
  clear key h1 h2
  have HX := ((BL.three w #[.int .i64 fa, .int .i64 ta] #[.int .i64 fb, .int .i64 tb] #[.int .i64 0, .int .i64 0] 24 24 24).new #[.int .i64 F, .int .i64 T] 24)
  simp only [List.cons_append, List.nil_append] at HX
  have HX := Lib.hid HX
  go_enter Tryz.func62, Tryz.ntmps62
  go_upto_region 1 with fail
  go_cut [6] (fun x wx => x = .pointer (some ⟨w.heap.size + 3, 0, none⟩) ∧ wx = (((w.alloc (.cells #[.int .i64 fa, .int .i64 ta] 24)).alloc (.cells #[.int .i64 fb, .int .i64 tb] 24)).alloc (.cells #[.int .i64 0, .int .i64 0] 24)).alloc (.cells #[.int .i64 F, .int .i64 T] 24))
  case first =>
    obtain ⟨h1, h2⟩ := HK.out
    clear HX HA HB HC
    by_cases k1 : fa < fb
    · rw [if_pos k1] at h1
      subst h1
      rcases Int.lt_trichotomy ta tb with k2 | k2 | k2
      · rw [if_pos k2] at h2
        subst h2
        go_wp2
        go_meet
        case rel => exact ⟨by first | rfl | simp, by first | rfl | simp⟩
      · subst k2
        rw [if_neg (Int.lt_irrefl _)] at h2
        subst h2
        go_wp2
        go_meet
        case rel => exact ⟨by first | rfl | simp, by first | rfl | simp⟩
      · rw [if_neg (by omega)] at h2
        subst h2
        go_wp2
        go_meet
        case rel => exact ⟨by first | rfl | simp, by first | rfl | simp⟩
    · rw [if_neg k1] at h1
      subst h1
      rcases Int.lt_trichotomy ta tb with k2 | k2 | k2
      · rw [if_pos k2] at h2
        subst h2
        go_wp2
        go_meet
        case rel => exact ⟨by first | rfl | simp, by first | rfl | simp⟩
      · subst k2
        rw [if_neg (Int.lt_irrefl _)] at h2
        subst h2
        go_wp2
        go_meet
        case rel => exact ⟨by first | rfl | simp, by first | rfl | simp⟩
      · rw [if_neg (by omega)] at h2
        subst h2
        go_wp2
        go_meet
        case rel => exact ⟨by first | rfl | simp, by first | rfl | simp⟩
  case rest =>
    obtain ⟨rfl, rfl⟩ := hcut
    have HX := HX.out
    rw [show (((w.alloc (.cells #[.int .i64 fa, .int .i64 ta] 24)).alloc (.cells #[.int .i64 fb, .int .i64 tb] 24)).alloc (.cells #[.int .i64 0, .int .i64 0] 24)).heap.size = w.heap.size + 3 from by simp] at HX
    clear HK
    generalize (((w.alloc (.cells #[.int .i64 fa, .int .i64 ta] 24)).alloc (.cells #[.int .i64 fb, .int .i64 tb] 24)).alloc (.cells #[.int .i64 0, .int .i64 0] 24)).alloc (.cells #[.int .i64 F, .int .i64 T] 24) = W2 at *
    have hc00 := HX.cell 0 0 rfl rfl
    have hc01 := HX.cell 0 1 rfl rfl
    try simp only [List.getElem_toArray, List.getElem_cons_zero, List.getElem_cons_succ] at hc00 hc01
    go_wp2_with fail
    refine (yvalid_any (b := true) _ HA).mono ?_
    rintro e w3 ⟨rfl, hb⟩
    clear hc00 hc01
    replace HX := HX.ext hb
    clear hb
    have hc10 := HX.cell 1 0 rfl rfl
    have hc11 := HX.cell 1 1 rfl rfl
    try simp only [List.getElem_toArray, List.getElem_cons_zero, List.getElem_cons_succ] at hc10 hc11
    go_wp2_with fail
    refine (yvalid_any (b := true) _ HB).mono ?_
    rintro e w4 ⟨rfl, hb⟩
    clear hc10 hc11
    replace HX := HX.ext hb
    clear hb
    have hc30 := HX.cell 3 0 rfl rfl
    have hc31 := HX.cell 3 1 rfl rfl
    try simp only [List.getElem_toArray, List.getElem_cons_zero, List.getElem_cons_succ] at hc30 hc31
    go_wp2_with fail
    refine (yvalid_any (b := false) _ HC).mono ?_
    rintro e w5 ⟨rfl, hb⟩
    clear hc30 hc31
    replace HX := HX.ext hb
    clear hb
    have hc30 := HX.cell 3 0 rfl rfl
    have hc31 := HX.cell 3 1 rfl rfl
    try simp only [List.getElem_toArray, List.getElem_cons_zero, List.getElem_cons_succ] at hc30 hc31
    have hc20 := HX.cell 2 0 rfl rfl
    have hc21 := HX.cell 2 1 rfl rfl
    try simp only [List.getElem_toArray, List.getElem_cons_zero, List.getElem_cons_succ] at hc20 hc21
    have hf20 := HX.free 2 0 rfl
    have hf21 := HX.free 2 1 rfl
    try simp only [] at hf20 hf21
    go_wp2
    clear hc20 hc21 hf20 hf21 hc30 hc31
    replace HX := HX.put2 2 rfl (by omega) (by intro k q hk hne; match k, hk with | 0, hk => (simp at hk; subst hk; simp at hne ⊢; try omega) | 1, hk => (simp at hk; subst hk; simp at hne ⊢; try omega) | 2, hk => (simp at hk; subst hk; simp at hne ⊢; try omega) | 3, hk => (simp at hk; subst hk; simp at hne ⊢; try omega) | k + 4, hk => simp at hk) (.int .i64 0) (.int .i64 0)
    simp only [List.set_cons_zero, List.set_cons_succ] at HX
    have hc20 := HX.cell 2 0 rfl rfl
    have hc21 := HX.cell 2 1 rfl rfl
    try simp only [List.getElem_toArray, List.getElem_cons_zero, List.getElem_cons_succ] at hc20 hc21
    exact bodyPost_ret (v := .tuple #[.agg #[.int .i64 0, .int .i64 0], .bool false]) (by simp [results, Tryz.results62, go_sem, hc20, hc21]) rfl ⟨rfl, HX.below⟩
end Go.Proofs.YteleohgalknkiaaGreatDoor
