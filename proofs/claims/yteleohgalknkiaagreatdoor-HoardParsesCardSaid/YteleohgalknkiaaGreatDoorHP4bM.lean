/- The reference's parser of years, at any text. -/
import Derived.Test.YteleohgalknkiaaGreatDoorHP2M
import Derived.Deep.DeepCutAuto
namespace Go.Proofs.YteleohgalknkiaaGreatDoor
open Go.RowKit Go.Proofs Go

theorem BL.init {w W : World} {l : List (Nat × Array Value × TypeId)} {x : Nat × Array Value × TypeId} (h : BL w W (l ++ [x])) : BL w W l :=
  ⟨h.below, fun i p hp => h.blk i p (by rw [List.getElem?_append_left (List.getElem?_eq_some_iff.1 hp).1]; exact hp)⟩
theorem numK_len : ∀ (k : Nat) (l : List UInt8) (n : Nat), (numK k l n).2.length ≤ l.length
  | 0, l, n => Nat.le_refl _
  | k + 1, [], n => Nat.le_refl _
  | k + 1, b :: l, n => by
    rw [numK]
    split
    · have := numK_len k l (10 * n + (b.toNat - 48)); simp; omega
    · exact Nat.le_refl _
/-- the two years that a number may stand for -/
def fr (n : Int) (i : Nat) : Int := if i = 0 then n else 1 - n
theorem fr_at {n : Int} {i : Nat} (h : i < 2) : (#[Value.int .i64 n, Value.int .i64 (1 - n)] : Array Value)[i]? = some (.int .i64 (fr n i)) := by
  match i, h with
  | 0, _ => rfl
  | 1, _ => rfl
theorem hk_next {L : List UInt8} {a b : Int} {k : Nat} (h : ∀ k', k' < k → ¬ (YV a (fr b k') ∧ yearText a (fr b k') = L)) (h2 : ¬ (YV a (fr b k) ∧ yearText a (fr b k) = L)) : ∀ k', k' < k + 1 → ¬ (YV a (fr b k') ∧ yearText a (fr b k') = L) := fun k' hk => by
  by_cases he : k' = k
  · subst he; exact h2
  · exact h k' (by omega)
theorem hi_next {L : List UInt8} {n b : Int} {i : Nat} (h : ∀ i', i' < i → ∀ k', k' < 2 → ¬ (YV (fr n i') (fr b k') ∧ yearText (fr n i') (fr b k') = L)) (h2 : ∀ k', k' < 2 → ¬ (YV (fr n i) (fr b k') ∧ yearText (fr n i) (fr b k') = L)) : ∀ i', i' < i + 1 → ∀ k', k' < 2 → ¬ (YV (fr n i') (fr b k') ∧ yearText (fr n i') (fr b k') = L) := fun i' hi => by
  by_cases he : i' = i
  · subst he; exact h2
  · exact h i' (by omega)
set_option maxHeartbeats 4000000 in
set_option maxRecDepth 100000 in
theorem rypA0 {L R1 _R2 _T3 : List UInt8} {n : Nat} {b f t E : Int} (w : World) (hl : L.length ≤ 1000000) (hP : Hid (PY L f t E)) (HN : Hid (numK 5 L 0 = (n, R1))) (HRN : Hid (rnums L = ((n : Int), b))) (hn : n < 100000) (_hl1 : R1.length ≤ 1000000) (hs1 : (str R1).size = R1.length) (_h3 : R1.length < 3) (h0 : R1.length = 0) (hb0 : b = (n : Int)) :
    Calls Tryz.prog 85 #[.string (str L)] w fun e w' => e = .returned (.tuple #[.agg #[.int .i64 f, .int .i64 t], .int .i64 E]) ∧ Below w.heap.size w w' := by
  subst hb0
  go_enter Tryz.func85, Tryz.ntmps85
  go_upto_region 1 with fail
  have HX := BL.one w #[.int .i64 0, .int .i64 0] 24
  generalize w.alloc (.cells #[.int .i64 0, .int .i64 0] 24) = W at *
  go_wp2_with fail
  refine (rdigits_any _ HN hl).mono ?_
  rintro e WX ⟨rfl, hb⟩
  replace HX := HX.ext hb
  clear hb
  go_upto_region 9 with fail
  have hlt7 := HX.lt 0 rfl
  simp only [] at hlt7
  replace HX := (HX.new #[.int .i64 (n : Int), .int .i64 (1 - (n : Int))] 3).new #[.int .i64 (n : Int), .int .i64 (1 - (n : Int))] 3
  simp only [List.cons_append, List.nil_append] at HX
  rw [show (WX.alloc (.cells #[.int .i64 (n : Int), .int .i64 (1 - (n : Int))] 3)).heap.size = WX.heap.size + 1 from by simp] at HX
  generalize ((WX.alloc (.cells #[.int .i64 (n : Int), .int .i64 (1 - (n : Int))] 3)).alloc (.cells #[.int .i64 (n : Int), .int .i64 (1 - (n : Int))] 3)) = W9 at *
  obtain ⟨g8, hg8⟩ : ∃ g, g = WX.heap.size + 1 := ⟨_, rfl⟩
  obtain ⟨g7, hg7⟩ : ∃ g, g = WX.heap.size := ⟨_, rfl⟩
  rw [← hg8] at HX ⊢
  rw [← hg7] at HX hlt7 hg8 ⊢
  have hne78 : g7 ≠ g8 := by omega
  have hlt8 : w.heap.size < g8 := by omega
  clear hg7 hg8
  go_wp2_with fail
  go_loopg [9] 2 (fun kk X wr => ∃ i : Nat, Hid (i + kk = 2) ∧ X = .int .i64 (i : Int) ∧ Hid (∀ i', i' < i → ∀ k', k' < 2 → ¬ (YV (fr (n : Int) i') (fr (n : Int) k') ∧ yearText (fr (n : Int) i') (fr (n : Int) k') = L)) ∧ BL w wr [(w.heap.size, #[.int .i64 0, .int .i64 0], 24), (g7, #[.int .i64 (n : Int), .int .i64 (1 - (n : Int))], 3), (g8, #[.int .i64 (n : Int), .int .i64 (1 - (n : Int))], 3)])
  case atStart => exact ⟨0, Lib.hid (by omega), rfl, Lib.hid (fun i h => absurd h (by omega)), HX⟩
  case round =>
    clear HX
    obtain ⟨i, hi, rfl, HI, HX⟩ := hrel
    by_cases hi2 : i < 2
    · have hid : decide ((i : Int) < 2) = true := decide_eq_true (by omega)
      go_wp2_with fail
      go_loopg [10] 2 (fun kk X wr => ∃ k : Nat, Hid (k + kk = 2) ∧ X = .int .i64 (k : Int) ∧ Hid (∀ k', k' < k → ¬ (YV (fr (n : Int) i) (fr (n : Int) k') ∧ yearText (fr (n : Int) i) (fr (n : Int) k') = L)) ∧ BL w wr [(w.heap.size, #[.int .i64 0, .int .i64 0], 24), (g7, #[.int .i64 (n : Int), .int .i64 (1 - (n : Int))], 3), (g8, #[.int .i64 (n : Int), .int .i64 (1 - (n : Int))], 3)])
      case atStart => exact ⟨0, Lib.hid (by omega), rfl, Lib.hid (fun i h => absurd h (by omega)), HX⟩
      case round =>
        clear HX
        obtain ⟨k, hk, rfl, HK, HX⟩ := hrel
        by_cases hk2 : k < 2
        · have hcx := HX.cell 1 i rfl (fr_at  hi2)
          have hcy := HX.cell 2 k rfl (fr_at  hk2)
          simp only [] at hcx hcy
          have hgr := HX.lt 0 rfl
          have hgr1 := HX.lt 1 rfl
          have hgr2 := HX.lt 2 rfl
          simp only [] at hgr hgr1 hgr2
          have HK1 := fun h => Lib.hid (hk_next  HK.out h)
          clear HK
          generalize fr (n : Int) i = x at *
          generalize fr (n : Int) k = y at *
          go_upto_region 15 with fail
          go_region
          all_goals (
            clear hcx hcy
            go_upto_region 16 with fail
            replace HX := HX.new #[.int .i64 x, .int .i64 y] 24
            simp only [List.cons_append, List.nil_append] at HX
            replace HX := HX.ext (drew_ext _)
            generalize (wr.alloc (.cells #[.int .i64 x, .int .i64 y] 24)).drew = W15 at *
            generalize wr.heap.size = g9 at *
            have hc30 := HX.cell 3 0 rfl rfl
            have hc31 := HX.cell 3 1 rfl rfl
            try simp only [List.getElem_toArray, List.getElem_cons_zero, List.getElem_cons_succ] at hc30 hc31
            by_cases hyv : YV x y
            · have HYV := yes hyv
              obtain ⟨M, hM⟩ : ∃ M, yearText x y = M := ⟨_, rfl⟩
              go_wp2_with fail
              refine (rvalid4_any (b := true) _ HYV).mono ?_
              rintro e w7 ⟨rfl, hb⟩
              clear hc30 hc31
              replace HX := HX.ext hb
              clear hb
              have hc30 := HX.cell 3 0 rfl rfl
              have hc31 := HX.cell 3 1 rfl rfl
              try simp only [List.getElem_toArray, List.getElem_cons_zero, List.getElem_cons_succ] at hc30 hc31
              go_wp2_with fail
              refine (rytext_any _ (.inl ⟨hyv, hM⟩)).mono ?_
              rintro e w8 ⟨rfl, hb⟩
              clear hc30 hc31
              replace HX := HX.ext hb
              clear hb
              have hc30 := HX.cell 3 0 rfl rfl
              have hc31 := HX.cell 3 1 rfl rfl
              try simp only [List.getElem_toArray, List.getElem_cons_zero, List.getElem_cons_succ] at hc30 hc31
              by_cases hML : M = L
              · obtain ⟨rfl, rfl, rfl⟩ := hP.out.ok hyv (hM.trans hML)
                have hse : ((str M).toList == (str L).toList) = true := str_eq (beq_iff_eq.2 hML)
                clear hyv hM hML HK1
                have hc00 := HX.cell 0 0 rfl rfl
                have hc01 := HX.cell 0 1 rfl rfl
                have hf00 := HX.free 0 0 rfl
                have hf01 := HX.free 0 1 rfl
                try simp only [List.getElem_toArray, List.getElem_cons_zero, List.getElem_cons_succ] at hc00 hc01
                go_wp2
                clear hc00 hc01 hf00 hf01 hc30 hc31
                replace HX := HX.put2 0 rfl (by omega) (by intro k q hk hne; match k, hk with | 0, hk => (simp at hk; subst hk; simp at hne ⊢; try omega) | 1, hk => (simp at hk; subst hk; simp at hne ⊢; try omega) | 2, hk => (simp at hk; subst hk; simp at hne ⊢; try omega) | 3, hk => (simp at hk; subst hk; simp at hne ⊢; try omega) | k + 4, hk => simp at hk) (.int .i64 f) (.int .i64 t)
                simp only [List.set_cons_zero] at HX
                have hc00 := HX.cell 0 0 rfl rfl
                have hc01 := HX.cell 0 1 rfl rfl
                try simp only [List.getElem_toArray, List.getElem_cons_zero, List.getElem_cons_succ] at hc00 hc01
                exact bodyPost_ret (v := .tuple #[.agg #[.int .i64 f, .int .i64 t], .int .i64 0]) (by simp [results, Tryz.results85, go_sem, hc00, hc01]) rfl ⟨rfl, HX.below⟩
              · have HK2 := HK1 fun h => hML (hM.symm.trans h.2)
                have hse : ((str M).toList == (str L).toList) = false := str_eq (beq_eq_false_iff_ne.2 hML)
                clear hyv hM hML HK1 hc30 hc31
                go_wp2_with fail
                go_roundg (2 - (k + 1))
                case measure => (first | (have := hk.out; omega) | (have := hi.out; omega))
                case rel => exact ⟨k + 1, Lib.hid (by have := hk.out; omega), by go_num, HK2, HX.init⟩
            · have HYV := no hyv
              have HK2 := HK1 fun h => hyv h.1
              clear hyv HK1
              go_wp2_with fail
              refine (rvalid4_any (b := false) _ HYV).mono ?_
              rintro e w7 ⟨rfl, hb⟩
              clear hc30 hc31
              replace HX := HX.ext hb
              clear hb
              go_wp2_with fail
              go_roundg (2 - (k + 1))
              case measure => (first | (have := hk.out; omega) | (have := hi.out; omega))
              case rel => exact ⟨k + 1, Lib.hid (by have := hk.out; omega), by go_num, HK2, HX.init⟩)
        · have HI2 := Lib.hid (hi_next HI.out (show ∀ k', k' < 2 → ¬ (YV (fr (n : Int) i) (fr (n : Int) k') ∧ yearText (fr (n : Int) i) (fr (n : Int) k') = L) from fun k' h => HK.out k' (by have := hk.out; omega)))
          go_wp2_with fail
          go_roundg (2 - (i + 1))
          case measure => (first | (have := hk.out; omega) | (have := hi.out; omega))
          case rel => exact ⟨i + 1, Lib.hid (by have := hi.out; omega), by go_num, HI2, HX⟩
    · obtain rfl : i = 2 := by have := hi.out; omega
      obtain ⟨rfl, rfl, rfl⟩ := hP.out.bad (ryears_bad HRN.out (HI.out 0 (by omega) 0 (by omega)) (HI.out 0 (by omega) 1 (by omega)) (HI.out 1 (by omega) 0 (by omega)) (HI.out 1 (by omega) 1 (by omega)))
      clear HI
      have hc00 := HX.cell 0 0 rfl rfl
      have hc01 := HX.cell 0 1 rfl rfl
      have hf00 := HX.free 0 0 rfl
      have hf01 := HX.free 0 1 rfl
      try simp only [List.getElem_toArray, List.getElem_cons_zero, List.getElem_cons_succ] at hc00 hc01
      go_wp2
      clear hc00 hc01 hf00 hf01
      replace HX := HX.put2 0 rfl (by omega) (by intro k q hk hne; match k, hk with | 0, hk => (simp at hk; subst hk; simp at hne ⊢; try omega) | 1, hk => (simp at hk; subst hk; simp at hne ⊢; try omega) | 2, hk => (simp at hk; subst hk; simp at hne ⊢; try omega) | k + 3, hk => simp at hk) (.int .i64 0) (.int .i64 0)
      simp only [List.set_cons_zero] at HX
      have hc00 := HX.cell 0 0 rfl rfl
      have hc01 := HX.cell 0 1 rfl rfl
      try simp only [List.getElem_toArray, List.getElem_cons_zero, List.getElem_cons_succ] at hc00 hc01
      exact bodyPost_ret (v := .tuple #[.agg #[.int .i64 0, .int .i64 0], .int .i64 3]) (by simp [results, Tryz.results85, go_sem, hc00, hc01]) rfl ⟨rfl, HX.below⟩
set_option maxHeartbeats 4000000 in
set_option maxRecDepth 100000 in
theorem rypA1 {L R1 _R2 _T3 : List UInt8} {n : Nat} {b f t E : Int} (w : World) (hl : L.length ≤ 1000000) (hP : Hid (PY L f t E)) (HN : Hid (numK 5 L 0 = (n, R1))) (HRN : Hid (rnums L = ((n : Int), b))) (hn : n < 100000) (hl1 : R1.length ≤ 1000000) (hs1 : (str R1).size = R1.length) (h3 : R1.length < 3) (h0 : 0 < R1.length) (hi0 : ∀ h, (str R1)[0]'h = 45) {r S : List UInt8} {m : Nat} (hxr : (str R1).extract 1 R1.length = str r) (hlr : r.length ≤ 1000000) (HB : Hid (numK 5 r 0 = (m, S))) (hm : m < 100000) (hb0 : b = (m : Int)) :
    Calls Tryz.prog 85 #[.string (str L)] w fun e w' => e = .returned (.tuple #[.agg #[.int .i64 f, .int .i64 t], .int .i64 E]) ∧ Below w.heap.size w w' := by
  subst hb0
  go_enter Tryz.func85, Tryz.ntmps85
  go_upto_region 1 with fail
  have HX := BL.one w #[.int .i64 0, .int .i64 0] 24
  generalize w.alloc (.cells #[.int .i64 0, .int .i64 0] 24) = W at *
  go_wp2_with fail
  refine (rdigits_any _ HN hl).mono ?_
  rintro e w1 ⟨rfl, hb⟩
  replace HX := HX.ext hb
  clear hb
  go_wp2_with fail
  refine (rdigits_any _ HB (by omega)).mono ?_
  rintro e WX ⟨rfl, hb⟩
  replace HX := HX.ext hb
  clear hb
  go_upto_region 9 with fail
  have hlt7 := HX.lt 0 rfl
  simp only [] at hlt7
  replace HX := (HX.new #[.int .i64 (n : Int), .int .i64 (1 - (n : Int))] 3).new #[.int .i64 (m : Int), .int .i64 (1 - (m : Int))] 3
  simp only [List.cons_append, List.nil_append] at HX
  rw [show (WX.alloc (.cells #[.int .i64 (n : Int), .int .i64 (1 - (n : Int))] 3)).heap.size = WX.heap.size + 1 from by simp] at HX
  generalize ((WX.alloc (.cells #[.int .i64 (n : Int), .int .i64 (1 - (n : Int))] 3)).alloc (.cells #[.int .i64 (m : Int), .int .i64 (1 - (m : Int))] 3)) = W9 at *
  obtain ⟨g8, hg8⟩ : ∃ g, g = WX.heap.size + 1 := ⟨_, rfl⟩
  obtain ⟨g7, hg7⟩ : ∃ g, g = WX.heap.size := ⟨_, rfl⟩
  rw [← hg8] at HX ⊢
  rw [← hg7] at HX hlt7 hg8 ⊢
  have hne78 : g7 ≠ g8 := by omega
  have hlt8 : w.heap.size < g8 := by omega
  clear hg7 hg8
  go_wp2_with fail
  go_loopg [9] 2 (fun kk X wr => ∃ i : Nat, Hid (i + kk = 2) ∧ X = .int .i64 (i : Int) ∧ Hid (∀ i', i' < i → ∀ k', k' < 2 → ¬ (YV (fr (n : Int) i') (fr (m : Int) k') ∧ yearText (fr (n : Int) i') (fr (m : Int) k') = L)) ∧ BL w wr [(w.heap.size, #[.int .i64 0, .int .i64 0], 24), (g7, #[.int .i64 (n : Int), .int .i64 (1 - (n : Int))], 3), (g8, #[.int .i64 (m : Int), .int .i64 (1 - (m : Int))], 3)])
  case atStart => exact ⟨0, Lib.hid (by omega), rfl, Lib.hid (fun i h => absurd h (by omega)), HX⟩
  case round =>
    clear HX
    obtain ⟨i, hi, rfl, HI, HX⟩ := hrel
    by_cases hi2 : i < 2
    · have hid : decide ((i : Int) < 2) = true := decide_eq_true (by omega)
      go_wp2_with fail
      go_loopg [10] 2 (fun kk X wr => ∃ k : Nat, Hid (k + kk = 2) ∧ X = .int .i64 (k : Int) ∧ Hid (∀ k', k' < k → ¬ (YV (fr (n : Int) i) (fr (m : Int) k') ∧ yearText (fr (n : Int) i) (fr (m : Int) k') = L)) ∧ BL w wr [(w.heap.size, #[.int .i64 0, .int .i64 0], 24), (g7, #[.int .i64 (n : Int), .int .i64 (1 - (n : Int))], 3), (g8, #[.int .i64 (m : Int), .int .i64 (1 - (m : Int))], 3)])
      case atStart => exact ⟨0, Lib.hid (by omega), rfl, Lib.hid (fun i h => absurd h (by omega)), HX⟩
      case round =>
        clear HX
        obtain ⟨k, hk, rfl, HK, HX⟩ := hrel
        by_cases hk2 : k < 2
        · have hcx := HX.cell 1 i rfl (fr_at  hi2)
          have hcy := HX.cell 2 k rfl (fr_at  hk2)
          simp only [] at hcx hcy
          have hgr := HX.lt 0 rfl
          have hgr1 := HX.lt 1 rfl
          have hgr2 := HX.lt 2 rfl
          simp only [] at hgr hgr1 hgr2
          have HK1 := fun h => Lib.hid (hk_next  HK.out h)
          clear HK
          generalize fr (n : Int) i = x at *
          generalize fr (m : Int) k = y at *
          go_upto_region 15 with fail
          go_region
          all_goals (
            clear hcx hcy
            go_upto_region 16 with fail
            replace HX := HX.new #[.int .i64 x, .int .i64 y] 24
            simp only [List.cons_append, List.nil_append] at HX
            replace HX := HX.ext (drew_ext _)
            generalize (wr.alloc (.cells #[.int .i64 x, .int .i64 y] 24)).drew = W15 at *
            generalize wr.heap.size = g9 at *
            have hc30 := HX.cell 3 0 rfl rfl
            have hc31 := HX.cell 3 1 rfl rfl
            try simp only [List.getElem_toArray, List.getElem_cons_zero, List.getElem_cons_succ] at hc30 hc31
            by_cases hyv : YV x y
            · have HYV := yes hyv
              obtain ⟨M, hM⟩ : ∃ M, yearText x y = M := ⟨_, rfl⟩
              go_wp2_with fail
              refine (rvalid4_any (b := true) _ HYV).mono ?_
              rintro e w7 ⟨rfl, hb⟩
              clear hc30 hc31
              replace HX := HX.ext hb
              clear hb
              have hc30 := HX.cell 3 0 rfl rfl
              have hc31 := HX.cell 3 1 rfl rfl
              try simp only [List.getElem_toArray, List.getElem_cons_zero, List.getElem_cons_succ] at hc30 hc31
              go_wp2_with fail
              refine (rytext_any _ (.inl ⟨hyv, hM⟩)).mono ?_
              rintro e w8 ⟨rfl, hb⟩
              clear hc30 hc31
              replace HX := HX.ext hb
              clear hb
              have hc30 := HX.cell 3 0 rfl rfl
              have hc31 := HX.cell 3 1 rfl rfl
              try simp only [List.getElem_toArray, List.getElem_cons_zero, List.getElem_cons_succ] at hc30 hc31
              by_cases hML : M = L
              · obtain ⟨rfl, rfl, rfl⟩ := hP.out.ok hyv (hM.trans hML)
                have hse : ((str M).toList == (str L).toList) = true := str_eq (beq_iff_eq.2 hML)
                clear hyv hM hML HK1
                have hc00 := HX.cell 0 0 rfl rfl
                have hc01 := HX.cell 0 1 rfl rfl
                have hf00 := HX.free 0 0 rfl
                have hf01 := HX.free 0 1 rfl
                try simp only [List.getElem_toArray, List.getElem_cons_zero, List.getElem_cons_succ] at hc00 hc01
                go_wp2
                clear hc00 hc01 hf00 hf01 hc30 hc31
                replace HX := HX.put2 0 rfl (by omega) (by intro k q hk hne; match k, hk with | 0, hk => (simp at hk; subst hk; simp at hne ⊢; try omega) | 1, hk => (simp at hk; subst hk; simp at hne ⊢; try omega) | 2, hk => (simp at hk; subst hk; simp at hne ⊢; try omega) | 3, hk => (simp at hk; subst hk; simp at hne ⊢; try omega) | k + 4, hk => simp at hk) (.int .i64 f) (.int .i64 t)
                simp only [List.set_cons_zero] at HX
                have hc00 := HX.cell 0 0 rfl rfl
                have hc01 := HX.cell 0 1 rfl rfl
                try simp only [List.getElem_toArray, List.getElem_cons_zero, List.getElem_cons_succ] at hc00 hc01
                exact bodyPost_ret (v := .tuple #[.agg #[.int .i64 f, .int .i64 t], .int .i64 0]) (by simp [results, Tryz.results85, go_sem, hc00, hc01]) rfl ⟨rfl, HX.below⟩
              · have HK2 := HK1 fun h => hML (hM.symm.trans h.2)
                have hse : ((str M).toList == (str L).toList) = false := str_eq (beq_eq_false_iff_ne.2 hML)
                clear hyv hM hML HK1 hc30 hc31
                go_wp2_with fail
                go_roundg (2 - (k + 1))
                case measure => (first | (have := hk.out; omega) | (have := hi.out; omega))
                case rel => exact ⟨k + 1, Lib.hid (by have := hk.out; omega), by go_num, HK2, HX.init⟩
            · have HYV := no hyv
              have HK2 := HK1 fun h => hyv h.1
              clear hyv HK1
              go_wp2_with fail
              refine (rvalid4_any (b := false) _ HYV).mono ?_
              rintro e w7 ⟨rfl, hb⟩
              clear hc30 hc31
              replace HX := HX.ext hb
              clear hb
              go_wp2_with fail
              go_roundg (2 - (k + 1))
              case measure => (first | (have := hk.out; omega) | (have := hi.out; omega))
              case rel => exact ⟨k + 1, Lib.hid (by have := hk.out; omega), by go_num, HK2, HX.init⟩)
        · have HI2 := Lib.hid (hi_next HI.out (show ∀ k', k' < 2 → ¬ (YV (fr (n : Int) i) (fr (m : Int) k') ∧ yearText (fr (n : Int) i) (fr (m : Int) k') = L) from fun k' h => HK.out k' (by have := hk.out; omega)))
          go_wp2_with fail
          go_roundg (2 - (i + 1))
          case measure => (first | (have := hk.out; omega) | (have := hi.out; omega))
          case rel => exact ⟨i + 1, Lib.hid (by have := hi.out; omega), by go_num, HI2, HX⟩
    · obtain rfl : i = 2 := by have := hi.out; omega
      obtain ⟨rfl, rfl, rfl⟩ := hP.out.bad (ryears_bad HRN.out (HI.out 0 (by omega) 0 (by omega)) (HI.out 0 (by omega) 1 (by omega)) (HI.out 1 (by omega) 0 (by omega)) (HI.out 1 (by omega) 1 (by omega)))
      clear HI
      have hc00 := HX.cell 0 0 rfl rfl
      have hc01 := HX.cell 0 1 rfl rfl
      have hf00 := HX.free 0 0 rfl
      have hf01 := HX.free 0 1 rfl
      try simp only [List.getElem_toArray, List.getElem_cons_zero, List.getElem_cons_succ] at hc00 hc01
      go_wp2
      clear hc00 hc01 hf00 hf01
      replace HX := HX.put2 0 rfl (by omega) (by intro k q hk hne; match k, hk with | 0, hk => (simp at hk; subst hk; simp at hne ⊢; try omega) | 1, hk => (simp at hk; subst hk; simp at hne ⊢; try omega) | 2, hk => (simp at hk; subst hk; simp at hne ⊢; try omega) | k + 3, hk => simp at hk) (.int .i64 0) (.int .i64 0)
      simp only [List.set_cons_zero] at HX
      have hc00 := HX.cell 0 0 rfl rfl
      have hc01 := HX.cell 0 1 rfl rfl
      try simp only [List.getElem_toArray, List.getElem_cons_zero, List.getElem_cons_succ] at hc00 hc01
      exact bodyPost_ret (v := .tuple #[.agg #[.int .i64 0, .int .i64 0], .int .i64 3]) (by simp [results, Tryz.results85, go_sem, hc00, hc01]) rfl ⟨rfl, HX.below⟩
set_option maxHeartbeats 4000000 in
set_option maxRecDepth 100000 in
theorem rypA2 {L R1 _R2 _T3 : List UInt8} {n : Nat} {b f t E : Int} (w : World) (hl : L.length ≤ 1000000) (hP : Hid (PY L f t E)) (HN : Hid (numK 5 L 0 = (n, R1))) (HRN : Hid (rnums L = ((n : Int), b))) (hn : n < 100000) (hl1 : R1.length ≤ 1000000) (hs1 : (str R1).size = R1.length) (h3 : R1.length < 3) (h0 : 0 < R1.length) {x0 : UInt8} (hi0 : ∀ h, (str R1)[0]'h = x0) (hx45 : ¬ x0.toNat = 45) (hb0 : b = (n : Int)) :
    Calls Tryz.prog 85 #[.string (str L)] w fun e w' => e = .returned (.tuple #[.agg #[.int .i64 f, .int .i64 t], .int .i64 E]) ∧ Below w.heap.size w w' := by
  subst hb0
  have hx46 : ((x0.toNat : Int) == 45) = false := by rw [beq_eq_false_iff_ne]; omega
  go_enter Tryz.func85, Tryz.ntmps85
  go_upto_region 1 with fail
  have HX := BL.one w #[.int .i64 0, .int .i64 0] 24
  generalize w.alloc (.cells #[.int .i64 0, .int .i64 0] 24) = W at *
  go_wp2_with fail
  refine (rdigits_any _ HN hl).mono ?_
  rintro e WX ⟨rfl, hb⟩
  replace HX := HX.ext hb
  clear hb
  go_upto_region 9 with fail
  have hlt7 := HX.lt 0 rfl
  simp only [] at hlt7
  replace HX := (HX.new #[.int .i64 (n : Int), .int .i64 (1 - (n : Int))] 3).new #[.int .i64 (n : Int), .int .i64 (1 - (n : Int))] 3
  simp only [List.cons_append, List.nil_append] at HX
  rw [show (WX.alloc (.cells #[.int .i64 (n : Int), .int .i64 (1 - (n : Int))] 3)).heap.size = WX.heap.size + 1 from by simp] at HX
  generalize ((WX.alloc (.cells #[.int .i64 (n : Int), .int .i64 (1 - (n : Int))] 3)).alloc (.cells #[.int .i64 (n : Int), .int .i64 (1 - (n : Int))] 3)) = W9 at *
  obtain ⟨g8, hg8⟩ : ∃ g, g = WX.heap.size + 1 := ⟨_, rfl⟩
  obtain ⟨g7, hg7⟩ : ∃ g, g = WX.heap.size := ⟨_, rfl⟩
  rw [← hg8] at HX ⊢
  rw [← hg7] at HX hlt7 hg8 ⊢
  have hne78 : g7 ≠ g8 := by omega
  have hlt8 : w.heap.size < g8 := by omega
  clear hg7 hg8
  go_wp2_with fail
  go_loopg [9] 2 (fun kk X wr => ∃ i : Nat, Hid (i + kk = 2) ∧ X = .int .i64 (i : Int) ∧ Hid (∀ i', i' < i → ∀ k', k' < 2 → ¬ (YV (fr (n : Int) i') (fr (n : Int) k') ∧ yearText (fr (n : Int) i') (fr (n : Int) k') = L)) ∧ BL w wr [(w.heap.size, #[.int .i64 0, .int .i64 0], 24), (g7, #[.int .i64 (n : Int), .int .i64 (1 - (n : Int))], 3), (g8, #[.int .i64 (n : Int), .int .i64 (1 - (n : Int))], 3)])
  case atStart => exact ⟨0, Lib.hid (by omega), rfl, Lib.hid (fun i h => absurd h (by omega)), HX⟩
  case round =>
    clear HX
    obtain ⟨i, hi, rfl, HI, HX⟩ := hrel
    by_cases hi2 : i < 2
    · have hid : decide ((i : Int) < 2) = true := decide_eq_true (by omega)
      go_wp2_with fail
      go_loopg [10] 2 (fun kk X wr => ∃ k : Nat, Hid (k + kk = 2) ∧ X = .int .i64 (k : Int) ∧ Hid (∀ k', k' < k → ¬ (YV (fr (n : Int) i) (fr (n : Int) k') ∧ yearText (fr (n : Int) i) (fr (n : Int) k') = L)) ∧ BL w wr [(w.heap.size, #[.int .i64 0, .int .i64 0], 24), (g7, #[.int .i64 (n : Int), .int .i64 (1 - (n : Int))], 3), (g8, #[.int .i64 (n : Int), .int .i64 (1 - (n : Int))], 3)])
      case atStart => exact ⟨0, Lib.hid (by omega), rfl, Lib.hid (fun i h => absurd h (by omega)), HX⟩
      case round =>
        clear HX
        obtain ⟨k, hk, rfl, HK, HX⟩ := hrel
        by_cases hk2 : k < 2
        · have hcx := HX.cell 1 i rfl (fr_at  hi2)
          have hcy := HX.cell 2 k rfl (fr_at  hk2)
          simp only [] at hcx hcy
          have hgr := HX.lt 0 rfl
          have hgr1 := HX.lt 1 rfl
          have hgr2 := HX.lt 2 rfl
          simp only [] at hgr hgr1 hgr2
          have HK1 := fun h => Lib.hid (hk_next  HK.out h)
          clear HK
          generalize fr (n : Int) i = x at *
          generalize fr (n : Int) k = y at *
          go_upto_region 15 with fail
          go_region
          all_goals (
            clear hcx hcy
            go_upto_region 16 with fail
            replace HX := HX.new #[.int .i64 x, .int .i64 y] 24
            simp only [List.cons_append, List.nil_append] at HX
            replace HX := HX.ext (drew_ext _)
            generalize (wr.alloc (.cells #[.int .i64 x, .int .i64 y] 24)).drew = W15 at *
            generalize wr.heap.size = g9 at *
            have hc30 := HX.cell 3 0 rfl rfl
            have hc31 := HX.cell 3 1 rfl rfl
            try simp only [List.getElem_toArray, List.getElem_cons_zero, List.getElem_cons_succ] at hc30 hc31
            by_cases hyv : YV x y
            · have HYV := yes hyv
              obtain ⟨M, hM⟩ : ∃ M, yearText x y = M := ⟨_, rfl⟩
              go_wp2_with fail
              refine (rvalid4_any (b := true) _ HYV).mono ?_
              rintro e w7 ⟨rfl, hb⟩
              clear hc30 hc31
              replace HX := HX.ext hb
              clear hb
              have hc30 := HX.cell 3 0 rfl rfl
              have hc31 := HX.cell 3 1 rfl rfl
              try simp only [List.getElem_toArray, List.getElem_cons_zero, List.getElem_cons_succ] at hc30 hc31
              go_wp2_with fail
              refine (rytext_any _ (.inl ⟨hyv, hM⟩)).mono ?_
              rintro e w8 ⟨rfl, hb⟩
              clear hc30 hc31
              replace HX := HX.ext hb
              clear hb
              have hc30 := HX.cell 3 0 rfl rfl
              have hc31 := HX.cell 3 1 rfl rfl
              try simp only [List.getElem_toArray, List.getElem_cons_zero, List.getElem_cons_succ] at hc30 hc31
              by_cases hML : M = L
              · obtain ⟨rfl, rfl, rfl⟩ := hP.out.ok hyv (hM.trans hML)
                have hse : ((str M).toList == (str L).toList) = true := str_eq (beq_iff_eq.2 hML)
                clear hyv hM hML HK1
                have hc00 := HX.cell 0 0 rfl rfl
                have hc01 := HX.cell 0 1 rfl rfl
                have hf00 := HX.free 0 0 rfl
                have hf01 := HX.free 0 1 rfl
                try simp only [List.getElem_toArray, List.getElem_cons_zero, List.getElem_cons_succ] at hc00 hc01
                go_wp2
                clear hc00 hc01 hf00 hf01 hc30 hc31
                replace HX := HX.put2 0 rfl (by omega) (by intro k q hk hne; match k, hk with | 0, hk => (simp at hk; subst hk; simp at hne ⊢; try omega) | 1, hk => (simp at hk; subst hk; simp at hne ⊢; try omega) | 2, hk => (simp at hk; subst hk; simp at hne ⊢; try omega) | 3, hk => (simp at hk; subst hk; simp at hne ⊢; try omega) | k + 4, hk => simp at hk) (.int .i64 f) (.int .i64 t)
                simp only [List.set_cons_zero] at HX
                have hc00 := HX.cell 0 0 rfl rfl
                have hc01 := HX.cell 0 1 rfl rfl
                try simp only [List.getElem_toArray, List.getElem_cons_zero, List.getElem_cons_succ] at hc00 hc01
                exact bodyPost_ret (v := .tuple #[.agg #[.int .i64 f, .int .i64 t], .int .i64 0]) (by simp [results, Tryz.results85, go_sem, hc00, hc01]) rfl ⟨rfl, HX.below⟩
              · have HK2 := HK1 fun h => hML (hM.symm.trans h.2)
                have hse : ((str M).toList == (str L).toList) = false := str_eq (beq_eq_false_iff_ne.2 hML)
                clear hyv hM hML HK1 hc30 hc31
                go_wp2_with fail
                go_roundg (2 - (k + 1))
                case measure => (first | (have := hk.out; omega) | (have := hi.out; omega))
                case rel => exact ⟨k + 1, Lib.hid (by have := hk.out; omega), by go_num, HK2, HX.init⟩
            · have HYV := no hyv
              have HK2 := HK1 fun h => hyv h.1
              clear hyv HK1
              go_wp2_with fail
              refine (rvalid4_any (b := false) _ HYV).mono ?_
              rintro e w7 ⟨rfl, hb⟩
              clear hc30 hc31
              replace HX := HX.ext hb
              clear hb
              go_wp2_with fail
              go_roundg (2 - (k + 1))
              case measure => (first | (have := hk.out; omega) | (have := hi.out; omega))
              case rel => exact ⟨k + 1, Lib.hid (by have := hk.out; omega), by go_num, HK2, HX.init⟩)
        · have HI2 := Lib.hid (hi_next HI.out (show ∀ k', k' < 2 → ¬ (YV (fr (n : Int) i) (fr (n : Int) k') ∧ yearText (fr (n : Int) i) (fr (n : Int) k') = L) from fun k' h => HK.out k' (by have := hk.out; omega)))
          go_wp2_with fail
          go_roundg (2 - (i + 1))
          case measure => (first | (have := hk.out; omega) | (have := hi.out; omega))
          case rel => exact ⟨i + 1, Lib.hid (by have := hi.out; omega), by go_num, HI2, HX⟩
    · obtain rfl : i = 2 := by have := hi.out; omega
      obtain ⟨rfl, rfl, rfl⟩ := hP.out.bad (ryears_bad HRN.out (HI.out 0 (by omega) 0 (by omega)) (HI.out 0 (by omega) 1 (by omega)) (HI.out 1 (by omega) 0 (by omega)) (HI.out 1 (by omega) 1 (by omega)))
      clear HI
      have hc00 := HX.cell 0 0 rfl rfl
      have hc01 := HX.cell 0 1 rfl rfl
      have hf00 := HX.free 0 0 rfl
      have hf01 := HX.free 0 1 rfl
      try simp only [List.getElem_toArray, List.getElem_cons_zero, List.getElem_cons_succ] at hc00 hc01
      go_wp2
      clear hc00 hc01 hf00 hf01
      replace HX := HX.put2 0 rfl (by omega) (by intro k q hk hne; match k, hk with | 0, hk => (simp at hk; subst hk; simp at hne ⊢; try omega) | 1, hk => (simp at hk; subst hk; simp at hne ⊢; try omega) | 2, hk => (simp at hk; subst hk; simp at hne ⊢; try omega) | k + 3, hk => simp at hk) (.int .i64 0) (.int .i64 0)
      simp only [List.set_cons_zero] at HX
      have hc00 := HX.cell 0 0 rfl rfl
      have hc01 := HX.cell 0 1 rfl rfl
      try simp only [List.getElem_toArray, List.getElem_cons_zero, List.getElem_cons_succ] at hc00 hc01
      exact bodyPost_ret (v := .tuple #[.agg #[.int .i64 0, .int .i64 0], .int .i64 3]) (by simp [results, Tryz.results85, go_sem, hc00, hc01]) rfl ⟨rfl, HX.below⟩
set_option maxHeartbeats 4000000 in
set_option maxRecDepth 100000 in
theorem rypB0 {L R1 R2 T3 : List UInt8} {n : Nat} {b f t E : Int} (w : World) (hl : L.length ≤ 1000000) (hP : Hid (PY L f t E)) (HN : Hid (numK 5 L 0 = (n, R1))) (HRN : Hid (rnums L = ((n : Int), b))) (hn : n < 100000) (hl1 : R1.length ≤ 1000000) (hs1 : (str R1).size = R1.length) (h3 : 3 ≤ R1.length) (hx0 : (str R1).extract 0 3 = str T3) (hbc : ((str T3).toList == [32, 66, 67]) = true) (hx3 : (str R1).extract 3 R1.length = str R2) (_hl2 : R2.length ≤ 1000000) (hs2 : (str R2).size = R2.length) (h0 : R2.length = 0) (hb0 : b = (n : Int)) :
    Calls Tryz.prog 85 #[.string (str L)] w fun e w' => e = .returned (.tuple #[.agg #[.int .i64 f, .int .i64 t], .int .i64 E]) ∧ Below w.heap.size w w' := by
  subst hb0
  go_enter Tryz.func85, Tryz.ntmps85
  go_upto_region 1 with fail
  have HX := BL.one w #[.int .i64 0, .int .i64 0] 24
  generalize w.alloc (.cells #[.int .i64 0, .int .i64 0] 24) = W at *
  go_wp2_with fail
  refine (rdigits_any _ HN hl).mono ?_
  rintro e WX ⟨rfl, hb⟩
  replace HX := HX.ext hb
  clear hb
  go_upto_region 9 with fail
  have hlt7 := HX.lt 0 rfl
  simp only [] at hlt7
  replace HX := (HX.new #[.int .i64 (n : Int), .int .i64 (1 - (n : Int))] 3).new #[.int .i64 (n : Int), .int .i64 (1 - (n : Int))] 3
  simp only [List.cons_append, List.nil_append] at HX
  rw [show (WX.alloc (.cells #[.int .i64 (n : Int), .int .i64 (1 - (n : Int))] 3)).heap.size = WX.heap.size + 1 from by simp] at HX
  generalize ((WX.alloc (.cells #[.int .i64 (n : Int), .int .i64 (1 - (n : Int))] 3)).alloc (.cells #[.int .i64 (n : Int), .int .i64 (1 - (n : Int))] 3)) = W9 at *
  obtain ⟨g8, hg8⟩ : ∃ g, g = WX.heap.size + 1 := ⟨_, rfl⟩
  obtain ⟨g7, hg7⟩ : ∃ g, g = WX.heap.size := ⟨_, rfl⟩
  rw [← hg8] at HX ⊢
  rw [← hg7] at HX hlt7 hg8 ⊢
  have hne78 : g7 ≠ g8 := by omega
  have hlt8 : w.heap.size < g8 := by omega
  clear hg7 hg8
  go_wp2_with fail
  go_loopg [9] 2 (fun kk X wr => ∃ i : Nat, Hid (i + kk = 2) ∧ X = .int .i64 (i : Int) ∧ Hid (∀ i', i' < i → ∀ k', k' < 2 → ¬ (YV (fr (n : Int) i') (fr (n : Int) k') ∧ yearText (fr (n : Int) i') (fr (n : Int) k') = L)) ∧ BL w wr [(w.heap.size, #[.int .i64 0, .int .i64 0], 24), (g7, #[.int .i64 (n : Int), .int .i64 (1 - (n : Int))], 3), (g8, #[.int .i64 (n : Int), .int .i64 (1 - (n : Int))], 3)])
  case atStart => exact ⟨0, Lib.hid (by omega), rfl, Lib.hid (fun i h => absurd h (by omega)), HX⟩
  case round =>
    clear HX
    obtain ⟨i, hi, rfl, HI, HX⟩ := hrel
    by_cases hi2 : i < 2
    · have hid : decide ((i : Int) < 2) = true := decide_eq_true (by omega)
      go_wp2_with fail
      go_loopg [10] 2 (fun kk X wr => ∃ k : Nat, Hid (k + kk = 2) ∧ X = .int .i64 (k : Int) ∧ Hid (∀ k', k' < k → ¬ (YV (fr (n : Int) i) (fr (n : Int) k') ∧ yearText (fr (n : Int) i) (fr (n : Int) k') = L)) ∧ BL w wr [(w.heap.size, #[.int .i64 0, .int .i64 0], 24), (g7, #[.int .i64 (n : Int), .int .i64 (1 - (n : Int))], 3), (g8, #[.int .i64 (n : Int), .int .i64 (1 - (n : Int))], 3)])
      case atStart => exact ⟨0, Lib.hid (by omega), rfl, Lib.hid (fun i h => absurd h (by omega)), HX⟩
      case round =>
        clear HX
        obtain ⟨k, hk, rfl, HK, HX⟩ := hrel
        by_cases hk2 : k < 2
        · have hcx := HX.cell 1 i rfl (fr_at  hi2)
          have hcy := HX.cell 2 k rfl (fr_at  hk2)
          simp only [] at hcx hcy
          have hgr := HX.lt 0 rfl
          have hgr1 := HX.lt 1 rfl
          have hgr2 := HX.lt 2 rfl
          simp only [] at hgr hgr1 hgr2
          have HK1 := fun h => Lib.hid (hk_next  HK.out h)
          clear HK
          generalize fr (n : Int) i = x at *
          generalize fr (n : Int) k = y at *
          go_upto_region 15 with fail
          go_region
          all_goals (
            clear hcx hcy
            go_upto_region 16 with fail
            replace HX := HX.new #[.int .i64 x, .int .i64 y] 24
            simp only [List.cons_append, List.nil_append] at HX
            replace HX := HX.ext (drew_ext _)
            generalize (wr.alloc (.cells #[.int .i64 x, .int .i64 y] 24)).drew = W15 at *
            generalize wr.heap.size = g9 at *
            have hc30 := HX.cell 3 0 rfl rfl
            have hc31 := HX.cell 3 1 rfl rfl
            try simp only [List.getElem_toArray, List.getElem_cons_zero, List.getElem_cons_succ] at hc30 hc31
            by_cases hyv : YV x y
            · have HYV := yes hyv
              obtain ⟨M, hM⟩ : ∃ M, yearText x y = M := ⟨_, rfl⟩
              go_wp2_with fail
              refine (rvalid4_any (b := true) _ HYV).mono ?_
              rintro e w7 ⟨rfl, hb⟩
              clear hc30 hc31
              replace HX := HX.ext hb
              clear hb
              have hc30 := HX.cell 3 0 rfl rfl
              have hc31 := HX.cell 3 1 rfl rfl
              try simp only [List.getElem_toArray, List.getElem_cons_zero, List.getElem_cons_succ] at hc30 hc31
              go_wp2_with fail
              refine (rytext_any _ (.inl ⟨hyv, hM⟩)).mono ?_
              rintro e w8 ⟨rfl, hb⟩
              clear hc30 hc31
              replace HX := HX.ext hb
              clear hb
              have hc30 := HX.cell 3 0 rfl rfl
              have hc31 := HX.cell 3 1 rfl rfl
              try simp only [List.getElem_toArray, List.getElem_cons_zero, List.getElem_cons_succ] at hc30 hc31
              by_cases hML : M = L
              · obtain ⟨rfl, rfl, rfl⟩ := hP.out.ok hyv (hM.trans hML)
                have hse : ((str M).toList == (str L).toList) = true := str_eq (beq_iff_eq.2 hML)
                clear hyv hM hML HK1
                have hc00 := HX.cell 0 0 rfl rfl
                have hc01 := HX.cell 0 1 rfl rfl
                have hf00 := HX.free 0 0 rfl
                have hf01 := HX.free 0 1 rfl
                try simp only [List.getElem_toArray, List.getElem_cons_zero, List.getElem_cons_succ] at hc00 hc01
                go_wp2
                clear hc00 hc01 hf00 hf01 hc30 hc31
                replace HX := HX.put2 0 rfl (by omega) (by intro k q hk hne; match k, hk with | 0, hk => (simp at hk; subst hk; simp at hne ⊢; try omega) | 1, hk => (simp at hk; subst hk; simp at hne ⊢; try omega) | 2, hk => (simp at hk; subst hk; simp at hne ⊢; try omega) | 3, hk => (simp at hk; subst hk; simp at hne ⊢; try omega) | k + 4, hk => simp at hk) (.int .i64 f) (.int .i64 t)
                simp only [List.set_cons_zero] at HX
                have hc00 := HX.cell 0 0 rfl rfl
                have hc01 := HX.cell 0 1 rfl rfl
                try simp only [List.getElem_toArray, List.getElem_cons_zero, List.getElem_cons_succ] at hc00 hc01
                exact bodyPost_ret (v := .tuple #[.agg #[.int .i64 f, .int .i64 t], .int .i64 0]) (by simp [results, Tryz.results85, go_sem, hc00, hc01]) rfl ⟨rfl, HX.below⟩
              · have HK2 := HK1 fun h => hML (hM.symm.trans h.2)
                have hse : ((str M).toList == (str L).toList) = false := str_eq (beq_eq_false_iff_ne.2 hML)
                clear hyv hM hML HK1 hc30 hc31
                go_wp2_with fail
                go_roundg (2 - (k + 1))
                case measure => (first | (have := hk.out; omega) | (have := hi.out; omega))
                case rel => exact ⟨k + 1, Lib.hid (by have := hk.out; omega), by go_num, HK2, HX.init⟩
            · have HYV := no hyv
              have HK2 := HK1 fun h => hyv h.1
              clear hyv HK1
              go_wp2_with fail
              refine (rvalid4_any (b := false) _ HYV).mono ?_
              rintro e w7 ⟨rfl, hb⟩
              clear hc30 hc31
              replace HX := HX.ext hb
              clear hb
              go_wp2_with fail
              go_roundg (2 - (k + 1))
              case measure => (first | (have := hk.out; omega) | (have := hi.out; omega))
              case rel => exact ⟨k + 1, Lib.hid (by have := hk.out; omega), by go_num, HK2, HX.init⟩)
        · have HI2 := Lib.hid (hi_next HI.out (show ∀ k', k' < 2 → ¬ (YV (fr (n : Int) i) (fr (n : Int) k') ∧ yearText (fr (n : Int) i) (fr (n : Int) k') = L) from fun k' h => HK.out k' (by have := hk.out; omega)))
          go_wp2_with fail
          go_roundg (2 - (i + 1))
          case measure => (first | (have := hk.out; omega) | (have := hi.out; omega))
          case rel => exact ⟨i + 1, Lib.hid (by have := hi.out; omega), by go_num, HI2, HX⟩
    · obtain rfl : i = 2 := by have := hi.out; omega
      obtain ⟨rfl, rfl, rfl⟩ := hP.out.bad (ryears_bad HRN.out (HI.out 0 (by omega) 0 (by omega)) (HI.out 0 (by omega) 1 (by omega)) (HI.out 1 (by omega) 0 (by omega)) (HI.out 1 (by omega) 1 (by omega)))
      clear HI
      have hc00 := HX.cell 0 0 rfl rfl
      have hc01 := HX.cell 0 1 rfl rfl
      have hf00 := HX.free 0 0 rfl
      have hf01 := HX.free 0 1 rfl
      try simp only [List.getElem_toArray, List.getElem_cons_zero, List.getElem_cons_succ] at hc00 hc01
      go_wp2
      clear hc00 hc01 hf00 hf01
      replace HX := HX.put2 0 rfl (by omega) (by intro k q hk hne; match k, hk with | 0, hk => (simp at hk; subst hk; simp at hne ⊢; try omega) | 1, hk => (simp at hk; subst hk; simp at hne ⊢; try omega) | 2, hk => (simp at hk; subst hk; simp at hne ⊢; try omega) | k + 3, hk => simp at hk) (.int .i64 0) (.int .i64 0)
      simp only [List.set_cons_zero] at HX
      have hc00 := HX.cell 0 0 rfl rfl
      have hc01 := HX.cell 0 1 rfl rfl
      try simp only [List.getElem_toArray, List.getElem_cons_zero, List.getElem_cons_succ] at hc00 hc01
      exact bodyPost_ret (v := .tuple #[.agg #[.int .i64 0, .int .i64 0], .int .i64 3]) (by simp [results, Tryz.results85, go_sem, hc00, hc01]) rfl ⟨rfl, HX.below⟩
set_option maxHeartbeats 4000000 in
set_option maxRecDepth 100000 in
theorem rypB1 {L R1 R2 T3 : List UInt8} {n : Nat} {b f t E : Int} (w : World) (hl : L.length ≤ 1000000) (hP : Hid (PY L f t E)) (HN : Hid (numK 5 L 0 = (n, R1))) (HRN : Hid (rnums L = ((n : Int), b))) (hn : n < 100000) (hl1 : R1.length ≤ 1000000) (hs1 : (str R1).size = R1.length) (h3 : 3 ≤ R1.length) (hx0 : (str R1).extract 0 3 = str T3) (hbc : ((str T3).toList == [32, 66, 67]) = true) (hx3 : (str R1).extract 3 R1.length = str R2) (hl2 : R2.length ≤ 1000000) (hs2 : (str R2).size = R2.length) (h0 : 0 < R2.length) (hi0 : ∀ h, (str R2)[0]'h = 45) {r S : List UInt8} {m : Nat} (hxr : (str R2).extract 1 R2.length = str r) (hlr : r.length ≤ 1000000) (HB : Hid (numK 5 r 0 = (m, S))) (hm : m < 100000) (hb0 : b = (m : Int)) :
    Calls Tryz.prog 85 #[.string (str L)] w fun e w' => e = .returned (.tuple #[.agg #[.int .i64 f, .int .i64 t], .int .i64 E]) ∧ Below w.heap.size w w' := by
  subst hb0
  go_enter Tryz.func85, Tryz.ntmps85
  go_upto_region 1 with fail
  have HX := BL.one w #[.int .i64 0, .int .i64 0] 24
  generalize w.alloc (.cells #[.int .i64 0, .int .i64 0] 24) = W at *
  go_wp2_with fail
  refine (rdigits_any _ HN hl).mono ?_
  rintro e w1 ⟨rfl, hb⟩
  replace HX := HX.ext hb
  clear hb
  go_wp2_with fail
  refine (rdigits_any _ HB (by omega)).mono ?_
  rintro e WX ⟨rfl, hb⟩
  replace HX := HX.ext hb
  clear hb
  go_upto_region 9 with fail
  have hlt7 := HX.lt 0 rfl
  simp only [] at hlt7
  replace HX := (HX.new #[.int .i64 (n : Int), .int .i64 (1 - (n : Int))] 3).new #[.int .i64 (m : Int), .int .i64 (1 - (m : Int))] 3
  simp only [List.cons_append, List.nil_append] at HX
  rw [show (WX.alloc (.cells #[.int .i64 (n : Int), .int .i64 (1 - (n : Int))] 3)).heap.size = WX.heap.size + 1 from by simp] at HX
  generalize ((WX.alloc (.cells #[.int .i64 (n : Int), .int .i64 (1 - (n : Int))] 3)).alloc (.cells #[.int .i64 (m : Int), .int .i64 (1 - (m : Int))] 3)) = W9 at *
  obtain ⟨g8, hg8⟩ : ∃ g, g = WX.heap.size + 1 := ⟨_, rfl⟩
  obtain ⟨g7, hg7⟩ : ∃ g, g = WX.heap.size := ⟨_, rfl⟩
  rw [← hg8] at HX ⊢
  rw [← hg7] at HX hlt7 hg8 ⊢
  have hne78 : g7 ≠ g8 := by omega
  have hlt8 : w.heap.size < g8 := by omega
  clear hg7 hg8
  go_wp2_with fail
  go_loopg [9] 2 (fun kk X wr => ∃ i : Nat, Hid (i + kk = 2) ∧ X = .int .i64 (i : Int) ∧ Hid (∀ i', i' < i → ∀ k', k' < 2 → ¬ (YV (fr (n : Int) i') (fr (m : Int) k') ∧ yearText (fr (n : Int) i') (fr (m : Int) k') = L)) ∧ BL w wr [(w.heap.size, #[.int .i64 0, .int .i64 0], 24), (g7, #[.int .i64 (n : Int), .int .i64 (1 - (n : Int))], 3), (g8, #[.int .i64 (m : Int), .int .i64 (1 - (m : Int))], 3)])
  case atStart => exact ⟨0, Lib.hid (by omega), rfl, Lib.hid (fun i h => absurd h (by omega)), HX⟩
  case round =>
    clear HX
    obtain ⟨i, hi, rfl, HI, HX⟩ := hrel
    by_cases hi2 : i < 2
    · have hid : decide ((i : Int) < 2) = true := decide_eq_true (by omega)
      go_wp2_with fail
      go_loopg [10] 2 (fun kk X wr => ∃ k : Nat, Hid (k + kk = 2) ∧ X = .int .i64 (k : Int) ∧ Hid (∀ k', k' < k → ¬ (YV (fr (n : Int) i) (fr (m : Int) k') ∧ yearText (fr (n : Int) i) (fr (m : Int) k') = L)) ∧ BL w wr [(w.heap.size, #[.int .i64 0, .int .i64 0], 24), (g7, #[.int .i64 (n : Int), .int .i64 (1 - (n : Int))], 3), (g8, #[.int .i64 (m : Int), .int .i64 (1 - (m : Int))], 3)])
      case atStart => exact ⟨0, Lib.hid (by omega), rfl, Lib.hid (fun i h => absurd h (by omega)), HX⟩
      case round =>
        clear HX
        obtain ⟨k, hk, rfl, HK, HX⟩ := hrel
        by_cases hk2 : k < 2
        · have hcx := HX.cell 1 i rfl (fr_at  hi2)
          have hcy := HX.cell 2 k rfl (fr_at  hk2)
          simp only [] at hcx hcy
          have hgr := HX.lt 0 rfl
          have hgr1 := HX.lt 1 rfl
          have hgr2 := HX.lt 2 rfl
          simp only [] at hgr hgr1 hgr2
          have HK1 := fun h => Lib.hid (hk_next  HK.out h)
          clear HK
          generalize fr (n : Int) i = x at *
          generalize fr (m : Int) k = y at *
          go_upto_region 15 with fail
          go_region
          all_goals (
            clear hcx hcy
            go_upto_region 16 with fail
            replace HX := HX.new #[.int .i64 x, .int .i64 y] 24
            simp only [List.cons_append, List.nil_append] at HX
            replace HX := HX.ext (drew_ext _)
            generalize (wr.alloc (.cells #[.int .i64 x, .int .i64 y] 24)).drew = W15 at *
            generalize wr.heap.size = g9 at *
            have hc30 := HX.cell 3 0 rfl rfl
            have hc31 := HX.cell 3 1 rfl rfl
            try simp only [List.getElem_toArray, List.getElem_cons_zero, List.getElem_cons_succ] at hc30 hc31
            by_cases hyv : YV x y
            · have HYV := yes hyv
              obtain ⟨M, hM⟩ : ∃ M, yearText x y = M := ⟨_, rfl⟩
              go_wp2_with fail
              refine (rvalid4_any (b := true) _ HYV).mono ?_
              rintro e w7 ⟨rfl, hb⟩
              clear hc30 hc31
              replace HX := HX.ext hb
              clear hb
              have hc30 := HX.cell 3 0 rfl rfl
              have hc31 := HX.cell 3 1 rfl rfl
              try simp only [List.getElem_toArray, List.getElem_cons_zero, List.getElem_cons_succ] at hc30 hc31
              go_wp2_with fail
              refine (rytext_any _ (.inl ⟨hyv, hM⟩)).mono ?_
              rintro e w8 ⟨rfl, hb⟩
              clear hc30 hc31
              replace HX := HX.ext hb
              clear hb
              have hc30 := HX.cell 3 0 rfl rfl
              have hc31 := HX.cell 3 1 rfl rfl
              try simp only [List.getElem_toArray, List.getElem_cons_zero, List.getElem_cons_succ] at hc30 hc31
              by_cases hML : M = L
              · obtain ⟨rfl, rfl, rfl⟩ := hP.out.ok hyv (hM.trans hML)
                have hse : ((str M).toList == (str L).toList) = true := str_eq (beq_iff_eq.2 hML)
                clear hyv hM hML HK1
                have hc00 := HX.cell 0 0 rfl rfl
                have hc01 := HX.cell 0 1 rfl rfl
                have hf00 := HX.free 0 0 rfl
                have hf01 := HX.free 0 1 rfl
                try simp only [List.getElem_toArray, List.getElem_cons_zero, List.getElem_cons_succ] at hc00 hc01
                go_wp2
                clear hc00 hc01 hf00 hf01 hc30 hc31
                replace HX := HX.put2 0 rfl (by omega) (by intro k q hk hne; match k, hk with | 0, hk => (simp at hk; subst hk; simp at hne ⊢; try omega) | 1, hk => (simp at hk; subst hk; simp at hne ⊢; try omega) | 2, hk => (simp at hk; subst hk; simp at hne ⊢; try omega) | 3, hk => (simp at hk; subst hk; simp at hne ⊢; try omega) | k + 4, hk => simp at hk) (.int .i64 f) (.int .i64 t)
                simp only [List.set_cons_zero] at HX
                have hc00 := HX.cell 0 0 rfl rfl
                have hc01 := HX.cell 0 1 rfl rfl
                try simp only [List.getElem_toArray, List.getElem_cons_zero, List.getElem_cons_succ] at hc00 hc01
                exact bodyPost_ret (v := .tuple #[.agg #[.int .i64 f, .int .i64 t], .int .i64 0]) (by simp [results, Tryz.results85, go_sem, hc00, hc01]) rfl ⟨rfl, HX.below⟩
              · have HK2 := HK1 fun h => hML (hM.symm.trans h.2)
                have hse : ((str M).toList == (str L).toList) = false := str_eq (beq_eq_false_iff_ne.2 hML)
                clear hyv hM hML HK1 hc30 hc31
                go_wp2_with fail
                go_roundg (2 - (k + 1))
                case measure => (first | (have := hk.out; omega) | (have := hi.out; omega))
                case rel => exact ⟨k + 1, Lib.hid (by have := hk.out; omega), by go_num, HK2, HX.init⟩
            · have HYV := no hyv
              have HK2 := HK1 fun h => hyv h.1
              clear hyv HK1
              go_wp2_with fail
              refine (rvalid4_any (b := false) _ HYV).mono ?_
              rintro e w7 ⟨rfl, hb⟩
              clear hc30 hc31
              replace HX := HX.ext hb
              clear hb
              go_wp2_with fail
              go_roundg (2 - (k + 1))
              case measure => (first | (have := hk.out; omega) | (have := hi.out; omega))
              case rel => exact ⟨k + 1, Lib.hid (by have := hk.out; omega), by go_num, HK2, HX.init⟩)
        · have HI2 := Lib.hid (hi_next HI.out (show ∀ k', k' < 2 → ¬ (YV (fr (n : Int) i) (fr (m : Int) k') ∧ yearText (fr (n : Int) i) (fr (m : Int) k') = L) from fun k' h => HK.out k' (by have := hk.out; omega)))
          go_wp2_with fail
          go_roundg (2 - (i + 1))
          case measure => (first | (have := hk.out; omega) | (have := hi.out; omega))
          case rel => exact ⟨i + 1, Lib.hid (by have := hi.out; omega), by go_num, HI2, HX⟩
    · obtain rfl : i = 2 := by have := hi.out; omega
      obtain ⟨rfl, rfl, rfl⟩ := hP.out.bad (ryears_bad HRN.out (HI.out 0 (by omega) 0 (by omega)) (HI.out 0 (by omega) 1 (by omega)) (HI.out 1 (by omega) 0 (by omega)) (HI.out 1 (by omega) 1 (by omega)))
      clear HI
      have hc00 := HX.cell 0 0 rfl rfl
      have hc01 := HX.cell 0 1 rfl rfl
      have hf00 := HX.free 0 0 rfl
      have hf01 := HX.free 0 1 rfl
      try simp only [List.getElem_toArray, List.getElem_cons_zero, List.getElem_cons_succ] at hc00 hc01
      go_wp2
      clear hc00 hc01 hf00 hf01
      replace HX := HX.put2 0 rfl (by omega) (by intro k q hk hne; match k, hk with | 0, hk => (simp at hk; subst hk; simp at hne ⊢; try omega) | 1, hk => (simp at hk; subst hk; simp at hne ⊢; try omega) | 2, hk => (simp at hk; subst hk; simp at hne ⊢; try omega) | k + 3, hk => simp at hk) (.int .i64 0) (.int .i64 0)
      simp only [List.set_cons_zero] at HX
      have hc00 := HX.cell 0 0 rfl rfl
      have hc01 := HX.cell 0 1 rfl rfl
      try simp only [List.getElem_toArray, List.getElem_cons_zero, List.getElem_cons_succ] at hc00 hc01
      exact bodyPost_ret (v := .tuple #[.agg #[.int .i64 0, .int .i64 0], .int .i64 3]) (by simp [results, Tryz.results85, go_sem, hc00, hc01]) rfl ⟨rfl, HX.below⟩
set_option maxHeartbeats 4000000 in
set_option maxRecDepth 100000 in
theorem rypB2 {L R1 R2 T3 : List UInt8} {n : Nat} {b f t E : Int} (w : World) (hl : L.length ≤ 1000000) (hP : Hid (PY L f t E)) (HN : Hid (numK 5 L 0 = (n, R1))) (HRN : Hid (rnums L = ((n : Int), b))) (hn : n < 100000) (hl1 : R1.length ≤ 1000000) (hs1 : (str R1).size = R1.length) (h3 : 3 ≤ R1.length) (hx0 : (str R1).extract 0 3 = str T3) (hbc : ((str T3).toList == [32, 66, 67]) = true) (hx3 : (str R1).extract 3 R1.length = str R2) (_hl2 : R2.length ≤ 1000000) (hs2 : (str R2).size = R2.length) (h0 : 0 < R2.length) {x0 : UInt8} (hi0 : ∀ h, (str R2)[0]'h = x0) (hx45 : ¬ x0.toNat = 45) (hb0 : b = (n : Int)) :
    Calls Tryz.prog 85 #[.string (str L)] w fun e w' => e = .returned (.tuple #[.agg #[.int .i64 f, .int .i64 t], .int .i64 E]) ∧ Below w.heap.size w w' := by
  subst hb0
  have hx46 : ((x0.toNat : Int) == 45) = false := by rw [beq_eq_false_iff_ne]; omega
  go_enter Tryz.func85, Tryz.ntmps85
  go_upto_region 1 with fail
  have HX := BL.one w #[.int .i64 0, .int .i64 0] 24
  generalize w.alloc (.cells #[.int .i64 0, .int .i64 0] 24) = W at *
  go_wp2_with fail
  refine (rdigits_any _ HN hl).mono ?_
  rintro e WX ⟨rfl, hb⟩
  replace HX := HX.ext hb
  clear hb
  go_upto_region 9 with fail
  have hlt7 := HX.lt 0 rfl
  simp only [] at hlt7
  replace HX := (HX.new #[.int .i64 (n : Int), .int .i64 (1 - (n : Int))] 3).new #[.int .i64 (n : Int), .int .i64 (1 - (n : Int))] 3
  simp only [List.cons_append, List.nil_append] at HX
  rw [show (WX.alloc (.cells #[.int .i64 (n : Int), .int .i64 (1 - (n : Int))] 3)).heap.size = WX.heap.size + 1 from by simp] at HX
  generalize ((WX.alloc (.cells #[.int .i64 (n : Int), .int .i64 (1 - (n : Int))] 3)).alloc (.cells #[.int .i64 (n : Int), .int .i64 (1 - (n : Int))] 3)) = W9 at *
  obtain ⟨g8, hg8⟩ : ∃ g, g = WX.heap.size + 1 := ⟨_, rfl⟩
  obtain ⟨g7, hg7⟩ : ∃ g, g = WX.heap.size := ⟨_, rfl⟩
  rw [← hg8] at HX ⊢
  rw [← hg7] at HX hlt7 hg8 ⊢
  have hne78 : g7 ≠ g8 := by omega
  have hlt8 : w.heap.size < g8 := by omega
  clear hg7 hg8
  go_wp2_with fail
  go_loopg [9] 2 (fun kk X wr => ∃ i : Nat, Hid (i + kk = 2) ∧ X = .int .i64 (i : Int) ∧ Hid (∀ i', i' < i → ∀ k', k' < 2 → ¬ (YV (fr (n : Int) i') (fr (n : Int) k') ∧ yearText (fr (n : Int) i') (fr (n : Int) k') = L)) ∧ BL w wr [(w.heap.size, #[.int .i64 0, .int .i64 0], 24), (g7, #[.int .i64 (n : Int), .int .i64 (1 - (n : Int))], 3), (g8, #[.int .i64 (n : Int), .int .i64 (1 - (n : Int))], 3)])
  case atStart => exact ⟨0, Lib.hid (by omega), rfl, Lib.hid (fun i h => absurd h (by omega)), HX⟩
  case round =>
    clear HX
    obtain ⟨i, hi, rfl, HI, HX⟩ := hrel
    by_cases hi2 : i < 2
    · have hid : decide ((i : Int) < 2) = true := decide_eq_true (by omega)
      go_wp2_with fail
      go_loopg [10] 2 (fun kk X wr => ∃ k : Nat, Hid (k + kk = 2) ∧ X = .int .i64 (k : Int) ∧ Hid (∀ k', k' < k → ¬ (YV (fr (n : Int) i) (fr (n : Int) k') ∧ yearText (fr (n : Int) i) (fr (n : Int) k') = L)) ∧ BL w wr [(w.heap.size, #[.int .i64 0, .int .i64 0], 24), (g7, #[.int .i64 (n : Int), .int .i64 (1 - (n : Int))], 3), (g8, #[.int .i64 (n : Int), .int .i64 (1 - (n : Int))], 3)])
      case atStart => exact ⟨0, Lib.hid (by omega), rfl, Lib.hid (fun i h => absurd h (by omega)), HX⟩
      case round =>
        clear HX
        obtain ⟨k, hk, rfl, HK, HX⟩ := hrel
        by_cases hk2 : k < 2
        · have hcx := HX.cell 1 i rfl (fr_at  hi2)
          have hcy := HX.cell 2 k rfl (fr_at  hk2)
          simp only [] at hcx hcy
          have hgr := HX.lt 0 rfl
          have hgr1 := HX.lt 1 rfl
          have hgr2 := HX.lt 2 rfl
          simp only [] at hgr hgr1 hgr2
          have HK1 := fun h => Lib.hid (hk_next  HK.out h)
          clear HK
          generalize fr (n : Int) i = x at *
          generalize fr (n : Int) k = y at *
          go_upto_region 15 with fail
          go_region
          all_goals (
            clear hcx hcy
            go_upto_region 16 with fail
            replace HX := HX.new #[.int .i64 x, .int .i64 y] 24
            simp only [List.cons_append, List.nil_append] at HX
            replace HX := HX.ext (drew_ext _)
            generalize (wr.alloc (.cells #[.int .i64 x, .int .i64 y] 24)).drew = W15 at *
            generalize wr.heap.size = g9 at *
            have hc30 := HX.cell 3 0 rfl rfl
            have hc31 := HX.cell 3 1 rfl rfl
            try simp only [List.getElem_toArray, List.getElem_cons_zero, List.getElem_cons_succ] at hc30 hc31
            by_cases hyv : YV x y
            · have HYV := yes hyv
              obtain ⟨M, hM⟩ : ∃ M, yearText x y = M := ⟨_, rfl⟩
              go_wp2_with fail
              refine (rvalid4_any (b := true) _ HYV).mono ?_
              rintro e w7 ⟨rfl, hb⟩
              clear hc30 hc31
              replace HX := HX.ext hb
              clear hb
              have hc30 := HX.cell 3 0 rfl rfl
              have hc31 := HX.cell 3 1 rfl rfl
              try simp only [List.getElem_toArray, List.getElem_cons_zero, List.getElem_cons_succ] at hc30 hc31
              go_wp2_with fail
              refine (rytext_any _ (.inl ⟨hyv, hM⟩)).mono ?_
              rintro e w8 ⟨rfl, hb⟩
              clear hc30 hc31
              replace HX := HX.ext hb
              clear hb
              have hc30 := HX.cell 3 0 rfl rfl
              have hc31 := HX.cell 3 1 rfl rfl
              try simp only [List.getElem_toArray, List.getElem_cons_zero, List.getElem_cons_succ] at hc30 hc31
              by_cases hML : M = L
              · obtain ⟨rfl, rfl, rfl⟩ := hP.out.ok hyv (hM.trans hML)
                have hse : ((str M).toList == (str L).toList) = true := str_eq (beq_iff_eq.2 hML)
                clear hyv hM hML HK1
                have hc00 := HX.cell 0 0 rfl rfl
                have hc01 := HX.cell 0 1 rfl rfl
                have hf00 := HX.free 0 0 rfl
                have hf01 := HX.free 0 1 rfl
                try simp only [List.getElem_toArray, List.getElem_cons_zero, List.getElem_cons_succ] at hc00 hc01
                go_wp2
                clear hc00 hc01 hf00 hf01 hc30 hc31
                replace HX := HX.put2 0 rfl (by omega) (by intro k q hk hne; match k, hk with | 0, hk => (simp at hk; subst hk; simp at hne ⊢; try omega) | 1, hk => (simp at hk; subst hk; simp at hne ⊢; try omega) | 2, hk => (simp at hk; subst hk; simp at hne ⊢; try omega) | 3, hk => (simp at hk; subst hk; simp at hne ⊢; try omega) | k + 4, hk => simp at hk) (.int .i64 f) (.int .i64 t)
                simp only [List.set_cons_zero] at HX
                have hc00 := HX.cell 0 0 rfl rfl
                have hc01 := HX.cell 0 1 rfl rfl
                try simp only [List.getElem_toArray, List.getElem_cons_zero, List.getElem_cons_succ] at hc00 hc01
                exact bodyPost_ret (v := .tuple #[.agg #[.int .i64 f, .int .i64 t], .int .i64 0]) (by simp [results, Tryz.results85, go_sem, hc00, hc01]) rfl ⟨rfl, HX.below⟩
              · have HK2 := HK1 fun h => hML (hM.symm.trans h.2)
                have hse : ((str M).toList == (str L).toList) = false := str_eq (beq_eq_false_iff_ne.2 hML)
                clear hyv hM hML HK1 hc30 hc31
                go_wp2_with fail
                go_roundg (2 - (k + 1))
                case measure => (first | (have := hk.out; omega) | (have := hi.out; omega))
                case rel => exact ⟨k + 1, Lib.hid (by have := hk.out; omega), by go_num, HK2, HX.init⟩
            · have HYV := no hyv
              have HK2 := HK1 fun h => hyv h.1
              clear hyv HK1
              go_wp2_with fail
              refine (rvalid4_any (b := false) _ HYV).mono ?_
              rintro e w7 ⟨rfl, hb⟩
              clear hc30 hc31
              replace HX := HX.ext hb
              clear hb
              go_wp2_with fail
              go_roundg (2 - (k + 1))
              case measure => (first | (have := hk.out; omega) | (have := hi.out; omega))
              case rel => exact ⟨k + 1, Lib.hid (by have := hk.out; omega), by go_num, HK2, HX.init⟩)
        · have HI2 := Lib.hid (hi_next HI.out (show ∀ k', k' < 2 → ¬ (YV (fr (n : Int) i) (fr (n : Int) k') ∧ yearText (fr (n : Int) i) (fr (n : Int) k') = L) from fun k' h => HK.out k' (by have := hk.out; omega)))
          go_wp2_with fail
          go_roundg (2 - (i + 1))
          case measure => (first | (have := hk.out; omega) | (have := hi.out; omega))
          case rel => exact ⟨i + 1, Lib.hid (by have := hi.out; omega), by go_num, HI2, HX⟩
    · obtain rfl : i = 2 := by have := hi.out; omega
      obtain ⟨rfl, rfl, rfl⟩ := hP.out.bad (ryears_bad HRN.out (HI.out 0 (by omega) 0 (by omega)) (HI.out 0 (by omega) 1 (by omega)) (HI.out 1 (by omega) 0 (by omega)) (HI.out 1 (by omega) 1 (by omega)))
      clear HI
      have hc00 := HX.cell 0 0 rfl rfl
      have hc01 := HX.cell 0 1 rfl rfl
      have hf00 := HX.free 0 0 rfl
      have hf01 := HX.free 0 1 rfl
      try simp only [List.getElem_toArray, List.getElem_cons_zero, List.getElem_cons_succ] at hc00 hc01
      go_wp2
      clear hc00 hc01 hf00 hf01
      replace HX := HX.put2 0 rfl (by omega) (by intro k q hk hne; match k, hk with | 0, hk => (simp at hk; subst hk; simp at hne ⊢; try omega) | 1, hk => (simp at hk; subst hk; simp at hne ⊢; try omega) | 2, hk => (simp at hk; subst hk; simp at hne ⊢; try omega) | k + 3, hk => simp at hk) (.int .i64 0) (.int .i64 0)
      simp only [List.set_cons_zero] at HX
      have hc00 := HX.cell 0 0 rfl rfl
      have hc01 := HX.cell 0 1 rfl rfl
      try simp only [List.getElem_toArray, List.getElem_cons_zero, List.getElem_cons_succ] at hc00 hc01
      exact bodyPost_ret (v := .tuple #[.agg #[.int .i64 0, .int .i64 0], .int .i64 3]) (by simp [results, Tryz.results85, go_sem, hc00, hc01]) rfl ⟨rfl, HX.below⟩
set_option maxHeartbeats 4000000 in
set_option maxRecDepth 100000 in
theorem rypC0 {L R1 R2 T3 : List UInt8} {n : Nat} {b f t E : Int} (w : World) (hl : L.length ≤ 1000000) (hP : Hid (PY L f t E)) (HN : Hid (numK 5 L 0 = (n, R1))) (HRN : Hid (rnums L = ((n : Int), b))) (hn : n < 100000) (hl1 : R1.length ≤ 1000000) (hs1 : (str R1).size = R1.length) (h3 : 3 ≤ R1.length) (hx0 : (str R1).extract 0 3 = str T3) (hbc : ((str T3).toList == [32, 66, 67]) = false) (had : ((str T3).toList == [32, 65, 68]) = true) (hx3 : (str R1).extract 3 R1.length = str R2) (_hl2 : R2.length ≤ 1000000) (hs2 : (str R2).size = R2.length) (h0 : R2.length = 0) (hb0 : b = (n : Int)) :
    Calls Tryz.prog 85 #[.string (str L)] w fun e w' => e = .returned (.tuple #[.agg #[.int .i64 f, .int .i64 t], .int .i64 E]) ∧ Below w.heap.size w w' := by
  subst hb0
  go_enter Tryz.func85, Tryz.ntmps85
  go_upto_region 1 with fail
  have HX := BL.one w #[.int .i64 0, .int .i64 0] 24
  generalize w.alloc (.cells #[.int .i64 0, .int .i64 0] 24) = W at *
  go_wp2_with fail
  refine (rdigits_any _ HN hl).mono ?_
  rintro e WX ⟨rfl, hb⟩
  replace HX := HX.ext hb
  clear hb
  go_upto_region 9 with fail
  have hlt7 := HX.lt 0 rfl
  simp only [] at hlt7
  replace HX := (HX.new #[.int .i64 (n : Int), .int .i64 (1 - (n : Int))] 3).new #[.int .i64 (n : Int), .int .i64 (1 - (n : Int))] 3
  simp only [List.cons_append, List.nil_append] at HX
  rw [show (WX.alloc (.cells #[.int .i64 (n : Int), .int .i64 (1 - (n : Int))] 3)).heap.size = WX.heap.size + 1 from by simp] at HX
  generalize ((WX.alloc (.cells #[.int .i64 (n : Int), .int .i64 (1 - (n : Int))] 3)).alloc (.cells #[.int .i64 (n : Int), .int .i64 (1 - (n : Int))] 3)) = W9 at *
  obtain ⟨g8, hg8⟩ : ∃ g, g = WX.heap.size + 1 := ⟨_, rfl⟩
  obtain ⟨g7, hg7⟩ : ∃ g, g = WX.heap.size := ⟨_, rfl⟩
  rw [← hg8] at HX ⊢
  rw [← hg7] at HX hlt7 hg8 ⊢
  have hne78 : g7 ≠ g8 := by omega
  have hlt8 : w.heap.size < g8 := by omega
  clear hg7 hg8
  go_wp2_with fail
  go_loopg [9] 2 (fun kk X wr => ∃ i : Nat, Hid (i + kk = 2) ∧ X = .int .i64 (i : Int) ∧ Hid (∀ i', i' < i → ∀ k', k' < 2 → ¬ (YV (fr (n : Int) i') (fr (n : Int) k') ∧ yearText (fr (n : Int) i') (fr (n : Int) k') = L)) ∧ BL w wr [(w.heap.size, #[.int .i64 0, .int .i64 0], 24), (g7, #[.int .i64 (n : Int), .int .i64 (1 - (n : Int))], 3), (g8, #[.int .i64 (n : Int), .int .i64 (1 - (n : Int))], 3)])
  case atStart => exact ⟨0, Lib.hid (by omega), rfl, Lib.hid (fun i h => absurd h (by omega)), HX⟩
  case round =>
    clear HX
    obtain ⟨i, hi, rfl, HI, HX⟩ := hrel
    by_cases hi2 : i < 2
    · have hid : decide ((i : Int) < 2) = true := decide_eq_true (by omega)
      go_wp2_with fail
      go_loopg [10] 2 (fun kk X wr => ∃ k : Nat, Hid (k + kk = 2) ∧ X = .int .i64 (k : Int) ∧ Hid (∀ k', k' < k → ¬ (YV (fr (n : Int) i) (fr (n : Int) k') ∧ yearText (fr (n : Int) i) (fr (n : Int) k') = L)) ∧ BL w wr [(w.heap.size, #[.int .i64 0, .int .i64 0], 24), (g7, #[.int .i64 (n : Int), .int .i64 (1 - (n : Int))], 3), (g8, #[.int .i64 (n : Int), .int .i64 (1 - (n : Int))], 3)])
      case atStart => exact ⟨0, Lib.hid (by omega), rfl, Lib.hid (fun i h => absurd h (by omega)), HX⟩
      case round =>
        clear HX
        obtain ⟨k, hk, rfl, HK, HX⟩ := hrel
        by_cases hk2 : k < 2
        · have hcx := HX.cell 1 i rfl (fr_at  hi2)
          have hcy := HX.cell 2 k rfl (fr_at  hk2)
          simp only [] at hcx hcy
          have hgr := HX.lt 0 rfl
          have hgr1 := HX.lt 1 rfl
          have hgr2 := HX.lt 2 rfl
          simp only [] at hgr hgr1 hgr2
          have HK1 := fun h => Lib.hid (hk_next  HK.out h)
          clear HK
          generalize fr (n : Int) i = x at *
          generalize fr (n : Int) k = y at *
          go_upto_region 15 with fail
          go_region
          all_goals (
            clear hcx hcy
            go_upto_region 16 with fail
            replace HX := HX.new #[.int .i64 x, .int .i64 y] 24
            simp only [List.cons_append, List.nil_append] at HX
            replace HX := HX.ext (drew_ext _)
            generalize (wr.alloc (.cells #[.int .i64 x, .int .i64 y] 24)).drew = W15 at *
            generalize wr.heap.size = g9 at *
            have hc30 := HX.cell 3 0 rfl rfl
            have hc31 := HX.cell 3 1 rfl rfl
            try simp only [List.getElem_toArray, List.getElem_cons_zero, List.getElem_cons_succ] at hc30 hc31
            by_cases hyv : YV x y
            · have HYV := yes hyv
              obtain ⟨M, hM⟩ : ∃ M, yearText x y = M := ⟨_, rfl⟩
              go_wp2_with fail
              refine (rvalid4_any (b := true) _ HYV).mono ?_
              rintro e w7 ⟨rfl, hb⟩
              clear hc30 hc31
              replace HX := HX.ext hb
              clear hb
              have hc30 := HX.cell 3 0 rfl rfl
              have hc31 := HX.cell 3 1 rfl rfl
              try simp only [List.getElem_toArray, List.getElem_cons_zero, List.getElem_cons_succ] at hc30 hc31
              go_wp2_with fail
              refine (rytext_any _ (.inl ⟨hyv, hM⟩)).mono ?_
              rintro e w8 ⟨rfl, hb⟩
              clear hc30 hc31
              replace HX := HX.ext hb
              clear hb
              have hc30 := HX.cell 3 0 rfl rfl
              have hc31 := HX.cell 3 1 rfl rfl
              try simp only [List.getElem_toArray, List.getElem_cons_zero, List.getElem_cons_succ] at hc30 hc31
              by_cases hML : M = L
              · obtain ⟨rfl, rfl, rfl⟩ := hP.out.ok hyv (hM.trans hML)
                have hse : ((str M).toList == (str L).toList) = true := str_eq (beq_iff_eq.2 hML)
                clear hyv hM hML HK1
                have hc00 := HX.cell 0 0 rfl rfl
                have hc01 := HX.cell 0 1 rfl rfl
                have hf00 := HX.free 0 0 rfl
                have hf01 := HX.free 0 1 rfl
                try simp only [List.getElem_toArray, List.getElem_cons_zero, List.getElem_cons_succ] at hc00 hc01
                go_wp2
                clear hc00 hc01 hf00 hf01 hc30 hc31
                replace HX := HX.put2 0 rfl (by omega) (by intro k q hk hne; match k, hk with | 0, hk => (simp at hk; subst hk; simp at hne ⊢; try omega) | 1, hk => (simp at hk; subst hk; simp at hne ⊢; try omega) | 2, hk => (simp at hk; subst hk; simp at hne ⊢; try omega) | 3, hk => (simp at hk; subst hk; simp at hne ⊢; try omega) | k + 4, hk => simp at hk) (.int .i64 f) (.int .i64 t)
                simp only [List.set_cons_zero] at HX
                have hc00 := HX.cell 0 0 rfl rfl
                have hc01 := HX.cell 0 1 rfl rfl
                try simp only [List.getElem_toArray, List.getElem_cons_zero, List.getElem_cons_succ] at hc00 hc01
                exact bodyPost_ret (v := .tuple #[.agg #[.int .i64 f, .int .i64 t], .int .i64 0]) (by simp [results, Tryz.results85, go_sem, hc00, hc01]) rfl ⟨rfl, HX.below⟩
              · have HK2 := HK1 fun h => hML (hM.symm.trans h.2)
                have hse : ((str M).toList == (str L).toList) = false := str_eq (beq_eq_false_iff_ne.2 hML)
                clear hyv hM hML HK1 hc30 hc31
                go_wp2_with fail
                go_roundg (2 - (k + 1))
                case measure => (first | (have := hk.out; omega) | (have := hi.out; omega))
                case rel => exact ⟨k + 1, Lib.hid (by have := hk.out; omega), by go_num, HK2, HX.init⟩
            · have HYV := no hyv
              have HK2 := HK1 fun h => hyv h.1
              clear hyv HK1
              go_wp2_with fail
              refine (rvalid4_any (b := false) _ HYV).mono ?_
              rintro e w7 ⟨rfl, hb⟩
              clear hc30 hc31
              replace HX := HX.ext hb
              clear hb
              go_wp2_with fail
              go_roundg (2 - (k + 1))
              case measure => (first | (have := hk.out; omega) | (have := hi.out; omega))
              case rel => exact ⟨k + 1, Lib.hid (by have := hk.out; omega), by go_num, HK2, HX.init⟩)
        · have HI2 := Lib.hid (hi_next HI.out (show ∀ k', k' < 2 → ¬ (YV (fr (n : Int) i) (fr (n : Int) k') ∧ yearText (fr (n : Int) i) (fr (n : Int) k') = L) from fun k' h => HK.out k' (by have := hk.out; omega)))
          go_wp2_with fail
          go_roundg (2 - (i + 1))
          case measure => (first | (have := hk.out; omega) | (have := hi.out; omega))
          case rel => exact ⟨i + 1, Lib.hid (by have := hi.out; omega), by go_num, HI2, HX⟩
    · obtain rfl : i = 2 := by have := hi.out; omega
      obtain ⟨rfl, rfl, rfl⟩ := hP.out.bad (ryears_bad HRN.out (HI.out 0 (by omega) 0 (by omega)) (HI.out 0 (by omega) 1 (by omega)) (HI.out 1 (by omega) 0 (by omega)) (HI.out 1 (by omega) 1 (by omega)))
      clear HI
      have hc00 := HX.cell 0 0 rfl rfl
      have hc01 := HX.cell 0 1 rfl rfl
      have hf00 := HX.free 0 0 rfl
      have hf01 := HX.free 0 1 rfl
      try simp only [List.getElem_toArray, List.getElem_cons_zero, List.getElem_cons_succ] at hc00 hc01
      go_wp2
      clear hc00 hc01 hf00 hf01
      replace HX := HX.put2 0 rfl (by omega) (by intro k q hk hne; match k, hk with | 0, hk => (simp at hk; subst hk; simp at hne ⊢; try omega) | 1, hk => (simp at hk; subst hk; simp at hne ⊢; try omega) | 2, hk => (simp at hk; subst hk; simp at hne ⊢; try omega) | k + 3, hk => simp at hk) (.int .i64 0) (.int .i64 0)
      simp only [List.set_cons_zero] at HX
      have hc00 := HX.cell 0 0 rfl rfl
      have hc01 := HX.cell 0 1 rfl rfl
      try simp only [List.getElem_toArray, List.getElem_cons_zero, List.getElem_cons_succ] at hc00 hc01
      exact bodyPost_ret (v := .tuple #[.agg #[.int .i64 0, .int .i64 0], .int .i64 3]) (by simp [results, Tryz.results85, go_sem, hc00, hc01]) rfl ⟨rfl, HX.below⟩
set_option maxHeartbeats 4000000 in
set_option maxRecDepth 100000 in
theorem rypC1 {L R1 R2 T3 : List UInt8} {n : Nat} {b f t E : Int} (w : World) (hl : L.length ≤ 1000000) (hP : Hid (PY L f t E)) (HN : Hid (numK 5 L 0 = (n, R1))) (HRN : Hid (rnums L = ((n : Int), b))) (hn : n < 100000) (hl1 : R1.length ≤ 1000000) (hs1 : (str R1).size = R1.length) (h3 : 3 ≤ R1.length) (hx0 : (str R1).extract 0 3 = str T3) (hbc : ((str T3).toList == [32, 66, 67]) = false) (had : ((str T3).toList == [32, 65, 68]) = true) (hx3 : (str R1).extract 3 R1.length = str R2) (hl2 : R2.length ≤ 1000000) (hs2 : (str R2).size = R2.length) (h0 : 0 < R2.length) (hi0 : ∀ h, (str R2)[0]'h = 45) {r S : List UInt8} {m : Nat} (hxr : (str R2).extract 1 R2.length = str r) (hlr : r.length ≤ 1000000) (HB : Hid (numK 5 r 0 = (m, S))) (hm : m < 100000) (hb0 : b = (m : Int)) :
    Calls Tryz.prog 85 #[.string (str L)] w fun e w' => e = .returned (.tuple #[.agg #[.int .i64 f, .int .i64 t], .int .i64 E]) ∧ Below w.heap.size w w' := by
  subst hb0
  go_enter Tryz.func85, Tryz.ntmps85
  go_upto_region 1 with fail
  have HX := BL.one w #[.int .i64 0, .int .i64 0] 24
  generalize w.alloc (.cells #[.int .i64 0, .int .i64 0] 24) = W at *
  go_wp2_with fail
  refine (rdigits_any _ HN hl).mono ?_
  rintro e w1 ⟨rfl, hb⟩
  replace HX := HX.ext hb
  clear hb
  go_wp2_with fail
  refine (rdigits_any _ HB (by omega)).mono ?_
  rintro e WX ⟨rfl, hb⟩
  replace HX := HX.ext hb
  clear hb
  go_upto_region 9 with fail
  have hlt7 := HX.lt 0 rfl
  simp only [] at hlt7
  replace HX := (HX.new #[.int .i64 (n : Int), .int .i64 (1 - (n : Int))] 3).new #[.int .i64 (m : Int), .int .i64 (1 - (m : Int))] 3
  simp only [List.cons_append, List.nil_append] at HX
  rw [show (WX.alloc (.cells #[.int .i64 (n : Int), .int .i64 (1 - (n : Int))] 3)).heap.size = WX.heap.size + 1 from by simp] at HX
  generalize ((WX.alloc (.cells #[.int .i64 (n : Int), .int .i64 (1 - (n : Int))] 3)).alloc (.cells #[.int .i64 (m : Int), .int .i64 (1 - (m : Int))] 3)) = W9 at *
  obtain ⟨g8, hg8⟩ : ∃ g, g = WX.heap.size + 1 := ⟨_, rfl⟩
  obtain ⟨g7, hg7⟩ : ∃ g, g = WX.heap.size := ⟨_, rfl⟩
  rw [← hg8] at HX ⊢
  rw [← hg7] at HX hlt7 hg8 ⊢
  have hne78 : g7 ≠ g8 := by omega
  have hlt8 : w.heap.size < g8 := by omega
  clear hg7 hg8
  go_wp2_with fail
  go_loopg [9] 2 (fun kk X wr => ∃ i : Nat, Hid (i + kk = 2) ∧ X = .int .i64 (i : Int) ∧ Hid (∀ i', i' < i → ∀ k', k' < 2 → ¬ (YV (fr (n : Int) i') (fr (m : Int) k') ∧ yearText (fr (n : Int) i') (fr (m : Int) k') = L)) ∧ BL w wr [(w.heap.size, #[.int .i64 0, .int .i64 0], 24), (g7, #[.int .i64 (n : Int), .int .i64 (1 - (n : Int))], 3), (g8, #[.int .i64 (m : Int), .int .i64 (1 - (m : Int))], 3)])
  case atStart => exact ⟨0, Lib.hid (by omega), rfl, Lib.hid (fun i h => absurd h (by omega)), HX⟩
  case round =>
    clear HX
    obtain ⟨i, hi, rfl, HI, HX⟩ := hrel
    by_cases hi2 : i < 2
    · have hid : decide ((i : Int) < 2) = true := decide_eq_true (by omega)
      go_wp2_with fail
      go_loopg [10] 2 (fun kk X wr => ∃ k : Nat, Hid (k + kk = 2) ∧ X = .int .i64 (k : Int) ∧ Hid (∀ k', k' < k → ¬ (YV (fr (n : Int) i) (fr (m : Int) k') ∧ yearText (fr (n : Int) i) (fr (m : Int) k') = L)) ∧ BL w wr [(w.heap.size, #[.int .i64 0, .int .i64 0], 24), (g7, #[.int .i64 (n : Int), .int .i64 (1 - (n : Int))], 3), (g8, #[.int .i64 (m : Int), .int .i64 (1 - (m : Int))], 3)])
      case atStart => exact ⟨0, Lib.hid (by omega), rfl, Lib.hid (fun i h => absurd h (by omega)), HX⟩
      case round =>
        clear HX
        obtain ⟨k, hk, rfl, HK, HX⟩ := hrel
        by_cases hk2 : k < 2
        · have hcx := HX.cell 1 i rfl (fr_at  hi2)
          have hcy := HX.cell 2 k rfl (fr_at  hk2)
          simp only [] at hcx hcy
          have hgr := HX.lt 0 rfl
          have hgr1 := HX.lt 1 rfl
          have hgr2 := HX.lt 2 rfl
          simp only [] at hgr hgr1 hgr2
          have HK1 := fun h => Lib.hid (hk_next  HK.out h)
          clear HK
          generalize fr (n : Int) i = x at *
          generalize fr (m : Int) k = y at *
          go_upto_region 15 with fail
          go_region
          all_goals (
            clear hcx hcy
            go_upto_region 16 with fail
            replace HX := HX.new #[.int .i64 x, .int .i64 y] 24
            simp only [List.cons_append, List.nil_append] at HX
            replace HX := HX.ext (drew_ext _)
            generalize (wr.alloc (.cells #[.int .i64 x, .int .i64 y] 24)).drew = W15 at *
            generalize wr.heap.size = g9 at *
            have hc30 := HX.cell 3 0 rfl rfl
            have hc31 := HX.cell 3 1 rfl rfl
            try simp only [List.getElem_toArray, List.getElem_cons_zero, List.getElem_cons_succ] at hc30 hc31
            by_cases hyv : YV x y
            · have HYV := yes hyv
              obtain ⟨M, hM⟩ : ∃ M, yearText x y = M := ⟨_, rfl⟩
              go_wp2_with fail
              refine (rvalid4_any (b := true) _ HYV).mono ?_
              rintro e w7 ⟨rfl, hb⟩
              clear hc30 hc31
              replace HX := HX.ext hb
              clear hb
              have hc30 := HX.cell 3 0 rfl rfl
              have hc31 := HX.cell 3 1 rfl rfl
              try simp only [List.getElem_toArray, List.getElem_cons_zero, List.getElem_cons_succ] at hc30 hc31
              go_wp2_with fail
              refine (rytext_any _ (.inl ⟨hyv, hM⟩)).mono ?_
              rintro e w8 ⟨rfl, hb⟩
              clear hc30 hc31
              replace HX := HX.ext hb
              clear hb
              have hc30 := HX.cell 3 0 rfl rfl
              have hc31 := HX.cell 3 1 rfl rfl
              try simp only [List.getElem_toArray, List.getElem_cons_zero, List.getElem_cons_succ] at hc30 hc31
              by_cases hML : M = L
              · obtain ⟨rfl, rfl, rfl⟩ := hP.out.ok hyv (hM.trans hML)
                have hse : ((str M).toList == (str L).toList) = true := str_eq (beq_iff_eq.2 hML)
                clear hyv hM hML HK1
                have hc00 := HX.cell 0 0 rfl rfl
                have hc01 := HX.cell 0 1 rfl rfl
                have hf00 := HX.free 0 0 rfl
                have hf01 := HX.free 0 1 rfl
                try simp only [List.getElem_toArray, List.getElem_cons_zero, List.getElem_cons_succ] at hc00 hc01
                go_wp2
                clear hc00 hc01 hf00 hf01 hc30 hc31
                replace HX := HX.put2 0 rfl (by omega) (by intro k q hk hne; match k, hk with | 0, hk => (simp at hk; subst hk; simp at hne ⊢; try omega) | 1, hk => (simp at hk; subst hk; simp at hne ⊢; try omega) | 2, hk => (simp at hk; subst hk; simp at hne ⊢; try omega) | 3, hk => (simp at hk; subst hk; simp at hne ⊢; try omega) | k + 4, hk => simp at hk) (.int .i64 f) (.int .i64 t)
                simp only [List.set_cons_zero] at HX
                have hc00 := HX.cell 0 0 rfl rfl
                have hc01 := HX.cell 0 1 rfl rfl
                try simp only [List.getElem_toArray, List.getElem_cons_zero, List.getElem_cons_succ] at hc00 hc01
                exact bodyPost_ret (v := .tuple #[.agg #[.int .i64 f, .int .i64 t], .int .i64 0]) (by simp [results, Tryz.results85, go_sem, hc00, hc01]) rfl ⟨rfl, HX.below⟩
              · have HK2 := HK1 fun h => hML (hM.symm.trans h.2)
                have hse : ((str M).toList == (str L).toList) = false := str_eq (beq_eq_false_iff_ne.2 hML)
                clear hyv hM hML HK1 hc30 hc31
                go_wp2_with fail
                go_roundg (2 - (k + 1))
                case measure => (first | (have := hk.out; omega) | (have := hi.out; omega))
                case rel => exact ⟨k + 1, Lib.hid (by have := hk.out; omega), by go_num, HK2, HX.init⟩
            · have HYV := no hyv
              have HK2 := HK1 fun h => hyv h.1
              clear hyv HK1
              go_wp2_with fail
              refine (rvalid4_any (b := false) _ HYV).mono ?_
              rintro e w7 ⟨rfl, hb⟩
              clear hc30 hc31
              replace HX := HX.ext hb
              clear hb
              go_wp2_with fail
              go_roundg (2 - (k + 1))
              case measure => (first | (have := hk.out; omega) | (have := hi.out; omega))
              case rel => exact ⟨k + 1, Lib.hid (by have := hk.out; omega), by go_num, HK2, HX.init⟩)
        · have HI2 := Lib.hid (hi_next HI.out (show ∀ k', k' < 2 → ¬ (YV (fr (n : Int) i) (fr (m : Int) k') ∧ yearText (fr (n : Int) i) (fr (m : Int) k') = L) from fun k' h => HK.out k' (by have := hk.out; omega)))
          go_wp2_with fail
          go_roundg (2 - (i + 1))
          case measure => (first | (have := hk.out; omega) | (have := hi.out; omega))
          case rel => exact ⟨i + 1, Lib.hid (by have := hi.out; omega), by go_num, HI2, HX⟩
    · obtain rfl : i = 2 := by have := hi.out; omega
      obtain ⟨rfl, rfl, rfl⟩ := hP.out.bad (ryears_bad HRN.out (HI.out 0 (by omega) 0 (by omega)) (HI.out 0 (by omega) 1 (by omega)) (HI.out 1 (by omega) 0 (by omega)) (HI.out 1 (by omega) 1 (by omega)))
      clear HI
      have hc00 := HX.cell 0 0 rfl rfl
      have hc01 := HX.cell 0 1 rfl rfl
      have hf00 := HX.free 0 0 rfl
      have hf01 := HX.free 0 1 rfl
      try simp only [List.getElem_toArray, List.getElem_cons_zero, List.getElem_cons_succ] at hc00 hc01
      go_wp2
      clear hc00 hc01 hf00 hf01
      replace HX := HX.put2 0 rfl (by omega) (by intro k q hk hne; match k, hk with | 0, hk => (simp at hk; subst hk; simp at hne ⊢; try omega) | 1, hk => (simp at hk; subst hk; simp at hne ⊢; try omega) | 2, hk => (simp at hk; subst hk; simp at hne ⊢; try omega) | k + 3, hk => simp at hk) (.int .i64 0) (.int .i64 0)
      simp only [List.set_cons_zero] at HX
      have hc00 := HX.cell 0 0 rfl rfl
      have hc01 := HX.cell 0 1 rfl rfl
      try simp only [List.getElem_toArray, List.getElem_cons_zero, List.getElem_cons_succ] at hc00 hc01
      exact bodyPost_ret (v := .tuple #[.agg #[.int .i64 0, .int .i64 0], .int .i64 3]) (by simp [results, Tryz.results85, go_sem, hc00, hc01]) rfl ⟨rfl, HX.below⟩
set_option maxHeartbeats 4000000 in
set_option maxRecDepth 100000 in
theorem rypC2 {L R1 R2 T3 : List UInt8} {n : Nat} {b f t E : Int} (w : World) (hl : L.length ≤ 1000000) (hP : Hid (PY L f t E)) (HN : Hid (numK 5 L 0 = (n, R1))) (HRN : Hid (rnums L = ((n : Int), b))) (hn : n < 100000) (hl1 : R1.length ≤ 1000000) (hs1 : (str R1).size = R1.length) (h3 : 3 ≤ R1.length) (hx0 : (str R1).extract 0 3 = str T3) (hbc : ((str T3).toList == [32, 66, 67]) = false) (had : ((str T3).toList == [32, 65, 68]) = true) (hx3 : (str R1).extract 3 R1.length = str R2) (_hl2 : R2.length ≤ 1000000) (hs2 : (str R2).size = R2.length) (h0 : 0 < R2.length) {x0 : UInt8} (hi0 : ∀ h, (str R2)[0]'h = x0) (hx45 : ¬ x0.toNat = 45) (hb0 : b = (n : Int)) :
    Calls Tryz.prog 85 #[.string (str L)] w fun e w' => e = .returned (.tuple #[.agg #[.int .i64 f, .int .i64 t], .int .i64 E]) ∧ Below w.heap.size w w' := by
  subst hb0
  have hx46 : ((x0.toNat : Int) == 45) = false := by rw [beq_eq_false_iff_ne]; omega
  go_enter Tryz.func85, Tryz.ntmps85
  go_upto_region 1 with fail
  have HX := BL.one w #[.int .i64 0, .int .i64 0] 24
  generalize w.alloc (.cells #[.int .i64 0, .int .i64 0] 24) = W at *
  go_wp2_with fail
  refine (rdigits_any _ HN hl).mono ?_
  rintro e WX ⟨rfl, hb⟩
  replace HX := HX.ext hb
  clear hb
  go_upto_region 9 with fail
  have hlt7 := HX.lt 0 rfl
  simp only [] at hlt7
  replace HX := (HX.new #[.int .i64 (n : Int), .int .i64 (1 - (n : Int))] 3).new #[.int .i64 (n : Int), .int .i64 (1 - (n : Int))] 3
  simp only [List.cons_append, List.nil_append] at HX
  rw [show (WX.alloc (.cells #[.int .i64 (n : Int), .int .i64 (1 - (n : Int))] 3)).heap.size = WX.heap.size + 1 from by simp] at HX
  generalize ((WX.alloc (.cells #[.int .i64 (n : Int), .int .i64 (1 - (n : Int))] 3)).alloc (.cells #[.int .i64 (n : Int), .int .i64 (1 - (n : Int))] 3)) = W9 at *
  obtain ⟨g8, hg8⟩ : ∃ g, g = WX.heap.size + 1 := ⟨_, rfl⟩
  obtain ⟨g7, hg7⟩ : ∃ g, g = WX.heap.size := ⟨_, rfl⟩
  rw [← hg8] at HX ⊢
  rw [← hg7] at HX hlt7 hg8 ⊢
  have hne78 : g7 ≠ g8 := by omega
  have hlt8 : w.heap.size < g8 := by omega
  clear hg7 hg8
  go_wp2_with fail
  go_loopg [9] 2 (fun kk X wr => ∃ i : Nat, Hid (i + kk = 2) ∧ X = .int .i64 (i : Int) ∧ Hid (∀ i', i' < i → ∀ k', k' < 2 → ¬ (YV (fr (n : Int) i') (fr (n : Int) k') ∧ yearText (fr (n : Int) i') (fr (n : Int) k') = L)) ∧ BL w wr [(w.heap.size, #[.int .i64 0, .int .i64 0], 24), (g7, #[.int .i64 (n : Int), .int .i64 (1 - (n : Int))], 3), (g8, #[.int .i64 (n : Int), .int .i64 (1 - (n : Int))], 3)])
  case atStart => exact ⟨0, Lib.hid (by omega), rfl, Lib.hid (fun i h => absurd h (by omega)), HX⟩
  case round =>
    clear HX
    obtain ⟨i, hi, rfl, HI, HX⟩ := hrel
    by_cases hi2 : i < 2
    · have hid : decide ((i : Int) < 2) = true := decide_eq_true (by omega)
      go_wp2_with fail
      go_loopg [10] 2 (fun kk X wr => ∃ k : Nat, Hid (k + kk = 2) ∧ X = .int .i64 (k : Int) ∧ Hid (∀ k', k' < k → ¬ (YV (fr (n : Int) i) (fr (n : Int) k') ∧ yearText (fr (n : Int) i) (fr (n : Int) k') = L)) ∧ BL w wr [(w.heap.size, #[.int .i64 0, .int .i64 0], 24), (g7, #[.int .i64 (n : Int), .int .i64 (1 - (n : Int))], 3), (g8, #[.int .i64 (n : Int), .int .i64 (1 - (n : Int))], 3)])
      case atStart => exact ⟨0, Lib.hid (by omega), rfl, Lib.hid (fun i h => absurd h (by omega)), HX⟩
      case round =>
        clear HX
        obtain ⟨k, hk, rfl, HK, HX⟩ := hrel
        by_cases hk2 : k < 2
        · have hcx := HX.cell 1 i rfl (fr_at  hi2)
          have hcy := HX.cell 2 k rfl (fr_at  hk2)
          simp only [] at hcx hcy
          have hgr := HX.lt 0 rfl
          have hgr1 := HX.lt 1 rfl
          have hgr2 := HX.lt 2 rfl
          simp only [] at hgr hgr1 hgr2
          have HK1 := fun h => Lib.hid (hk_next  HK.out h)
          clear HK
          generalize fr (n : Int) i = x at *
          generalize fr (n : Int) k = y at *
          go_upto_region 15 with fail
          go_region
          all_goals (
            clear hcx hcy
            go_upto_region 16 with fail
            replace HX := HX.new #[.int .i64 x, .int .i64 y] 24
            simp only [List.cons_append, List.nil_append] at HX
            replace HX := HX.ext (drew_ext _)
            generalize (wr.alloc (.cells #[.int .i64 x, .int .i64 y] 24)).drew = W15 at *
            generalize wr.heap.size = g9 at *
            have hc30 := HX.cell 3 0 rfl rfl
            have hc31 := HX.cell 3 1 rfl rfl
            try simp only [List.getElem_toArray, List.getElem_cons_zero, List.getElem_cons_succ] at hc30 hc31
            by_cases hyv : YV x y
            · have HYV := yes hyv
              obtain ⟨M, hM⟩ : ∃ M, yearText x y = M := ⟨_, rfl⟩
              go_wp2_with fail
              refine (rvalid4_any (b := true) _ HYV).mono ?_
              rintro e w7 ⟨rfl, hb⟩
              clear hc30 hc31
              replace HX := HX.ext hb
              clear hb
              have hc30 := HX.cell 3 0 rfl rfl
              have hc31 := HX.cell 3 1 rfl rfl
              try simp only [List.getElem_toArray, List.getElem_cons_zero, List.getElem_cons_succ] at hc30 hc31
              go_wp2_with fail
              refine (rytext_any _ (.inl ⟨hyv, hM⟩)).mono ?_
              rintro e w8 ⟨rfl, hb⟩
              clear hc30 hc31
              replace HX := HX.ext hb
              clear hb
              have hc30 := HX.cell 3 0 rfl rfl
              have hc31 := HX.cell 3 1 rfl rfl
              try simp only [List.getElem_toArray, List.getElem_cons_zero, List.getElem_cons_succ] at hc30 hc31
              by_cases hML : M = L
              · obtain ⟨rfl, rfl, rfl⟩ := hP.out.ok hyv (hM.trans hML)
                have hse : ((str M).toList == (str L).toList) = true := str_eq (beq_iff_eq.2 hML)
                clear hyv hM hML HK1
                have hc00 := HX.cell 0 0 rfl rfl
                have hc01 := HX.cell 0 1 rfl rfl
                have hf00 := HX.free 0 0 rfl
                have hf01 := HX.free 0 1 rfl
                try simp only [List.getElem_toArray, List.getElem_cons_zero, List.getElem_cons_succ] at hc00 hc01
                go_wp2
                clear hc00 hc01 hf00 hf01 hc30 hc31
                replace HX := HX.put2 0 rfl (by omega) (by intro k q hk hne; match k, hk with | 0, hk => (simp at hk; subst hk; simp at hne ⊢; try omega) | 1, hk => (simp at hk; subst hk; simp at hne ⊢; try omega) | 2, hk => (simp at hk; subst hk; simp at hne ⊢; try omega) | 3, hk => (simp at hk; subst hk; simp at hne ⊢; try omega) | k + 4, hk => simp at hk) (.int .i64 f) (.int .i64 t)
                simp only [List.set_cons_zero] at HX
                have hc00 := HX.cell 0 0 rfl rfl
                have hc01 := HX.cell 0 1 rfl rfl
                try simp only [List.getElem_toArray, List.getElem_cons_zero, List.getElem_cons_succ] at hc00 hc01
                exact bodyPost_ret (v := .tuple #[.agg #[.int .i64 f, .int .i64 t], .int .i64 0]) (by simp [results, Tryz.results85, go_sem, hc00, hc01]) rfl ⟨rfl, HX.below⟩
              · have HK2 := HK1 fun h => hML (hM.symm.trans h.2)
                have hse : ((str M).toList == (str L).toList) = false := str_eq (beq_eq_false_iff_ne.2 hML)
                clear hyv hM hML HK1 hc30 hc31
                go_wp2_with fail
                go_roundg (2 - (k + 1))
                case measure => (first | (have := hk.out; omega) | (have := hi.out; omega))
                case rel => exact ⟨k + 1, Lib.hid (by have := hk.out; omega), by go_num, HK2, HX.init⟩
            · have HYV := no hyv
              have HK2 := HK1 fun h => hyv h.1
              clear hyv HK1
              go_wp2_with fail
              refine (rvalid4_any (b := false) _ HYV).mono ?_
              rintro e w7 ⟨rfl, hb⟩
              clear hc30 hc31
              replace HX := HX.ext hb
              clear hb
              go_wp2_with fail
              go_roundg (2 - (k + 1))
              case measure => (first | (have := hk.out; omega) | (have := hi.out; omega))
              case rel => exact ⟨k + 1, Lib.hid (by have := hk.out; omega), by go_num, HK2, HX.init⟩)
        · have HI2 := Lib.hid (hi_next HI.out (show ∀ k', k' < 2 → ¬ (YV (fr (n : Int) i) (fr (n : Int) k') ∧ yearText (fr (n : Int) i) (fr (n : Int) k') = L) from fun k' h => HK.out k' (by have := hk.out; omega)))
          go_wp2_with fail
          go_roundg (2 - (i + 1))
          case measure => (first | (have := hk.out; omega) | (have := hi.out; omega))
          case rel => exact ⟨i + 1, Lib.hid (by have := hi.out; omega), by go_num, HI2, HX⟩
    · obtain rfl : i = 2 := by have := hi.out; omega
      obtain ⟨rfl, rfl, rfl⟩ := hP.out.bad (ryears_bad HRN.out (HI.out 0 (by omega) 0 (by omega)) (HI.out 0 (by omega) 1 (by omega)) (HI.out 1 (by omega) 0 (by omega)) (HI.out 1 (by omega) 1 (by omega)))
      clear HI
      have hc00 := HX.cell 0 0 rfl rfl
      have hc01 := HX.cell 0 1 rfl rfl
      have hf00 := HX.free 0 0 rfl
      have hf01 := HX.free 0 1 rfl
      try simp only [List.getElem_toArray, List.getElem_cons_zero, List.getElem_cons_succ] at hc00 hc01
      go_wp2
      clear hc00 hc01 hf00 hf01
      replace HX := HX.put2 0 rfl (by omega) (by intro k q hk hne; match k, hk with | 0, hk => (simp at hk; subst hk; simp at hne ⊢; try omega) | 1, hk => (simp at hk; subst hk; simp at hne ⊢; try omega) | 2, hk => (simp at hk; subst hk; simp at hne ⊢; try omega) | k + 3, hk => simp at hk) (.int .i64 0) (.int .i64 0)
      simp only [List.set_cons_zero] at HX
      have hc00 := HX.cell 0 0 rfl rfl
      have hc01 := HX.cell 0 1 rfl rfl
      try simp only [List.getElem_toArray, List.getElem_cons_zero, List.getElem_cons_succ] at hc00 hc01
      exact bodyPost_ret (v := .tuple #[.agg #[.int .i64 0, .int .i64 0], .int .i64 3]) (by simp [results, Tryz.results85, go_sem, hc00, hc01]) rfl ⟨rfl, HX.below⟩
set_option maxHeartbeats 4000000 in
set_option maxRecDepth 100000 in
theorem rypD1 {L R1 _R2 T3 : List UInt8} {n : Nat} {b f t E : Int} (w : World) (hl : L.length ≤ 1000000) (hP : Hid (PY L f t E)) (HN : Hid (numK 5 L 0 = (n, R1))) (HRN : Hid (rnums L = ((n : Int), b))) (hn : n < 100000) (hl1 : R1.length ≤ 1000000) (hs1 : (str R1).size = R1.length) (h3 : 3 ≤ R1.length) (hx0 : (str R1).extract 0 3 = str T3) (hbc : ((str T3).toList == [32, 66, 67]) = false) (had : ((str T3).toList == [32, 65, 68]) = false) (h0 : 0 < R1.length) (hi0 : ∀ h, (str R1)[0]'h = 45) {r S : List UInt8} {m : Nat} (hxr : (str R1).extract 1 R1.length = str r) (hlr : r.length ≤ 1000000) (HB : Hid (numK 5 r 0 = (m, S))) (hm : m < 100000) (hb0 : b = (m : Int)) :
    Calls Tryz.prog 85 #[.string (str L)] w fun e w' => e = .returned (.tuple #[.agg #[.int .i64 f, .int .i64 t], .int .i64 E]) ∧ Below w.heap.size w w' := by
  subst hb0
  go_enter Tryz.func85, Tryz.ntmps85
  go_upto_region 1 with fail
  have HX := BL.one w #[.int .i64 0, .int .i64 0] 24
  generalize w.alloc (.cells #[.int .i64 0, .int .i64 0] 24) = W at *
  go_wp2_with fail
  refine (rdigits_any _ HN hl).mono ?_
  rintro e w1 ⟨rfl, hb⟩
  replace HX := HX.ext hb
  clear hb
  go_wp2_with fail
  refine (rdigits_any _ HB (by omega)).mono ?_
  rintro e WX ⟨rfl, hb⟩
  replace HX := HX.ext hb
  clear hb
  go_upto_region 9 with fail
  have hlt7 := HX.lt 0 rfl
  simp only [] at hlt7
  replace HX := (HX.new #[.int .i64 (n : Int), .int .i64 (1 - (n : Int))] 3).new #[.int .i64 (m : Int), .int .i64 (1 - (m : Int))] 3
  simp only [List.cons_append, List.nil_append] at HX
  rw [show (WX.alloc (.cells #[.int .i64 (n : Int), .int .i64 (1 - (n : Int))] 3)).heap.size = WX.heap.size + 1 from by simp] at HX
  generalize ((WX.alloc (.cells #[.int .i64 (n : Int), .int .i64 (1 - (n : Int))] 3)).alloc (.cells #[.int .i64 (m : Int), .int .i64 (1 - (m : Int))] 3)) = W9 at *
  obtain ⟨g8, hg8⟩ : ∃ g, g = WX.heap.size + 1 := ⟨_, rfl⟩
  obtain ⟨g7, hg7⟩ : ∃ g, g = WX.heap.size := ⟨_, rfl⟩
  rw [← hg8] at HX ⊢
  rw [← hg7] at HX hlt7 hg8 ⊢
  have hne78 : g7 ≠ g8 := by omega
  have hlt8 : w.heap.size < g8 := by omega
  clear hg7 hg8
  go_wp2_with fail
  go_loopg [9] 2 (fun kk X wr => ∃ i : Nat, Hid (i + kk = 2) ∧ X = .int .i64 (i : Int) ∧ Hid (∀ i', i' < i → ∀ k', k' < 2 → ¬ (YV (fr (n : Int) i') (fr (m : Int) k') ∧ yearText (fr (n : Int) i') (fr (m : Int) k') = L)) ∧ BL w wr [(w.heap.size, #[.int .i64 0, .int .i64 0], 24), (g7, #[.int .i64 (n : Int), .int .i64 (1 - (n : Int))], 3), (g8, #[.int .i64 (m : Int), .int .i64 (1 - (m : Int))], 3)])
  case atStart => exact ⟨0, Lib.hid (by omega), rfl, Lib.hid (fun i h => absurd h (by omega)), HX⟩
  case round =>
    clear HX
    obtain ⟨i, hi, rfl, HI, HX⟩ := hrel
    by_cases hi2 : i < 2
    · have hid : decide ((i : Int) < 2) = true := decide_eq_true (by omega)
      go_wp2_with fail
      go_loopg [10] 2 (fun kk X wr => ∃ k : Nat, Hid (k + kk = 2) ∧ X = .int .i64 (k : Int) ∧ Hid (∀ k', k' < k → ¬ (YV (fr (n : Int) i) (fr (m : Int) k') ∧ yearText (fr (n : Int) i) (fr (m : Int) k') = L)) ∧ BL w wr [(w.heap.size, #[.int .i64 0, .int .i64 0], 24), (g7, #[.int .i64 (n : Int), .int .i64 (1 - (n : Int))], 3), (g8, #[.int .i64 (m : Int), .int .i64 (1 - (m : Int))], 3)])
      case atStart => exact ⟨0, Lib.hid (by omega), rfl, Lib.hid (fun i h => absurd h (by omega)), HX⟩
      case round =>
        clear HX
        obtain ⟨k, hk, rfl, HK, HX⟩ := hrel
        by_cases hk2 : k < 2
        · have hcx := HX.cell 1 i rfl (fr_at  hi2)
          have hcy := HX.cell 2 k rfl (fr_at  hk2)
          simp only [] at hcx hcy
          have hgr := HX.lt 0 rfl
          have hgr1 := HX.lt 1 rfl
          have hgr2 := HX.lt 2 rfl
          simp only [] at hgr hgr1 hgr2
          have HK1 := fun h => Lib.hid (hk_next  HK.out h)
          clear HK
          generalize fr (n : Int) i = x at *
          generalize fr (m : Int) k = y at *
          go_upto_region 15 with fail
          go_region
          all_goals (
            clear hcx hcy
            go_upto_region 16 with fail
            replace HX := HX.new #[.int .i64 x, .int .i64 y] 24
            simp only [List.cons_append, List.nil_append] at HX
            replace HX := HX.ext (drew_ext _)
            generalize (wr.alloc (.cells #[.int .i64 x, .int .i64 y] 24)).drew = W15 at *
            generalize wr.heap.size = g9 at *
            have hc30 := HX.cell 3 0 rfl rfl
            have hc31 := HX.cell 3 1 rfl rfl
            try simp only [List.getElem_toArray, List.getElem_cons_zero, List.getElem_cons_succ] at hc30 hc31
            by_cases hyv : YV x y
            · have HYV := yes hyv
              obtain ⟨M, hM⟩ : ∃ M, yearText x y = M := ⟨_, rfl⟩
              go_wp2_with fail
              refine (rvalid4_any (b := true) _ HYV).mono ?_
              rintro e w7 ⟨rfl, hb⟩
              clear hc30 hc31
              replace HX := HX.ext hb
              clear hb
              have hc30 := HX.cell 3 0 rfl rfl
              have hc31 := HX.cell 3 1 rfl rfl
              try simp only [List.getElem_toArray, List.getElem_cons_zero, List.getElem_cons_succ] at hc30 hc31
              go_wp2_with fail
              refine (rytext_any _ (.inl ⟨hyv, hM⟩)).mono ?_
              rintro e w8 ⟨rfl, hb⟩
              clear hc30 hc31
              replace HX := HX.ext hb
              clear hb
              have hc30 := HX.cell 3 0 rfl rfl
              have hc31 := HX.cell 3 1 rfl rfl
              try simp only [List.getElem_toArray, List.getElem_cons_zero, List.getElem_cons_succ] at hc30 hc31
              by_cases hML : M = L
              · obtain ⟨rfl, rfl, rfl⟩ := hP.out.ok hyv (hM.trans hML)
                have hse : ((str M).toList == (str L).toList) = true := str_eq (beq_iff_eq.2 hML)
                clear hyv hM hML HK1
                have hc00 := HX.cell 0 0 rfl rfl
                have hc01 := HX.cell 0 1 rfl rfl
                have hf00 := HX.free 0 0 rfl
                have hf01 := HX.free 0 1 rfl
                try simp only [List.getElem_toArray, List.getElem_cons_zero, List.getElem_cons_succ] at hc00 hc01
                go_wp2
                clear hc00 hc01 hf00 hf01 hc30 hc31
                replace HX := HX.put2 0 rfl (by omega) (by intro k q hk hne; match k, hk with | 0, hk => (simp at hk; subst hk; simp at hne ⊢; try omega) | 1, hk => (simp at hk; subst hk; simp at hne ⊢; try omega) | 2, hk => (simp at hk; subst hk; simp at hne ⊢; try omega) | 3, hk => (simp at hk; subst hk; simp at hne ⊢; try omega) | k + 4, hk => simp at hk) (.int .i64 f) (.int .i64 t)
                simp only [List.set_cons_zero] at HX
                have hc00 := HX.cell 0 0 rfl rfl
                have hc01 := HX.cell 0 1 rfl rfl
                try simp only [List.getElem_toArray, List.getElem_cons_zero, List.getElem_cons_succ] at hc00 hc01
                exact bodyPost_ret (v := .tuple #[.agg #[.int .i64 f, .int .i64 t], .int .i64 0]) (by simp [results, Tryz.results85, go_sem, hc00, hc01]) rfl ⟨rfl, HX.below⟩
              · have HK2 := HK1 fun h => hML (hM.symm.trans h.2)
                have hse : ((str M).toList == (str L).toList) = false := str_eq (beq_eq_false_iff_ne.2 hML)
                clear hyv hM hML HK1 hc30 hc31
                go_wp2_with fail
                go_roundg (2 - (k + 1))
                case measure => (first | (have := hk.out; omega) | (have := hi.out; omega))
                case rel => exact ⟨k + 1, Lib.hid (by have := hk.out; omega), by go_num, HK2, HX.init⟩
            · have HYV := no hyv
              have HK2 := HK1 fun h => hyv h.1
              clear hyv HK1
              go_wp2_with fail
              refine (rvalid4_any (b := false) _ HYV).mono ?_
              rintro e w7 ⟨rfl, hb⟩
              clear hc30 hc31
              replace HX := HX.ext hb
              clear hb
              go_wp2_with fail
              go_roundg (2 - (k + 1))
              case measure => (first | (have := hk.out; omega) | (have := hi.out; omega))
              case rel => exact ⟨k + 1, Lib.hid (by have := hk.out; omega), by go_num, HK2, HX.init⟩)
        · have HI2 := Lib.hid (hi_next HI.out (show ∀ k', k' < 2 → ¬ (YV (fr (n : Int) i) (fr (m : Int) k') ∧ yearText (fr (n : Int) i) (fr (m : Int) k') = L) from fun k' h => HK.out k' (by have := hk.out; omega)))
          go_wp2_with fail
          go_roundg (2 - (i + 1))
          case measure => (first | (have := hk.out; omega) | (have := hi.out; omega))
          case rel => exact ⟨i + 1, Lib.hid (by have := hi.out; omega), by go_num, HI2, HX⟩
    · obtain rfl : i = 2 := by have := hi.out; omega
      obtain ⟨rfl, rfl, rfl⟩ := hP.out.bad (ryears_bad HRN.out (HI.out 0 (by omega) 0 (by omega)) (HI.out 0 (by omega) 1 (by omega)) (HI.out 1 (by omega) 0 (by omega)) (HI.out 1 (by omega) 1 (by omega)))
      clear HI
      have hc00 := HX.cell 0 0 rfl rfl
      have hc01 := HX.cell 0 1 rfl rfl
      have hf00 := HX.free 0 0 rfl
      have hf01 := HX.free 0 1 rfl
      try simp only [List.getElem_toArray, List.getElem_cons_zero, List.getElem_cons_succ] at hc00 hc01
      go_wp2
      clear hc00 hc01 hf00 hf01
      replace HX := HX.put2 0 rfl (by omega) (by intro k q hk hne; match k, hk with | 0, hk => (simp at hk; subst hk; simp at hne ⊢; try omega) | 1, hk => (simp at hk; subst hk; simp at hne ⊢; try omega) | 2, hk => (simp at hk; subst hk; simp at hne ⊢; try omega) | k + 3, hk => simp at hk) (.int .i64 0) (.int .i64 0)
      simp only [List.set_cons_zero] at HX
      have hc00 := HX.cell 0 0 rfl rfl
      have hc01 := HX.cell 0 1 rfl rfl
      try simp only [List.getElem_toArray, List.getElem_cons_zero, List.getElem_cons_succ] at hc00 hc01
      exact bodyPost_ret (v := .tuple #[.agg #[.int .i64 0, .int .i64 0], .int .i64 3]) (by simp [results, Tryz.results85, go_sem, hc00, hc01]) rfl ⟨rfl, HX.below⟩
set_option maxHeartbeats 4000000 in
set_option maxRecDepth 100000 in
theorem rypD2 {L R1 _R2 T3 : List UInt8} {n : Nat} {b f t E : Int} (w : World) (hl : L.length ≤ 1000000) (hP : Hid (PY L f t E)) (HN : Hid (numK 5 L 0 = (n, R1))) (HRN : Hid (rnums L = ((n : Int), b))) (hn : n < 100000) (hl1 : R1.length ≤ 1000000) (hs1 : (str R1).size = R1.length) (h3 : 3 ≤ R1.length) (hx0 : (str R1).extract 0 3 = str T3) (hbc : ((str T3).toList == [32, 66, 67]) = false) (had : ((str T3).toList == [32, 65, 68]) = false) (h0 : 0 < R1.length) {x0 : UInt8} (hi0 : ∀ h, (str R1)[0]'h = x0) (hx45 : ¬ x0.toNat = 45) (hb0 : b = (n : Int)) :
    Calls Tryz.prog 85 #[.string (str L)] w fun e w' => e = .returned (.tuple #[.agg #[.int .i64 f, .int .i64 t], .int .i64 E]) ∧ Below w.heap.size w w' := by
  subst hb0
  have hx46 : ((x0.toNat : Int) == 45) = false := by rw [beq_eq_false_iff_ne]; omega
  go_enter Tryz.func85, Tryz.ntmps85
  go_upto_region 1 with fail
  have HX := BL.one w #[.int .i64 0, .int .i64 0] 24
  generalize w.alloc (.cells #[.int .i64 0, .int .i64 0] 24) = W at *
  go_wp2_with fail
  refine (rdigits_any _ HN hl).mono ?_
  rintro e WX ⟨rfl, hb⟩
  replace HX := HX.ext hb
  clear hb
  go_upto_region 9 with fail
  have hlt7 := HX.lt 0 rfl
  simp only [] at hlt7
  replace HX := (HX.new #[.int .i64 (n : Int), .int .i64 (1 - (n : Int))] 3).new #[.int .i64 (n : Int), .int .i64 (1 - (n : Int))] 3
  simp only [List.cons_append, List.nil_append] at HX
  rw [show (WX.alloc (.cells #[.int .i64 (n : Int), .int .i64 (1 - (n : Int))] 3)).heap.size = WX.heap.size + 1 from by simp] at HX
  generalize ((WX.alloc (.cells #[.int .i64 (n : Int), .int .i64 (1 - (n : Int))] 3)).alloc (.cells #[.int .i64 (n : Int), .int .i64 (1 - (n : Int))] 3)) = W9 at *
  obtain ⟨g8, hg8⟩ : ∃ g, g = WX.heap.size + 1 := ⟨_, rfl⟩
  obtain ⟨g7, hg7⟩ : ∃ g, g = WX.heap.size := ⟨_, rfl⟩
  rw [← hg8] at HX ⊢
  rw [← hg7] at HX hlt7 hg8 ⊢
  have hne78 : g7 ≠ g8 := by omega
  have hlt8 : w.heap.size < g8 := by omega
  clear hg7 hg8
  go_wp2_with fail
  go_loopg [9] 2 (fun kk X wr => ∃ i : Nat, Hid (i + kk = 2) ∧ X = .int .i64 (i : Int) ∧ Hid (∀ i', i' < i → ∀ k', k' < 2 → ¬ (YV (fr (n : Int) i') (fr (n : Int) k') ∧ yearText (fr (n : Int) i') (fr (n : Int) k') = L)) ∧ BL w wr [(w.heap.size, #[.int .i64 0, .int .i64 0], 24), (g7, #[.int .i64 (n : Int), .int .i64 (1 - (n : Int))], 3), (g8, #[.int .i64 (n : Int), .int .i64 (1 - (n : Int))], 3)])
  case atStart => exact ⟨0, Lib.hid (by omega), rfl, Lib.hid (fun i h => absurd h (by omega)), HX⟩
  case round =>
    clear HX
    obtain ⟨i, hi, rfl, HI, HX⟩ := hrel
    by_cases hi2 : i < 2
    · have hid : decide ((i : Int) < 2) = true := decide_eq_true (by omega)
      go_wp2_with fail
      go_loopg [10] 2 (fun kk X wr => ∃ k : Nat, Hid (k + kk = 2) ∧ X = .int .i64 (k : Int) ∧ Hid (∀ k', k' < k → ¬ (YV (fr (n : Int) i) (fr (n : Int) k') ∧ yearText (fr (n : Int) i) (fr (n : Int) k') = L)) ∧ BL w wr [(w.heap.size, #[.int .i64 0, .int .i64 0], 24), (g7, #[.int .i64 (n : Int), .int .i64 (1 - (n : Int))], 3), (g8, #[.int .i64 (n : Int), .int .i64 (1 - (n : Int))], 3)])
      case atStart => exact ⟨0, Lib.hid (by omega), rfl, Lib.hid (fun i h => absurd h (by omega)), HX⟩
      case round =>
        clear HX
        obtain ⟨k, hk, rfl, HK, HX⟩ := hrel
        by_cases hk2 : k < 2
        · have hcx := HX.cell 1 i rfl (fr_at  hi2)
          have hcy := HX.cell 2 k rfl (fr_at  hk2)
          simp only [] at hcx hcy
          have hgr := HX.lt 0 rfl
          have hgr1 := HX.lt 1 rfl
          have hgr2 := HX.lt 2 rfl
          simp only [] at hgr hgr1 hgr2
          have HK1 := fun h => Lib.hid (hk_next  HK.out h)
          clear HK
          generalize fr (n : Int) i = x at *
          generalize fr (n : Int) k = y at *
          go_upto_region 15 with fail
          go_region
          all_goals (
            clear hcx hcy
            go_upto_region 16 with fail
            replace HX := HX.new #[.int .i64 x, .int .i64 y] 24
            simp only [List.cons_append, List.nil_append] at HX
            replace HX := HX.ext (drew_ext _)
            generalize (wr.alloc (.cells #[.int .i64 x, .int .i64 y] 24)).drew = W15 at *
            generalize wr.heap.size = g9 at *
            have hc30 := HX.cell 3 0 rfl rfl
            have hc31 := HX.cell 3 1 rfl rfl
            try simp only [List.getElem_toArray, List.getElem_cons_zero, List.getElem_cons_succ] at hc30 hc31
            by_cases hyv : YV x y
            · have HYV := yes hyv
              obtain ⟨M, hM⟩ : ∃ M, yearText x y = M := ⟨_, rfl⟩
              go_wp2_with fail
              refine (rvalid4_any (b := true) _ HYV).mono ?_
              rintro e w7 ⟨rfl, hb⟩
              clear hc30 hc31
              replace HX := HX.ext hb
              clear hb
              have hc30 := HX.cell 3 0 rfl rfl
              have hc31 := HX.cell 3 1 rfl rfl
              try simp only [List.getElem_toArray, List.getElem_cons_zero, List.getElem_cons_succ] at hc30 hc31
              go_wp2_with fail
              refine (rytext_any _ (.inl ⟨hyv, hM⟩)).mono ?_
              rintro e w8 ⟨rfl, hb⟩
              clear hc30 hc31
              replace HX := HX.ext hb
              clear hb
              have hc30 := HX.cell 3 0 rfl rfl
              have hc31 := HX.cell 3 1 rfl rfl
              try simp only [List.getElem_toArray, List.getElem_cons_zero, List.getElem_cons_succ] at hc30 hc31
              by_cases hML : M = L
              · obtain ⟨rfl, rfl, rfl⟩ := hP.out.ok hyv (hM.trans hML)
                have hse : ((str M).toList == (str L).toList) = true := str_eq (beq_iff_eq.2 hML)
                clear hyv hM hML HK1
                have hc00 := HX.cell 0 0 rfl rfl
                have hc01 := HX.cell 0 1 rfl rfl
                have hf00 := HX.free 0 0 rfl
                have hf01 := HX.free 0 1 rfl
                try simp only [List.getElem_toArray, List.getElem_cons_zero, List.getElem_cons_succ] at hc00 hc01
                go_wp2
                clear hc00 hc01 hf00 hf01 hc30 hc31
                replace HX := HX.put2 0 rfl (by omega) (by intro k q hk hne; match k, hk with | 0, hk => (simp at hk; subst hk; simp at hne ⊢; try omega) | 1, hk => (simp at hk; subst hk; simp at hne ⊢; try omega) | 2, hk => (simp at hk; subst hk; simp at hne ⊢; try omega) | 3, hk => (simp at hk; subst hk; simp at hne ⊢; try omega) | k + 4, hk => simp at hk) (.int .i64 f) (.int .i64 t)
                simp only [List.set_cons_zero] at HX
                have hc00 := HX.cell 0 0 rfl rfl
                have hc01 := HX.cell 0 1 rfl rfl
                try simp only [List.getElem_toArray, List.getElem_cons_zero, List.getElem_cons_succ] at hc00 hc01
                exact bodyPost_ret (v := .tuple #[.agg #[.int .i64 f, .int .i64 t], .int .i64 0]) (by simp [results, Tryz.results85, go_sem, hc00, hc01]) rfl ⟨rfl, HX.below⟩
              · have HK2 := HK1 fun h => hML (hM.symm.trans h.2)
                have hse : ((str M).toList == (str L).toList) = false := str_eq (beq_eq_false_iff_ne.2 hML)
                clear hyv hM hML HK1 hc30 hc31
                go_wp2_with fail
                go_roundg (2 - (k + 1))
                case measure => (first | (have := hk.out; omega) | (have := hi.out; omega))
                case rel => exact ⟨k + 1, Lib.hid (by have := hk.out; omega), by go_num, HK2, HX.init⟩
            · have HYV := no hyv
              have HK2 := HK1 fun h => hyv h.1
              clear hyv HK1
              go_wp2_with fail
              refine (rvalid4_any (b := false) _ HYV).mono ?_
              rintro e w7 ⟨rfl, hb⟩
              clear hc30 hc31
              replace HX := HX.ext hb
              clear hb
              go_wp2_with fail
              go_roundg (2 - (k + 1))
              case measure => (first | (have := hk.out; omega) | (have := hi.out; omega))
              case rel => exact ⟨k + 1, Lib.hid (by have := hk.out; omega), by go_num, HK2, HX.init⟩)
        · have HI2 := Lib.hid (hi_next HI.out (show ∀ k', k' < 2 → ¬ (YV (fr (n : Int) i) (fr (n : Int) k') ∧ yearText (fr (n : Int) i) (fr (n : Int) k') = L) from fun k' h => HK.out k' (by have := hk.out; omega)))
          go_wp2_with fail
          go_roundg (2 - (i + 1))
          case measure => (first | (have := hk.out; omega) | (have := hi.out; omega))
          case rel => exact ⟨i + 1, Lib.hid (by have := hi.out; omega), by go_num, HI2, HX⟩
    · obtain rfl : i = 2 := by have := hi.out; omega
      obtain ⟨rfl, rfl, rfl⟩ := hP.out.bad (ryears_bad HRN.out (HI.out 0 (by omega) 0 (by omega)) (HI.out 0 (by omega) 1 (by omega)) (HI.out 1 (by omega) 0 (by omega)) (HI.out 1 (by omega) 1 (by omega)))
      clear HI
      have hc00 := HX.cell 0 0 rfl rfl
      have hc01 := HX.cell 0 1 rfl rfl
      have hf00 := HX.free 0 0 rfl
      have hf01 := HX.free 0 1 rfl
      try simp only [List.getElem_toArray, List.getElem_cons_zero, List.getElem_cons_succ] at hc00 hc01
      go_wp2
      clear hc00 hc01 hf00 hf01
      replace HX := HX.put2 0 rfl (by omega) (by intro k q hk hne; match k, hk with | 0, hk => (simp at hk; subst hk; simp at hne ⊢; try omega) | 1, hk => (simp at hk; subst hk; simp at hne ⊢; try omega) | 2, hk => (simp at hk; subst hk; simp at hne ⊢; try omega) | k + 3, hk => simp at hk) (.int .i64 0) (.int .i64 0)
      simp only [List.set_cons_zero] at HX
      have hc00 := HX.cell 0 0 rfl rfl
      have hc01 := HX.cell 0 1 rfl rfl
      try simp only [List.getElem_toArray, List.getElem_cons_zero, List.getElem_cons_succ] at hc00 hc01
      exact bodyPost_ret (v := .tuple #[.agg #[.int .i64 0, .int .i64 0], .int .i64 3]) (by simp [results, Tryz.results85, go_sem, hc00, hc01]) rfl ⟨rfl, HX.below⟩
end Go.Proofs.YteleohgalknkiaaGreatDoor

namespace Go.Proofs.YteleohgalknkiaaGreatDoor
open Go.RowKit Go.Proofs Go

theorem rnums_of {L R1 R2 : List UInt8} {n : Nat} (hn : numK 5 L 0 = (n, R1)) (h2 : (if R1.take 3 = [32, 66, 67] ∨ R1.take 3 = [32, 65, 68] then R1.drop 3 else R1) = R2) : rnums L = ((n : Int), if R2.head? = some 45 then (((numK 5 R2.tail 0).1 : Nat) : Int) else ((n : Nat) : Int)) := by
  rw [rnums]; simp only [hn, h2]
theorem rcases3 {L R1 R2 : List UInt8} {n : Nat} (hn : numK 5 L 0 = (n, R1)) (h2 : (if R1.take 3 = [32, 66, 67] ∨ R1.take 3 = [32, 65, 68] then R1.drop 3 else R1) = R2) (hl2 : R2.length ≤ 1000000) :
    (R2.length = 0 ∧ Hid (rnums L = ((n : Int), (n : Int)))) ∨
    (∃ (r S : List UInt8) (m : Nat), 0 < R2.length ∧ (∀ h, (str R2)[0]'h = 45) ∧ (str R2).extract 1 R2.length = str r ∧ r.length ≤ 1000000 ∧ Hid (numK 5 r 0 = (m, S)) ∧ m < 100000 ∧ Hid (rnums L = ((n : Int), (m : Int)))) ∨
    (∃ x0 : UInt8, 0 < R2.length ∧ (∀ h, (str R2)[0]'h = x0) ∧ (¬ x0.toNat = 45) ∧ Hid (rnums L = ((n : Int), (n : Int)))) := by
  have hr := rnums_of hn h2
  cases R2 with
  | nil => exact .inl ⟨rfl, Lib.hid (by rw [hr]; simp)⟩
  | cons x r =>
    by_cases hx : x = 45
    · subst hx
      obtain ⟨m, S, hm⟩ : ∃ m S, numK 5 r 0 = (m, S) := ⟨_, _, rfl⟩
      have hml := numK_lt 5 r 0
      rw [hm] at hml
      refine .inr (.inl ⟨r, S, m, by simp, fun _ => rfl, ?_, by simp at hl2; omega, Lib.hid hm, by simpa using hml, Lib.hid ?_⟩)
      · have := str_drop (45 :: r) 1; simpa using this
      · rw [hr]; simp [hm]
    · refine .inr (.inr ⟨x, by simp, fun _ => rfl, fun h => hx (UInt8.toNat_inj.1 h), Lib.hid ?_⟩)
      rw [hr]; simp [hx]
theorem ryparse_any {L : List UInt8} {f t E : Int} (w : World) (hl : L.length ≤ 1000000) (hP : Hid (PY L f t E)) :
    Calls Tryz.prog 85 #[.string (str L)] w fun e w' => e = .returned (.tuple #[.agg #[.int .i64 f, .int .i64 t], .int .i64 E]) ∧ Below w.heap.size w w' := by
  obtain ⟨n, R1, hn⟩ : ∃ n R, numK 5 L 0 = (n, R) := ⟨_, _, rfl⟩
  have HN := Lib.hid hn
  have hn5 : n < 100000 := by have := numK_lt 5 L 0; rw [hn] at this; simpa using this
  have hl1 : R1.length ≤ 1000000 := by have := numK_len 5 L 0; rw [hn] at this; exact Nat.le_trans this hl
  have hs1 := str_size R1
  have hld : (R1.drop 3).length ≤ 1000000 := by rw [List.length_drop]; omega
  by_cases h3 : 3 ≤ R1.length
  · have hx0 := str_take R1 3
    have hx3 := str_drop R1 3
    have tl : ∀ (S : List UInt8) (b : Bool), (R1.take 3 == S) = b → ((str (R1.take 3)).toList == S) = b := fun S b h => by rw [str_toList]; exact h
    by_cases hbc : R1.take 3 = [32, 66, 67]
    · have t1 := tl _ true (beq_iff_eq.2 hbc)
      rcases rcases3 hn (R2 := R1.drop 3) (by rw [if_pos (.inl hbc)]) hld with ⟨h0, hr⟩ | ⟨r, S, m, h0, hi0, hxr, hlr, HB, hm, hr⟩ | ⟨x0, h0, hi0, hx45, hr⟩
      · exact rypB0 w hl hP HN hr hn5 hl1 hs1 h3 hx0 t1 hx3 hld (str_size _) h0 rfl
      · exact rypB1 w hl hP HN hr hn5 hl1 hs1 h3 hx0 t1 hx3 hld (str_size _) h0 hi0 hxr hlr HB hm rfl
      · exact rypB2 w hl hP HN hr hn5 hl1 hs1 h3 hx0 t1 hx3 hld (str_size _) h0 hi0 hx45 rfl
    · have t1 := tl _ false (beq_eq_false_iff_ne.2 hbc)
      by_cases had : R1.take 3 = [32, 65, 68]
      · have t2 := tl _ true (beq_iff_eq.2 had)
        rcases rcases3 hn (R2 := R1.drop 3) (by rw [if_pos (.inr had)]) hld with ⟨h0, hr⟩ | ⟨r, S, m, h0, hi0, hxr, hlr, HB, hm, hr⟩ | ⟨x0, h0, hi0, hx45, hr⟩
        · exact rypC0 w hl hP HN hr hn5 hl1 hs1 h3 hx0 t1 t2 hx3 hld (str_size _) h0 rfl
        · exact rypC1 w hl hP HN hr hn5 hl1 hs1 h3 hx0 t1 t2 hx3 hld (str_size _) h0 hi0 hxr hlr HB hm rfl
        · exact rypC2 w hl hP HN hr hn5 hl1 hs1 h3 hx0 t1 t2 hx3 hld (str_size _) h0 hi0 hx45 rfl
      · have t2 := tl _ false (beq_eq_false_iff_ne.2 had)
        rcases rcases3 hn (R2 := R1) (by rw [if_neg (fun h => h.elim hbc had)]) hl1 with ⟨h0, hr⟩ | ⟨r, S, m, h0, hi0, hxr, hlr, HB, hm, hr⟩ | ⟨x0, h0, hi0, hx45, hr⟩
        · omega
        · exact rypD1 (_R2 := []) w hl hP HN hr hn5 hl1 hs1 h3 hx0 t1 t2 h0 hi0 hxr hlr HB hm rfl
        · exact rypD2 (_R2 := []) w hl hP HN hr hn5 hl1 hs1 h3 hx0 t1 t2 h0 hi0 hx45 rfl
  · have hno : ¬ (R1.take 3 = [32, 66, 67] ∨ R1.take 3 = [32, 65, 68]) := by
      rintro (h | h)
      · have := congrArg List.length h; simp at this; omega
      · have := congrArg List.length h; simp at this; omega
    rcases rcases3 hn (R2 := R1) (by rw [if_neg hno]) hl1 with ⟨h0, hr⟩ | ⟨r, S, m, h0, hi0, hxr, hlr, HB, hm, hr⟩ | ⟨x0, h0, hi0, hx45, hr⟩
    · exact rypA0 (_R2 := []) (_T3 := []) w hl hP HN hr hn5 hl1 hs1 (by omega) h0 rfl
    · exact rypA1 (_R2 := []) (_T3 := []) w hl hP HN hr hn5 hl1 hs1 (by omega) h0 hi0 hxr hlr HB hm rfl
    · exact rypA2 (_R2 := []) (_T3 := []) w hl hP HN hr hn5 hl1 hs1 (by omega) h0 hi0 hx45 rfl
end Go.Proofs.YteleohgalknkiaaGreatDoor
