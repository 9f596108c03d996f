/- label.Parse: the label whose text a string is, or the error. -/
import Derived.Test.YtlnajhochpbgpaaDoorLb2
namespace Go.Proofs.YtlnajhochpbgpaaDoor
open Go.RowKit Go.Proofs Go

def sideI (x : UInt8) : Int := if x = 79 then 0 else if x = 82 then 1 else -1
theorem sideI_bd (x : UInt8) : -1 ≤ sideI x ∧ sideI x ≤ 1 := by rw [sideI]; split <;> (try split) <;> omega
theorem sideI_B {a : Int} (h : 0 ≤ a ∧ a ≤ 1) : sideI (sideB a) = a := by
  rcases (show a = 0 ∨ a = 1 by omega) with rfl | rfl <;> rfl
theorem B_sideI {x : UInt8} (h : 0 ≤ sideI x) : sideB (sideI x) = x := by
  rw [sideI] at *
  split at h
  · next e => subst e; rfl
  · split at h
    · next e e2 => subst e2; rfl
    · omega
theorem iby_any (x : UInt8) (w : World) :
    Calls Tryd.prog 33 #[.string ⟨#[79, 82]⟩, .int .u8 (x.toNat : Int)] w fun e w' => e = .returned (.int .i64 (sideI x)) ∧ w' = w := by
  refine (Tryd.strings_IndexByte ⟨#[79, 82]⟩ (x.toNat : Int) w).mono ?_
  rintro e w' ⟨rfl, rfl⟩
  refine ⟨?_, rfl⟩
  have h1 : ((x.toNat : Int).toNat).toUInt8 = x := by simp
  rw [h1]
  have h2 : Lib.indexByte (⟨#[79, 82]⟩ : ByteArray).data.toList x = sideI x := by
    show Lib.indexByte [79, 82] x = sideI x
    rw [sideI, Lib.indexByte, Lib.indexByte, Lib.indexByte]
    by_cases h : x = 79
    · subst h; rfl
    · have h' : ((79 : UInt8) == x) = false := beq_eq_false_iff_ne.2 (fun e => h e.symm)
      by_cases h2 : x = 82
      · subst h2; rfl
      · have h2' : ((82 : UInt8) == x) = false := beq_eq_false_iff_ne.2 (fun e => h2 e.symm)
        simp [h, h', h2, h2']
  rw [h2]
/-- what Parse returns -/
def RetL (w : World) (a b c E : Int) (e : Ending) (w' : World) : Prop := e = .returned (.tuple #[.agg #[.int .i64 a, .int .i64 b, .int .i64 c], .int .i64 E]) ∧ Below w.heap.size w w'
/-- what the parser finds: the label, if the text is its text -/
theorem PL.cand {x : UInt8} {r R T : List UInt8} {st n a b c E : Int} (h : PL (x :: r) a b c E) (h1 : lrest r = (R, st)) (h2 : Lib.atoiAll R = .ok n) (hT : PT (sideI x) n st T) :
    (T = x :: r ∧ a = sideI x ∧ b = n ∧ c = st ∧ E = 0) ∨ (T ≠ x :: r ∧ a = 0 ∧ b = 0 ∧ c = 0 ∧ E = 3) := by
  by_cases hE : T = x :: r
  · left
    rcases hT with ⟨h3, h4⟩ | ⟨_, h4⟩
    · obtain ⟨e1, e2, e3, e4⟩ := h.of h3 (h4.trans hE)
      exact ⟨hE, e1, e2, e3, e4⟩
    · rw [h4] at hE; cases hE
  · right
    obtain ⟨e1, e2, e3, e4⟩ := h.not (fun a b c h3 h4 => hE (by
      obtain ⟨g1, g2, g3, _⟩ := labT_cand h3 h4
      rw [h1] at g2
      injection g2 with g4 g5
      rw [g4, g3] at h2
      injection h2 with h2
      rw [g1, sideI_B h3.1, ← h2, g5] at hT
      rcases hT with ⟨_, h5⟩ | ⟨h5, _⟩
      · rw [← h5, h4]
      · exact absurd h3 h5))
    exact ⟨hE, e1, e2, e3, e4⟩
theorem PL.fail {x : UInt8} {r R : List UInt8} {st a b c E : Int} (h : PL (x :: r) a b c E) (h1 : lrest r = (R, st)) (h2 : ∀ n, Lib.atoiAll R ≠ .ok n) : a = 0 ∧ b = 0 ∧ c = 0 ∧ E = 3 := by
  refine h.not fun a b c h3 h4 => ?_
  obtain ⟨_, g2, g3, _⟩ := labT_cand h3 h4
  rw [h1] at g2
  injection g2 with g4 _
  rw [← g4] at g3
  exact h2 _ g3
theorem PL.nil {a b c E : Int} (h : PL [] a b c E) : a = 0 ∧ b = 0 ∧ c = 0 ∧ E = 3 := h.not fun a b c _ h4 => by rw [labT] at h4; cases h4
set_option maxHeartbeats 1000000 in
set_option maxRecDepth 100000 in
theorem lparse_nil {a b c E : Int} (w : World) (hP : PL [] a b c E) : Calls Tryd.prog 16 #[.string (str [])] w (RetL w a b c E) := by
  obtain ⟨rfl, rfl, rfl, rfl⟩ := hP.nil
  have h0 : (str []).size = 0 := rfl
  have he : (str []).toList = [] := by rw [str_toList]
  have HX := BL.one w #[.int .i64 0, .int .i64 0, .int .i64 0] 23
  have hc00 := HX.cell 0 0 rfl rfl
  have hf00 := HX.free 0 0 rfl
  have hc01 := HX.cell 0 1 rfl rfl
  have hf01 := HX.free 0 1 rfl
  have hc02 := HX.cell 0 2 rfl rfl
  have hf02 := HX.free 0 2 rfl
  try simp only [List.getElem_toArray, List.getElem_cons_zero, List.getElem_cons_succ] at hc00 hf00 hc01 hf01 hc02 hf02
  go_enter Tryd.func16, Tryd.ntmps16
  go_wp2
  clear hc00 hf00 hc01 hf01 hc02 hf02
  have hc00 := HX.cell 0 0 rfl rfl
  have hc01 := HX.cell 0 1 rfl rfl
  have hc02 := HX.cell 0 2 rfl rfl
  try simp only [List.getElem_toArray, List.getElem_cons_zero, List.getElem_cons_succ] at hc00 hc01 hc02
  exact bodyPost_ret (v := .tuple #[.agg #[.int .i64 0, .int .i64 0, .int .i64 0], .int .i64 3]) (by simp [results, Tryd.results16, go_sem, hc00, hc01, hc02]) rfl (show RetL w 0 0 0 3 _ _ from ⟨rfl, HX.below⟩)
set_option maxHeartbeats 8000000 in
set_option maxRecDepth 100000 in
theorem lparse_cons {x : UInt8} {r : List UInt8} {a b c E : Int} (w : World) (hE : Env w) (hl : (x :: r).length ≤ 20000) (hP : PL (x :: r) a b c E) : Calls Tryd.prog 16 #[.string (str (x :: r))] w (RetL w a b c E) := by
  replace hP := Lib.hid hP
  have hsz : (str (x :: r)).size = r.length + 1 := by rw [str_size]; rfl
  have he : (str (x :: r)).toList.isEmpty = false := by rw [str_toList]; rfl
  have he2 : ((str (x :: r)).toList == []) = false := by rw [str_toList]; rfl
  have hix : ∀ h, (str (x :: r))[0]'h = x := fun _ => rfl
  have hxr : (str (x :: r)).extract 1 (r.length + 1) = str r := by have := str_drop (x :: r) 1; simpa using this
  have hsr : (str r).size = r.length := str_size r
  have hrl : r.length ≤ 20000 := by simp at hl; omega
  have hE0 := hE
  clear hl
  have HX := BL.two w #[.int .i64 0, .int .i64 0, .int .i64 0] #[.int .i64 (sideI x), .int .i64 0, .int .i64 0] 23 23
  obtain ⟨g1, hg1⟩ : ∃ g1, w.heap.size + 1 = g1 := ⟨_, rfl⟩
  go_enter Tryd.func16, Tryd.ntmps16
  go_wp2_with fail
  refine (iby_any x _).mono ?_
  rintro e w1 ⟨rfl, rfl⟩
  go_upto_region 5 with fail
  clear hE
  generalize (w.alloc (.cells #[.int .i64 0, .int .i64 0, .int .i64 0] 23)).alloc (.cells #[.int .i64 (sideI x), .int .i64 0, .int .i64 0] 23) = W2 at *
  rw [hg1] at HX
  replace hg1 : w.heap.size < g1 := by omega
  clear he he2 hix hxr
  by_cases hr : r = []
  · subst hr
    have hR : Hid (lrest [] = ([], 0)) := Lib.hid rfl
    have hRl : ([] : List UInt8).length ≤ 1000000000 := by simp
    have hs0 : (str []).size = 0 := rfl
    go_upto_region 9 with fail
    clear hs0 hsr hsz hrl
    have HA : Hid (∀ n, Lib.atoiAll [] ≠ .ok n) := Lib.hid (by intro n h; first | (rw [hA] at h; cases h) | cases h)
    obtain ⟨rfl, rfl, rfl, rfl⟩ := hP.out.fail hR.out HA.out
    (try clear hA); clear hP hR
    go_wp2_with fail
    refine (atoi_bad _ HA (hE0.ext HX.below) hRl).mono ?_
    rintro e w4 ⟨n, N, rfl, hb⟩
    replace HX := HX.ext hb
    clear hb
    have hc10 := HX.cell 1 0 rfl rfl
    have hf10 := HX.free 1 0 rfl
    have hc11 := HX.cell 1 1 rfl rfl
    have hf11 := HX.free 1 1 rfl
    have hc12 := HX.cell 1 2 rfl rfl
    have hf12 := HX.free 1 2 rfl
    try simp only [List.getElem_toArray, List.getElem_cons_zero, List.getElem_cons_succ] at hc10 hf10 hc11 hf11 hc12 hf12
    go_upto_region 11 with fail
    clear hc10 hf10 hc11 hf11 hc12 hf12
    replace HX := HX.set1 1 rfl (by omega) (by intro k q hk hne; match k, hk with | 0, hk => (simp at hk; subst hk; simp at hne ⊢; try omega) | 1, hk => (simp at hk; subst hk; simp at hne ⊢; try omega) | k + 2, hk => simp at hk) 1 (.int .i64 n)
    generalize w4.setCell ⟨g1, 1, none⟩ (.int .i64 n) = W5 at *
    simp only [List.set_cons_zero, List.set_cons_succ, List.setIfInBounds_toArray] at HX
    have hc00 := HX.cell 0 0 rfl rfl
    have hf00 := HX.free 0 0 rfl
    have hc01 := HX.cell 0 1 rfl rfl
    have hf01 := HX.free 0 1 rfl
    have hc02 := HX.cell 0 2 rfl rfl
    have hf02 := HX.free 0 2 rfl
    try simp only [List.getElem_toArray, List.getElem_cons_zero, List.getElem_cons_succ] at hc00 hf00 hc01 hf01 hc02 hf02
    go_wp2
    clear hc00 hf00 hc01 hf01 hc02 hf02
    replace HX := HX.put3 0 rfl (by omega) (by intro k q hk hne; match k, hk with | 0, hk => (simp at hk; subst hk; simp at hne ⊢; try omega) | 1, hk => (simp at hk; subst hk; simp at hne ⊢; try omega) | k + 2, hk => simp at hk) (.int .i64 0) (.int .i64 0) (.int .i64 0)
    simp only [List.set_cons_zero, List.set_cons_succ] at HX
    have hc00 := HX.cell 0 0 rfl rfl
    have hc01 := HX.cell 0 1 rfl rfl
    have hc02 := HX.cell 0 2 rfl rfl
    try simp only [List.getElem_toArray, List.getElem_cons_zero, List.getElem_cons_succ] at hc00 hc01 hc02
    exact bodyPost_ret (v := .tuple #[.agg #[.int .i64 0, .int .i64 0, .int .i64 0], .int .i64 3]) (by simp [results, Tryd.results16, go_sem, hc00, hc01, hc02]) rfl (show RetL w 0 0 0 3 _ _ from ⟨rfl, HX.below⟩)
  · obtain ⟨q, y, rfl⟩ := snoc_of hr
    clear hr
    have hqs : (str (q ++ [y])).size = q.length + 1 := by rw [str_size]; simp
    have hql : (q ++ [y]).length = q.length + 1 := by simp
    have hiy : ∀ h, (str (q ++ [y]))[q.length]'h = y := fun h => by
      have : (q ++ [y])[q.length]'(by simp) = y := by simp
      exact this
    rw [hql] at hrl
    clear hsr hsz hql
    by_cases h97 : 97 ≤ y.toNat
    · by_cases h105 : y.toNat ≤ 105
      · have hR : Hid (lrest (q ++ [y]) = (q, (y.toNat : Int) - 97 + 1)) := Lib.hid (by rw [lrest_state _ _ ⟨h97, h105⟩]; congr 1; omega)
        have hRl : q.length ≤ 1000000000 := by omega
        have hxq : (str (q ++ [y])).extract 0 q.length = str q := by have := str_take (q ++ [y]) q.length; simpa using this
        have hc10 := HX.cell 1 0 rfl rfl
        have hf10 := HX.free 1 0 rfl
        have hc11 := HX.cell 1 1 rfl rfl
        have hf11 := HX.free 1 1 rfl
        have hc12 := HX.cell 1 2 rfl rfl
        have hf12 := HX.free 1 2 rfl
        try simp only [List.getElem_toArray, List.getElem_cons_zero, List.getElem_cons_succ] at hc10 hf10 hc11 hf11 hc12 hf12
        go_upto_region 9 with fail
        clear hc10 hf10 hc11 hf11 hc12 hf12
        replace HX := HX.set1 1 rfl (by omega) (by intro k q hk hne; match k, hk with | 0, hk => (simp at hk; subst hk; simp at hne ⊢; try omega) | 1, hk => (simp at hk; subst hk; simp at hne ⊢; try omega) | k + 2, hk => simp at hk) 2 (.int .i64 ((y.toNat : Int) - 97 + 1))
        generalize W2.setCell ⟨g1, 2, none⟩ (.int .i64 ((y.toNat : Int) - 97 + 1)) = W3 at *
        simp only [List.set_cons_zero, List.set_cons_succ, List.setIfInBounds_toArray] at HX
        clear hqs hiy hxq
        cases hA : Lib.atoiAll q with
        | ok n =>
          have HA : Hid (Lib.atoiAll q = .ok n) := Lib.hid hA
          obtain ⟨T, hT⟩ := PT.ex (sideI x) n ((y.toNat : Int) - 97 + 1)
          have hfin := Lib.hid (hP.out.cand hR.out hA hT)
          have hTl := hT.len
          have hT2 := Lib.hid hT
          have hsT : (str T).size = T.length := str_size T
          clear hA hT hP hR
          go_wp2_with fail
          refine (atoi_ok _ HA hRl).mono ?_
          rintro e w4 ⟨rfl, hb⟩
          replace HX := HX.ext hb
          clear hb
          have hc10 := HX.cell 1 0 rfl rfl
          have hf10 := HX.free 1 0 rfl
          have hc11 := HX.cell 1 1 rfl rfl
          have hf11 := HX.free 1 1 rfl
          have hc12 := HX.cell 1 2 rfl rfl
          have hf12 := HX.free 1 2 rfl
          try simp only [List.getElem_toArray, List.getElem_cons_zero, List.getElem_cons_succ] at hc10 hf10 hc11 hf11 hc12 hf12
          go_upto_region 11 with fail
          clear hc10 hf10 hc11 hf11 hc12 hf12
          replace HX := HX.set1 1 rfl (by omega) (by intro k q hk hne; match k, hk with | 0, hk => (simp at hk; subst hk; simp at hne ⊢; try omega) | 1, hk => (simp at hk; subst hk; simp at hne ⊢; try omega) | k + 2, hk => simp at hk) 1 (.int .i64 n)
          generalize w4.setCell ⟨g1, 1, none⟩ (.int .i64 n) = W5 at *
          simp only [List.set_cons_zero, List.set_cons_succ, List.setIfInBounds_toArray] at HX
          have hc10 := HX.cell 1 0 rfl rfl
          have hc11 := HX.cell 1 1 rfl rfl
          have hc12 := HX.cell 1 2 rfl rfl
          try simp only [List.getElem_toArray, List.getElem_cons_zero, List.getElem_cons_succ] at hc10 hc11 hc12
          go_wp2_with fail
          refine (ltext_any _ (hE0.ext HX.below).tab hT2.out).mono ?_
          rintro e w6 ⟨rfl, hb⟩
          clear hc10 hc11 hc12
          replace HX := HX.ext hb
          clear hb
          rcases hfin.out with ⟨h1, rfl, rfl, rfl, rfl⟩ | ⟨h1, rfl, rfl, rfl, rfl⟩
          · have hs : ((str T).toList == (str (x :: (q ++ [y]))).toList) = true := str_eq (beq_iff_eq.2 h1)
            clear h1
            have hc00 := HX.cell 0 0 rfl rfl
            have hf00 := HX.free 0 0 rfl
            have hc01 := HX.cell 0 1 rfl rfl
            have hf01 := HX.free 0 1 rfl
            have hc02 := HX.cell 0 2 rfl rfl
            have hf02 := HX.free 0 2 rfl
            try simp only [List.getElem_toArray, List.getElem_cons_zero, List.getElem_cons_succ] at hc00 hf00 hc01 hf01 hc02 hf02
            have hc10 := HX.cell 1 0 rfl rfl
            have hc11 := HX.cell 1 1 rfl rfl
            have hc12 := HX.cell 1 2 rfl rfl
            try simp only [List.getElem_toArray, List.getElem_cons_zero, List.getElem_cons_succ] at hc10 hc11 hc12
            go_wp2
            clear hc00 hf00 hc01 hf01 hc02 hf02
            clear hc10 hc11 hc12
            replace HX := HX.put3 0 rfl (by omega) (by intro k q hk hne; match k, hk with | 0, hk => (simp at hk; subst hk; simp at hne ⊢; try omega) | 1, hk => (simp at hk; subst hk; simp at hne ⊢; try omega) | k + 2, hk => simp at hk) (.int .i64 (sideI x)) (.int .i64 b) (.int .i64 ((y.toNat : Int) - 97 + 1))
            simp only [List.set_cons_zero, List.set_cons_succ] at HX
            have hc00 := HX.cell 0 0 rfl rfl
            have hc01 := HX.cell 0 1 rfl rfl
            have hc02 := HX.cell 0 2 rfl rfl
            try simp only [List.getElem_toArray, List.getElem_cons_zero, List.getElem_cons_succ] at hc00 hc01 hc02
            exact bodyPost_ret (v := .tuple #[.agg #[.int .i64 (sideI x), .int .i64 b, .int .i64 ((y.toNat : Int) - 97 + 1)], .int .i64 0]) (by simp [results, Tryd.results16, go_sem, hc00, hc01, hc02]) rfl (show RetL w _ _ _ 0 _ _ from ⟨rfl, HX.below⟩)
          · have hs : ((str T).toList == (str (x :: (q ++ [y]))).toList) = false := str_eq (beq_eq_false_iff_ne.2 h1)
            clear h1
            have hc00 := HX.cell 0 0 rfl rfl
            have hf00 := HX.free 0 0 rfl
            have hc01 := HX.cell 0 1 rfl rfl
            have hf01 := HX.free 0 1 rfl
            have hc02 := HX.cell 0 2 rfl rfl
            have hf02 := HX.free 0 2 rfl
            try simp only [List.getElem_toArray, List.getElem_cons_zero, List.getElem_cons_succ] at hc00 hf00 hc01 hf01 hc02 hf02
            go_wp2
            clear hc00 hf00 hc01 hf01 hc02 hf02
            replace HX := HX.put3 0 rfl (by omega) (by intro k q hk hne; match k, hk with | 0, hk => (simp at hk; subst hk; simp at hne ⊢; try omega) | 1, hk => (simp at hk; subst hk; simp at hne ⊢; try omega) | k + 2, hk => simp at hk) (.int .i64 0) (.int .i64 0) (.int .i64 0)
            simp only [List.set_cons_zero, List.set_cons_succ] at HX
            have hc00 := HX.cell 0 0 rfl rfl
            have hc01 := HX.cell 0 1 rfl rfl
            have hc02 := HX.cell 0 2 rfl rfl
            try simp only [List.getElem_toArray, List.getElem_cons_zero, List.getElem_cons_succ] at hc00 hc01 hc02
            exact bodyPost_ret (v := .tuple #[.agg #[.int .i64 0, .int .i64 0, .int .i64 0], .int .i64 3]) (by simp [results, Tryd.results16, go_sem, hc00, hc01, hc02]) rfl (show RetL w 0 0 0 3 _ _ from ⟨rfl, HX.below⟩)
        | range => 
          have HA : Hid (∀ n, Lib.atoiAll q ≠ .ok n) := Lib.hid (by intro n h; first | (rw [hA] at h; cases h) | cases h)
          obtain ⟨rfl, rfl, rfl, rfl⟩ := hP.out.fail hR.out HA.out
          (try clear hA); clear hP hR
          go_wp2_with fail
          refine (atoi_bad _ HA (hE0.ext HX.below) hRl).mono ?_
          rintro e w4 ⟨n, N, rfl, hb⟩
          replace HX := HX.ext hb
          clear hb
          have hc10 := HX.cell 1 0 rfl rfl
          have hf10 := HX.free 1 0 rfl
          have hc11 := HX.cell 1 1 rfl rfl
          have hf11 := HX.free 1 1 rfl
          have hc12 := HX.cell 1 2 rfl rfl
          have hf12 := HX.free 1 2 rfl
          try simp only [List.getElem_toArray, List.getElem_cons_zero, List.getElem_cons_succ] at hc10 hf10 hc11 hf11 hc12 hf12
          go_upto_region 11 with fail
          clear hc10 hf10 hc11 hf11 hc12 hf12
          replace HX := HX.set1 1 rfl (by omega) (by intro k q hk hne; match k, hk with | 0, hk => (simp at hk; subst hk; simp at hne ⊢; try omega) | 1, hk => (simp at hk; subst hk; simp at hne ⊢; try omega) | k + 2, hk => simp at hk) 1 (.int .i64 n)
          generalize w4.setCell ⟨g1, 1, none⟩ (.int .i64 n) = W5 at *
          simp only [List.set_cons_zero, List.set_cons_succ, List.setIfInBounds_toArray] at HX
          have hc00 := HX.cell 0 0 rfl rfl
          have hf00 := HX.free 0 0 rfl
          have hc01 := HX.cell 0 1 rfl rfl
          have hf01 := HX.free 0 1 rfl
          have hc02 := HX.cell 0 2 rfl rfl
          have hf02 := HX.free 0 2 rfl
          try simp only [List.getElem_toArray, List.getElem_cons_zero, List.getElem_cons_succ] at hc00 hf00 hc01 hf01 hc02 hf02
          go_wp2
          clear hc00 hf00 hc01 hf01 hc02 hf02
          replace HX := HX.put3 0 rfl (by omega) (by intro k q hk hne; match k, hk with | 0, hk => (simp at hk; subst hk; simp at hne ⊢; try omega) | 1, hk => (simp at hk; subst hk; simp at hne ⊢; try omega) | k + 2, hk => simp at hk) (.int .i64 0) (.int .i64 0) (.int .i64 0)
          simp only [List.set_cons_zero, List.set_cons_succ] at HX
          have hc00 := HX.cell 0 0 rfl rfl
          have hc01 := HX.cell 0 1 rfl rfl
          have hc02 := HX.cell 0 2 rfl rfl
          try simp only [List.getElem_toArray, List.getElem_cons_zero, List.getElem_cons_succ] at hc00 hc01 hc02
          exact bodyPost_ret (v := .tuple #[.agg #[.int .i64 0, .int .i64 0, .int .i64 0], .int .i64 3]) (by simp [results, Tryd.results16, go_sem, hc00, hc01, hc02]) rfl (show RetL w 0 0 0 3 _ _ from ⟨rfl, HX.below⟩)
        | _ => 
          have HA : Hid (∀ n, Lib.atoiAll q ≠ .ok n) := Lib.hid (by intro n h; first | (rw [hA] at h; cases h) | cases h)
          obtain ⟨rfl, rfl, rfl, rfl⟩ := hP.out.fail hR.out HA.out
          (try clear hA); clear hP hR
          go_wp2_with fail
          refine (atoi_bad _ HA (hE0.ext HX.below) hRl).mono ?_
          rintro e w4 ⟨n, N, rfl, hb⟩
          replace HX := HX.ext hb
          clear hb
          have hc10 := HX.cell 1 0 rfl rfl
          have hf10 := HX.free 1 0 rfl
          have hc11 := HX.cell 1 1 rfl rfl
          have hf11 := HX.free 1 1 rfl
          have hc12 := HX.cell 1 2 rfl rfl
          have hf12 := HX.free 1 2 rfl
          try simp only [List.getElem_toArray, List.getElem_cons_zero, List.getElem_cons_succ] at hc10 hf10 hc11 hf11 hc12 hf12
          go_upto_region 11 with fail
          clear hc10 hf10 hc11 hf11 hc12 hf12
          replace HX := HX.set1 1 rfl (by omega) (by intro k q hk hne; match k, hk with | 0, hk => (simp at hk; subst hk; simp at hne ⊢; try omega) | 1, hk => (simp at hk; subst hk; simp at hne ⊢; try omega) | k + 2, hk => simp at hk) 1 (.int .i64 n)
          generalize w4.setCell ⟨g1, 1, none⟩ (.int .i64 n) = W5 at *
          simp only [List.set_cons_zero, List.set_cons_succ, List.setIfInBounds_toArray] at HX
          have hc00 := HX.cell 0 0 rfl rfl
          have hf00 := HX.free 0 0 rfl
          have hc01 := HX.cell 0 1 rfl rfl
          have hf01 := HX.free 0 1 rfl
          have hc02 := HX.cell 0 2 rfl rfl
          have hf02 := HX.free 0 2 rfl
          try simp only [List.getElem_toArray, List.getElem_cons_zero, List.getElem_cons_succ] at hc00 hf00 hc01 hf01 hc02 hf02
          go_wp2
          clear hc00 hf00 hc01 hf01 hc02 hf02
          replace HX := HX.put3 0 rfl (by omega) (by intro k q hk hne; match k, hk with | 0, hk => (simp at hk; subst hk; simp at hne ⊢; try omega) | 1, hk => (simp at hk; subst hk; simp at hne ⊢; try omega) | k + 2, hk => simp at hk) (.int .i64 0) (.int .i64 0) (.int .i64 0)
          simp only [List.set_cons_zero, List.set_cons_succ] at HX
          have hc00 := HX.cell 0 0 rfl rfl
          have hc01 := HX.cell 0 1 rfl rfl
          have hc02 := HX.cell 0 2 rfl rfl
          try simp only [List.getElem_toArray, List.getElem_cons_zero, List.getElem_cons_succ] at hc00 hc01 hc02
          exact bodyPost_ret (v := .tuple #[.agg #[.int .i64 0, .int .i64 0, .int .i64 0], .int .i64 3]) (by simp [results, Tryd.results16, go_sem, hc00, hc01, hc02]) rfl (show RetL w 0 0 0 3 _ _ from ⟨rfl, HX.below⟩)
      · have hR : Hid (lrest (q ++ [y]) = (q ++ [y], 0)) := Lib.hid (lrest_none _ _ (by omega))
        have hRl : (q ++ [y]).length ≤ 1000000000 := by simp; omega
        go_upto_region 9 with fail
        clear hqs hiy
        cases hA : Lib.atoiAll (q ++ [y]) with
        | ok n =>
          have HA : Hid (Lib.atoiAll (q ++ [y]) = .ok n) := Lib.hid hA
          obtain ⟨T, hT⟩ := PT.ex (sideI x) n (0)
          have hfin := Lib.hid (hP.out.cand hR.out hA hT)
          have hTl := hT.len
          have hT2 := Lib.hid hT
          have hsT : (str T).size = T.length := str_size T
          clear hA hT hP hR
          go_wp2_with fail
          refine (atoi_ok _ HA hRl).mono ?_
          rintro e w4 ⟨rfl, hb⟩
          replace HX := HX.ext hb
          clear hb
          have hc10 := HX.cell 1 0 rfl rfl
          have hf10 := HX.free 1 0 rfl
          have hc11 := HX.cell 1 1 rfl rfl
          have hf11 := HX.free 1 1 rfl
          have hc12 := HX.cell 1 2 rfl rfl
          have hf12 := HX.free 1 2 rfl
          try simp only [List.getElem_toArray, List.getElem_cons_zero, List.getElem_cons_succ] at hc10 hf10 hc11 hf11 hc12 hf12
          go_upto_region 11 with fail
          clear hc10 hf10 hc11 hf11 hc12 hf12
          replace HX := HX.set1 1 rfl (by omega) (by intro k q hk hne; match k, hk with | 0, hk => (simp at hk; subst hk; simp at hne ⊢; try omega) | 1, hk => (simp at hk; subst hk; simp at hne ⊢; try omega) | k + 2, hk => simp at hk) 1 (.int .i64 n)
          generalize w4.setCell ⟨g1, 1, none⟩ (.int .i64 n) = W5 at *
          simp only [List.set_cons_zero, List.set_cons_succ, List.setIfInBounds_toArray] at HX
          have hc10 := HX.cell 1 0 rfl rfl
          have hc11 := HX.cell 1 1 rfl rfl
          have hc12 := HX.cell 1 2 rfl rfl
          try simp only [List.getElem_toArray, List.getElem_cons_zero, List.getElem_cons_succ] at hc10 hc11 hc12
          go_wp2_with fail
          refine (ltext_any _ (hE0.ext HX.below).tab hT2.out).mono ?_
          rintro e w6 ⟨rfl, hb⟩
          clear hc10 hc11 hc12
          replace HX := HX.ext hb
          clear hb
          rcases hfin.out with ⟨h1, rfl, rfl, rfl, rfl⟩ | ⟨h1, rfl, rfl, rfl, rfl⟩
          · have hs : ((str T).toList == (str (x :: (q ++ [y]))).toList) = true := str_eq (beq_iff_eq.2 h1)
            clear h1
            have hc00 := HX.cell 0 0 rfl rfl
            have hf00 := HX.free 0 0 rfl
            have hc01 := HX.cell 0 1 rfl rfl
            have hf01 := HX.free 0 1 rfl
            have hc02 := HX.cell 0 2 rfl rfl
            have hf02 := HX.free 0 2 rfl
            try simp only [List.getElem_toArray, List.getElem_cons_zero, List.getElem_cons_succ] at hc00 hf00 hc01 hf01 hc02 hf02
            have hc10 := HX.cell 1 0 rfl rfl
            have hc11 := HX.cell 1 1 rfl rfl
            have hc12 := HX.cell 1 2 rfl rfl
            try simp only [List.getElem_toArray, List.getElem_cons_zero, List.getElem_cons_succ] at hc10 hc11 hc12
            go_wp2
            clear hc00 hf00 hc01 hf01 hc02 hf02
            clear hc10 hc11 hc12
            replace HX := HX.put3 0 rfl (by omega) (by intro k q hk hne; match k, hk with | 0, hk => (simp at hk; subst hk; simp at hne ⊢; try omega) | 1, hk => (simp at hk; subst hk; simp at hne ⊢; try omega) | k + 2, hk => simp at hk) (.int .i64 (sideI x)) (.int .i64 b) (.int .i64 (0))
            simp only [List.set_cons_zero, List.set_cons_succ] at HX
            have hc00 := HX.cell 0 0 rfl rfl
            have hc01 := HX.cell 0 1 rfl rfl
            have hc02 := HX.cell 0 2 rfl rfl
            try simp only [List.getElem_toArray, List.getElem_cons_zero, List.getElem_cons_succ] at hc00 hc01 hc02
            exact bodyPost_ret (v := .tuple #[.agg #[.int .i64 (sideI x), .int .i64 b, .int .i64 (0)], .int .i64 0]) (by simp [results, Tryd.results16, go_sem, hc00, hc01, hc02]) rfl (show RetL w _ _ _ 0 _ _ from ⟨rfl, HX.below⟩)
          · have hs : ((str T).toList == (str (x :: (q ++ [y]))).toList) = false := str_eq (beq_eq_false_iff_ne.2 h1)
            clear h1
            have hc00 := HX.cell 0 0 rfl rfl
            have hf00 := HX.free 0 0 rfl
            have hc01 := HX.cell 0 1 rfl rfl
            have hf01 := HX.free 0 1 rfl
            have hc02 := HX.cell 0 2 rfl rfl
            have hf02 := HX.free 0 2 rfl
            try simp only [List.getElem_toArray, List.getElem_cons_zero, List.getElem_cons_succ] at hc00 hf00 hc01 hf01 hc02 hf02
            go_wp2
            clear hc00 hf00 hc01 hf01 hc02 hf02
            replace HX := HX.put3 0 rfl (by omega) (by intro k q hk hne; match k, hk with | 0, hk => (simp at hk; subst hk; simp at hne ⊢; try omega) | 1, hk => (simp at hk; subst hk; simp at hne ⊢; try omega) | k + 2, hk => simp at hk) (.int .i64 0) (.int .i64 0) (.int .i64 0)
            simp only [List.set_cons_zero, List.set_cons_succ] at HX
            have hc00 := HX.cell 0 0 rfl rfl
            have hc01 := HX.cell 0 1 rfl rfl
            have hc02 := HX.cell 0 2 rfl rfl
            try simp only [List.getElem_toArray, List.getElem_cons_zero, List.getElem_cons_succ] at hc00 hc01 hc02
            exact bodyPost_ret (v := .tuple #[.agg #[.int .i64 0, .int .i64 0, .int .i64 0], .int .i64 3]) (by simp [results, Tryd.results16, go_sem, hc00, hc01, hc02]) rfl (show RetL w 0 0 0 3 _ _ from ⟨rfl, HX.below⟩)
        | range => 
          have HA : Hid (∀ n, Lib.atoiAll (q ++ [y]) ≠ .ok n) := Lib.hid (by intro n h; first | (rw [hA] at h; cases h) | cases h)
          obtain ⟨rfl, rfl, rfl, rfl⟩ := hP.out.fail hR.out HA.out
          (try clear hA); clear hP hR
          go_wp2_with fail
          refine (atoi_bad _ HA (hE0.ext HX.below) hRl).mono ?_
          rintro e w4 ⟨n, N, rfl, hb⟩
          replace HX := HX.ext hb
          clear hb
          have hc10 := HX.cell 1 0 rfl rfl
          have hf10 := HX.free 1 0 rfl
          have hc11 := HX.cell 1 1 rfl rfl
          have hf11 := HX.free 1 1 rfl
          have hc12 := HX.cell 1 2 rfl rfl
          have hf12 := HX.free 1 2 rfl
          try simp only [List.getElem_toArray, List.getElem_cons_zero, List.getElem_cons_succ] at hc10 hf10 hc11 hf11 hc12 hf12
          go_upto_region 11 with fail
          clear hc10 hf10 hc11 hf11 hc12 hf12
          replace HX := HX.set1 1 rfl (by omega) (by intro k q hk hne; match k, hk with | 0, hk => (simp at hk; subst hk; simp at hne ⊢; try omega) | 1, hk => (simp at hk; subst hk; simp at hne ⊢; try omega) | k + 2, hk => simp at hk) 1 (.int .i64 n)
          generalize w4.setCell ⟨g1, 1, none⟩ (.int .i64 n) = W5 at *
          simp only [List.set_cons_zero, List.set_cons_succ, List.setIfInBounds_toArray] at HX
          have hc00 := HX.cell 0 0 rfl rfl
          have hf00 := HX.free 0 0 rfl
          have hc01 := HX.cell 0 1 rfl rfl
          have hf01 := HX.free 0 1 rfl
          have hc02 := HX.cell 0 2 rfl rfl
          have hf02 := HX.free 0 2 rfl
          try simp only [List.getElem_toArray, List.getElem_cons_zero, List.getElem_cons_succ] at hc00 hf00 hc01 hf01 hc02 hf02
          go_wp2
          clear hc00 hf00 hc01 hf01 hc02 hf02
          replace HX := HX.put3 0 rfl (by omega) (by intro k q hk hne; match k, hk with | 0, hk => (simp at hk; subst hk; simp at hne ⊢; try omega) | 1, hk => (simp at hk; subst hk; simp at hne ⊢; try omega) | k + 2, hk => simp at hk) (.int .i64 0) (.int .i64 0) (.int .i64 0)
          simp only [List.set_cons_zero, List.set_cons_succ] at HX
          have hc00 := HX.cell 0 0 rfl rfl
          have hc01 := HX.cell 0 1 rfl rfl
          have hc02 := HX.cell 0 2 rfl rfl
          try simp only [List.getElem_toArray, List.getElem_cons_zero, List.getElem_cons_succ] at hc00 hc01 hc02
          exact bodyPost_ret (v := .tuple #[.agg #[.int .i64 0, .int .i64 0, .int .i64 0], .int .i64 3]) (by simp [results, Tryd.results16, go_sem, hc00, hc01, hc02]) rfl (show RetL w 0 0 0 3 _ _ from ⟨rfl, HX.below⟩)
        | _ => 
          have HA : Hid (∀ n, Lib.atoiAll (q ++ [y]) ≠ .ok n) := Lib.hid (by intro n h; first | (rw [hA] at h; cases h) | cases h)
          obtain ⟨rfl, rfl, rfl, rfl⟩ := hP.out.fail hR.out HA.out
          (try clear hA); clear hP hR
          go_wp2_with fail
          refine (atoi_bad _ HA (hE0.ext HX.below) hRl).mono ?_
          rintro e w4 ⟨n, N, rfl, hb⟩
          replace HX := HX.ext hb
          clear hb
          have hc10 := HX.cell 1 0 rfl rfl
          have hf10 := HX.free 1 0 rfl
          have hc11 := HX.cell 1 1 rfl rfl
          have hf11 := HX.free 1 1 rfl
          have hc12 := HX.cell 1 2 rfl rfl
          have hf12 := HX.free 1 2 rfl
          try simp only [List.getElem_toArray, List.getElem_cons_zero, List.getElem_cons_succ] at hc10 hf10 hc11 hf11 hc12 hf12
          go_upto_region 11 with fail
          clear hc10 hf10 hc11 hf11 hc12 hf12
          replace HX := HX.set1 1 rfl (by omega) (by intro k q hk hne; match k, hk with | 0, hk => (simp at hk; subst hk; simp at hne ⊢; try omega) | 1, hk => (simp at hk; subst hk; simp at hne ⊢; try omega) | k + 2, hk => simp at hk) 1 (.int .i64 n)
          generalize w4.setCell ⟨g1, 1, none⟩ (.int .i64 n) = W5 at *
          simp only [List.set_cons_zero, List.set_cons_succ, List.setIfInBounds_toArray] at HX
          have hc00 := HX.cell 0 0 rfl rfl
          have hf00 := HX.free 0 0 rfl
          have hc01 := HX.cell 0 1 rfl rfl
          have hf01 := HX.free 0 1 rfl
          have hc02 := HX.cell 0 2 rfl rfl
          have hf02 := HX.free 0 2 rfl
          try simp only [List.getElem_toArray, List.getElem_cons_zero, List.getElem_cons_succ] at hc00 hf00 hc01 hf01 hc02 hf02
          go_wp2
          clear hc00 hf00 hc01 hf01 hc02 hf02
          replace HX := HX.put3 0 rfl (by omega) (by intro k q hk hne; match k, hk with | 0, hk => (simp at hk; subst hk; simp at hne ⊢; try omega) | 1, hk => (simp at hk; subst hk; simp at hne ⊢; try omega) | k + 2, hk => simp at hk) (.int .i64 0) (.int .i64 0) (.int .i64 0)
          simp only [List.set_cons_zero, List.set_cons_succ] at HX
          have hc00 := HX.cell 0 0 rfl rfl
          have hc01 := HX.cell 0 1 rfl rfl
          have hc02 := HX.cell 0 2 rfl rfl
          try simp only [List.getElem_toArray, List.getElem_cons_zero, List.getElem_cons_succ] at hc00 hc01 hc02
          exact bodyPost_ret (v := .tuple #[.agg #[.int .i64 0, .int .i64 0, .int .i64 0], .int .i64 3]) (by simp [results, Tryd.results16, go_sem, hc00, hc01, hc02]) rfl (show RetL w 0 0 0 3 _ _ from ⟨rfl, HX.below⟩)
    · have hR : Hid (lrest (q ++ [y]) = (q ++ [y], 0)) := Lib.hid (lrest_none _ _ (by omega))
      have hRl : (q ++ [y]).length ≤ 1000000000 := by simp; omega
      go_upto_region 9 with fail
      clear hqs hiy
      cases hA : Lib.atoiAll (q ++ [y]) with
      | ok n =>
        have HA : Hid (Lib.atoiAll (q ++ [y]) = .ok n) := Lib.hid hA
        obtain ⟨T, hT⟩ := PT.ex (sideI x) n (0)
        have hfin := Lib.hid (hP.out.cand hR.out hA hT)
        have hTl := hT.len
        have hT2 := Lib.hid hT
        have hsT : (str T).size = T.length := str_size T
        clear hA hT hP hR
        go_wp2_with fail
        refine (atoi_ok _ HA hRl).mono ?_
        rintro e w4 ⟨rfl, hb⟩
        replace HX := HX.ext hb
        clear hb
        have hc10 := HX.cell 1 0 rfl rfl
        have hf10 := HX.free 1 0 rfl
        have hc11 := HX.cell 1 1 rfl rfl
        have hf11 := HX.free 1 1 rfl
        have hc12 := HX.cell 1 2 rfl rfl
        have hf12 := HX.free 1 2 rfl
        try simp only [List.getElem_toArray, List.getElem_cons_zero, List.getElem_cons_succ] at hc10 hf10 hc11 hf11 hc12 hf12
        go_upto_region 11 with fail
        clear hc10 hf10 hc11 hf11 hc12 hf12
        replace HX := HX.set1 1 rfl (by omega) (by intro k q hk hne; match k, hk with | 0, hk => (simp at hk; subst hk; simp at hne ⊢; try omega) | 1, hk => (simp at hk; subst hk; simp at hne ⊢; try omega) | k + 2, hk => simp at hk) 1 (.int .i64 n)
        generalize w4.setCell ⟨g1, 1, none⟩ (.int .i64 n) = W5 at *
        simp only [List.set_cons_zero, List.set_cons_succ, List.setIfInBounds_toArray] at HX
        have hc10 := HX.cell 1 0 rfl rfl
        have hc11 := HX.cell 1 1 rfl rfl
        have hc12 := HX.cell 1 2 rfl rfl
        try simp only [List.getElem_toArray, List.getElem_cons_zero, List.getElem_cons_succ] at hc10 hc11 hc12
        go_wp2_with fail
        refine (ltext_any _ (hE0.ext HX.below).tab hT2.out).mono ?_
        rintro e w6 ⟨rfl, hb⟩
        clear hc10 hc11 hc12
        replace HX := HX.ext hb
        clear hb
        rcases hfin.out with ⟨h1, rfl, rfl, rfl, rfl⟩ | ⟨h1, rfl, rfl, rfl, rfl⟩
        · have hs : ((str T).toList == (str (x :: (q ++ [y]))).toList) = true := str_eq (beq_iff_eq.2 h1)
          clear h1
          have hc00 := HX.cell 0 0 rfl rfl
          have hf00 := HX.free 0 0 rfl
          have hc01 := HX.cell 0 1 rfl rfl
          have hf01 := HX.free 0 1 rfl
          have hc02 := HX.cell 0 2 rfl rfl
          have hf02 := HX.free 0 2 rfl
          try simp only [List.getElem_toArray, List.getElem_cons_zero, List.getElem_cons_succ] at hc00 hf00 hc01 hf01 hc02 hf02
          have hc10 := HX.cell 1 0 rfl rfl
          have hc11 := HX.cell 1 1 rfl rfl
          have hc12 := HX.cell 1 2 rfl rfl
          try simp only [List.getElem_toArray, List.getElem_cons_zero, List.getElem_cons_succ] at hc10 hc11 hc12
          go_wp2
          clear hc00 hf00 hc01 hf01 hc02 hf02
          clear hc10 hc11 hc12
          replace HX := HX.put3 0 rfl (by omega) (by intro k q hk hne; match k, hk with | 0, hk => (simp at hk; subst hk; simp at hne ⊢; try omega) | 1, hk => (simp at hk; subst hk; simp at hne ⊢; try omega) | k + 2, hk => simp at hk) (.int .i64 (sideI x)) (.int .i64 b) (.int .i64 (0))
          simp only [List.set_cons_zero, List.set_cons_succ] at HX
          have hc00 := HX.cell 0 0 rfl rfl
          have hc01 := HX.cell 0 1 rfl rfl
          have hc02 := HX.cell 0 2 rfl rfl
          try simp only [List.getElem_toArray, List.getElem_cons_zero, List.getElem_cons_succ] at hc00 hc01 hc02
          exact bodyPost_ret (v := .tuple #[.agg #[.int .i64 (sideI x), .int .i64 b, .int .i64 (0)], .int .i64 0]) (by simp [results, Tryd.results16, go_sem, hc00, hc01, hc02]) rfl (show RetL w _ _ _ 0 _ _ from ⟨rfl, HX.below⟩)
        · have hs : ((str T).toList == (str (x :: (q ++ [y]))).toList) = false := str_eq (beq_eq_false_iff_ne.2 h1)
          clear h1
          have hc00 := HX.cell 0 0 rfl rfl
          have hf00 := HX.free 0 0 rfl
          have hc01 := HX.cell 0 1 rfl rfl
          have hf01 := HX.free 0 1 rfl
          have hc02 := HX.cell 0 2 rfl rfl
          have hf02 := HX.free 0 2 rfl
          try simp only [List.getElem_toArray, List.getElem_cons_zero, List.getElem_cons_succ] at hc00 hf00 hc01 hf01 hc02 hf02
          go_wp2
          clear hc00 hf00 hc01 hf01 hc02 hf02
          replace HX := HX.put3 0 rfl (by omega) (by intro k q hk hne; match k, hk with | 0, hk => (simp at hk; subst hk; simp at hne ⊢; try omega) | 1, hk => (simp at hk; subst hk; simp at hne ⊢; try omega) | k + 2, hk => simp at hk) (.int .i64 0) (.int .i64 0) (.int .i64 0)
          simp only [List.set_cons_zero, List.set_cons_succ] at HX
          have hc00 := HX.cell 0 0 rfl rfl
          have hc01 := HX.cell 0 1 rfl rfl
          have hc02 := HX.cell 0 2 rfl rfl
          try simp only [List.getElem_toArray, List.getElem_cons_zero, List.getElem_cons_succ] at hc00 hc01 hc02
          exact bodyPost_ret (v := .tuple #[.agg #[.int .i64 0, .int .i64 0, .int .i64 0], .int .i64 3]) (by simp [results, Tryd.results16, go_sem, hc00, hc01, hc02]) rfl (show RetL w 0 0 0 3 _ _ from ⟨rfl, HX.below⟩)
      | range => 
        have HA : Hid (∀ n, Lib.atoiAll (q ++ [y]) ≠ .ok n) := Lib.hid (by intro n h; first | (rw [hA] at h; cases h) | cases h)
        obtain ⟨rfl, rfl, rfl, rfl⟩ := hP.out.fail hR.out HA.out
        (try clear hA); clear hP hR
        go_wp2_with fail
        refine (atoi_bad _ HA (hE0.ext HX.below) hRl).mono ?_
        rintro e w4 ⟨n, N, rfl, hb⟩
        replace HX := HX.ext hb
        clear hb
        have hc10 := HX.cell 1 0 rfl rfl
        have hf10 := HX.free 1 0 rfl
        have hc11 := HX.cell 1 1 rfl rfl
        have hf11 := HX.free 1 1 rfl
        have hc12 := HX.cell 1 2 rfl rfl
        have hf12 := HX.free 1 2 rfl
        try simp only [List.getElem_toArray, List.getElem_cons_zero, List.getElem_cons_succ] at hc10 hf10 hc11 hf11 hc12 hf12
        go_upto_region 11 with fail
        clear hc10 hf10 hc11 hf11 hc12 hf12
        replace HX := HX.set1 1 rfl (by omega) (by intro k q hk hne; match k, hk with | 0, hk => (simp at hk; subst hk; simp at hne ⊢; try omega) | 1, hk => (simp at hk; subst hk; simp at hne ⊢; try omega) | k + 2, hk => simp at hk) 1 (.int .i64 n)
        generalize w4.setCell ⟨g1, 1, none⟩ (.int .i64 n) = W5 at *
        simp only [List.set_cons_zero, List.set_cons_succ, List.setIfInBounds_toArray] at HX
        have hc00 := HX.cell 0 0 rfl rfl
        have hf00 := HX.free 0 0 rfl
        have hc01 := HX.cell 0 1 rfl rfl
        have hf01 := HX.free 0 1 rfl
        have hc02 := HX.cell 0 2 rfl rfl
        have hf02 := HX.free 0 2 rfl
        try simp only [List.getElem_toArray, List.getElem_cons_zero, List.getElem_cons_succ] at hc00 hf00 hc01 hf01 hc02 hf02
        go_wp2
        clear hc00 hf00 hc01 hf01 hc02 hf02
        replace HX := HX.put3 0 rfl (by omega) (by intro k q hk hne; match k, hk with | 0, hk => (simp at hk; subst hk; simp at hne ⊢; try omega) | 1, hk => (simp at hk; subst hk; simp at hne ⊢; try omega) | k + 2, hk => simp at hk) (.int .i64 0) (.int .i64 0) (.int .i64 0)
        simp only [List.set_cons_zero, List.set_cons_succ] at HX
        have hc00 := HX.cell 0 0 rfl rfl
        have hc01 := HX.cell 0 1 rfl rfl
        have hc02 := HX.cell 0 2 rfl rfl
        try simp only [List.getElem_toArray, List.getElem_cons_zero, List.getElem_cons_succ] at hc00 hc01 hc02
        exact bodyPost_ret (v := .tuple #[.agg #[.int .i64 0, .int .i64 0, .int .i64 0], .int .i64 3]) (by simp [results, Tryd.results16, go_sem, hc00, hc01, hc02]) rfl (show RetL w 0 0 0 3 _ _ from ⟨rfl, HX.below⟩)
      | _ => 
        have HA : Hid (∀ n, Lib.atoiAll (q ++ [y]) ≠ .ok n) := Lib.hid (by intro n h; first | (rw [hA] at h; cases h) | cases h)
        obtain ⟨rfl, rfl, rfl, rfl⟩ := hP.out.fail hR.out HA.out
        (try clear hA); clear hP hR
        go_wp2_with fail
        refine (atoi_bad _ HA (hE0.ext HX.below) hRl).mono ?_
        rintro e w4 ⟨n, N, rfl, hb⟩
        replace HX := HX.ext hb
        clear hb
        have hc10 := HX.cell 1 0 rfl rfl
        have hf10 := HX.free 1 0 rfl
        have hc11 := HX.cell 1 1 rfl rfl
        have hf11 := HX.free 1 1 rfl
        have hc12 := HX.cell 1 2 rfl rfl
        have hf12 := HX.free 1 2 rfl
        try simp only [List.getElem_toArray, List.getElem_cons_zero, List.getElem_cons_succ] at hc10 hf10 hc11 hf11 hc12 hf12
        go_upto_region 11 with fail
        clear hc10 hf10 hc11 hf11 hc12 hf12
        replace HX := HX.set1 1 rfl (by omega) (by intro k q hk hne; match k, hk with | 0, hk => (simp at hk; subst hk; simp at hne ⊢; try omega) | 1, hk => (simp at hk; subst hk; simp at hne ⊢; try omega) | k + 2, hk => simp at hk) 1 (.int .i64 n)
        generalize w4.setCell ⟨g1, 1, none⟩ (.int .i64 n) = W5 at *
        simp only [List.set_cons_zero, List.set_cons_succ, List.setIfInBounds_toArray] at HX
        have hc00 := HX.cell 0 0 rfl rfl
        have hf00 := HX.free 0 0 rfl
        have hc01 := HX.cell 0 1 rfl rfl
        have hf01 := HX.free 0 1 rfl
        have hc02 := HX.cell 0 2 rfl rfl
        have hf02 := HX.free 0 2 rfl
        try simp only [List.getElem_toArray, List.getElem_cons_zero, List.getElem_cons_succ] at hc00 hf00 hc01 hf01 hc02 hf02
        go_wp2
        clear hc00 hf00 hc01 hf01 hc02 hf02
        replace HX := HX.put3 0 rfl (by omega) (by intro k q hk hne; match k, hk with | 0, hk => (simp at hk; subst hk; simp at hne ⊢; try omega) | 1, hk => (simp at hk; subst hk; simp at hne ⊢; try omega) | k + 2, hk => simp at hk) (.int .i64 0) (.int .i64 0) (.int .i64 0)
        simp only [List.set_cons_zero, List.set_cons_succ] at HX
        have hc00 := HX.cell 0 0 rfl rfl
        have hc01 := HX.cell 0 1 rfl rfl
        have hc02 := HX.cell 0 2 rfl rfl
        try simp only [List.getElem_toArray, List.getElem_cons_zero, List.getElem_cons_succ] at hc00 hc01 hc02
        exact bodyPost_ret (v := .tuple #[.agg #[.int .i64 0, .int .i64 0, .int .i64 0], .int .i64 3]) (by simp [results, Tryd.results16, go_sem, hc00, hc01, hc02]) rfl (show RetL w 0 0 0 3 _ _ from ⟨rfl, HX.below⟩)
end Go.Proofs.YtlnajhochpbgpaaDoor
