/- The statements' own helpers: few, awake. -/
import Derived.Test.YteleohgalknkiaaGreatDoorHown
import Derived.Test.YteleohgalknkiaaGreatDoorHq
import Derived.Test.YteleohgalknkiaaGreatDoorHops
import Derived.Test.YteleohgalknkiaaGreatDoorHtM
namespace Go.Proofs.YteleohgalknkiaaGreatDoor
open Go.RowKit Go.Proofs Go

theorem BL.front {w W : World} {L : List (Nat × Array Value × TypeId)} (h : BL w W L) (k : Nat) : BL w W (L.take k) :=
  ⟨h.below, fun i p hp => h.blk i p (by
    by_cases hi : i < k
    · rwa [List.getElem?_take_of_lt hi] at hp
    · rw [List.getElem?_eq_none (by simp; omega)] at hp; cases hp)⟩
/-- one coin more -/
def stepS (s : Int × Int) (k y : Int) : Int × Int := if s.1 = 0 ∨ s.2 ≤ y then (k, y) else s
def lateS (ts : List (Int × Int)) : List (Int × Int) → Int × Int → Option (Int × Int)
  | [], s => some s
  | x :: l, s => match valE ts x.1 with
    | none => none
    | some y => lateS ts l (stepS s x.1 y)
theorem lateS_none {ts l : List (Int × Int)} {j : Nat} {x s : Int × Int} (hx : l[j]? = some x) (hv : valE ts x.1 = none) : lateS ts (l.drop j) s = none := by
  obtain ⟨hj, rfl⟩ := List.getElem?_eq_some_iff.1 hx
  rw [← List.getElem_cons_drop hj, lateS, hv]
theorem lateS_some {ts l : List (Int × Int)} {j : Nat} {x s : Int × Int} {y : Int} (hx : l[j]? = some x) (hv : valE ts x.1 = some y) : lateS ts (l.drop j) s = lateS ts (l.drop (j + 1)) (stepS s x.1 y) := by
  obtain ⟨hj, rfl⟩ := List.getElem?_eq_some_iff.1 hx
  rw [← List.getElem_cons_drop hj, lateS, hv]
/-- what Latest returns -/
def LateIs (id : Int) (l : List (Int × Int)) (f t : Int) (ts : List (Int × Int)) (r err : Int) : Prop :=
  (¬ (HV id l f t ∧ Listed (-9999) 9999 ts) ∧ r = 0 ∧ err = 1) ∨
  (HV id l f t ∧ Listed (-9999) 9999 ts ∧ ((lateS ts l (0, 0) = none ∧ r = 0 ∧ err = 7) ∨ (∃ y, lateS ts l (0, 0) = some (r, y) ∧ err = 0)))
theorem LateIs.ex (id : Int) (l : List (Int × Int)) (f t : Int) (ts : List (Int × Int)) : ∃ r err, LateIs id l f t ts r err := by
  by_cases h : HV id l f t ∧ Listed (-9999) 9999 ts
  · cases hl : lateS ts l (0, 0) with
    | none => exact ⟨_, _, .inr ⟨h.1, h.2, .inl ⟨hl, rfl, rfl⟩⟩⟩
    | some s => obtain ⟨r, y⟩ := s; exact ⟨r, 0, .inr ⟨h.1, h.2, .inr ⟨y, hl, rfl⟩⟩⟩
  · exact ⟨0, 1, .inl ⟨h, rfl, rfl⟩⟩
def RetL (w : World) (r err : Int) (e : Ending) (w' : World) : Prop := e = .returned (.tuple #[.int .i64 r, .int .i64 err]) ∧ Below w.heap.size w w'
theorem listed_len {lo hi : Int} {l : List (Int × Int)} (h : Listed lo hi l) : l.length ≤ 99 := by
  have key : ∀ (i : Nat) (x : Int × Int), l[i]? = some x → (i : Int) + 1 ≤ x.1 := by
    intro i
    induction i with
    | zero => intro x hx; have := (h.at_ hx).1.1; omega
    | succ i ih =>
      intro x hx
      have hi := (List.getElem?_eq_some_iff.1 hx).1
      have h1 := ih _ (List.getElem?_eq_getElem (show i < l.length by omega))
      have h2 := (h (i + 1) x hx).2.2 i _ rfl (List.getElem?_eq_getElem (show i < l.length by omega))
      omega
  rcases Nat.lt_or_ge 99 l.length with h1 | h1
  · have h2 := key 99 _ (List.getElem?_eq_getElem h1)
    have h3 := (h.at_ (List.getElem?_eq_getElem h1)).1.2
    omega
  · exact h1
theorem valE_succ {ts : List (Int × Int)} {m : Nat} {x : Int × Int} (hx : ts[m]? = some x) (t : Int) : valE (ts.take (m + 1)) t = (valE (ts.take m) t).or (if x.1 = t then some x.2 else none) := by
  unfold valE
  rw [take_succ hx, List.find?_append]
  cases (ts.take m).find? fun x => decide (x.1 = t)
  · by_cases h : x.1 = t
    · simp [h]
    · simp [h]
  · rfl
theorem valE_once {lo hi : Int} {ts : List (Int × Int)} (h : Listed lo hi ts) {m : Nat} {x : Int × Int} (hx : ts[m]? = some x) : valE (ts.take m) x.1 = none := by
  refine val_no fun j y hj hy => ?_
  rw [List.length_take] at hj
  rw [List.getElem?_take_of_lt (by omega)] at hy
  have key : ∀ (d i : Nat) (u v : Int × Int), i + d + 1 = m → ts[i]? = some u → ts[m]? = some v → u.1 < v.1 := by
    intro d
    induction d with
    | zero => intro i u v hi hu hv; exact (h m v hv).2.2 i u (by omega) hu
    | succ d ih =>
      intro i u v hi hu hv
      have hl := (List.getElem?_eq_some_iff.1 hv).1
      have h1 := (h (i + 1) _ (List.getElem?_eq_getElem (show i + 1 < ts.length by omega))).2.2 i u rfl hu
      have h2 := ih (i + 1) _ v (by omega) (List.getElem?_eq_getElem (show i + 1 < ts.length by omega)) hv
      omega
  have := key (m - j - 1) j y x (by omega) hy hx
  omega
set_option maxRecDepth 100000 in
theorem hlate_bad {id f t : Int} (A A' : Option Addr) (c c' : Nat) (l ts : List (Int × Int)) (w : World) (HA : Es w A l) (HB : Es w A' ts) (hl : l.length ≤ 9223372036854775807) (hts : ts.length ≤ 9223372036854775807) (h : ¬ (HV id l f t ∧ Listed (-9999) 9999 ts)) :
    Calls Tryz.prog 78 #[.agg #[.int .i64 id, .slice A l.length c, .int .i64 f, .int .i64 t], .slice A' ts.length c'] w (RetL w 0 1) := by
  by_cases ha : HV id l f t
  · have hb0 : ¬ Listed (-9999) 9999 ts := fun hb => h ⟨ha, hb⟩
    have KA := yes ha
    have KB := no hb0
    clear h ha hb0
    go_enter Tryz.func78, Tryz.ntmps78
    go_wp2_with fail
    have HX := BL.one w #[.int .i64 id, .slice A l.length c, .int .i64 f, .int .i64 t] 26
    refine (hvalid_any (b := true) A c l _ (HA.ext HX.below) hl KA).mono ?_
    rintro e w1 ⟨rfl, hb⟩
    replace HX := HX.ext hb
    clear hb
    go_wp2_with fail
    refine (listed_any (b := false) A' c' ts _ (HB.ext HX.below) hts KB).mono ?_
    rintro e w2 ⟨rfl, hb⟩
    replace HX := HX.ext hb
    clear hb
    go_wp2
    go_ret2
    exact ⟨rfl, HX.below⟩
  · have KA := no ha
    clear h ha
    go_enter Tryz.func78, Tryz.ntmps78
    go_wp2_with fail
    have HX := BL.one w #[.int .i64 id, .slice A l.length c, .int .i64 f, .int .i64 t] 26
    refine (hvalid_any (b := false) A c l _ (HA.ext HX.below) hl KA).mono ?_
    rintro e w1 ⟨rfl, hb⟩
    replace HX := HX.ext hb
    clear hb
    go_wp2
    go_ret2
    exact ⟨rfl, HX.below⟩
set_option maxHeartbeats 2000000 in
set_option maxRecDepth 100000 in
theorem hlate_go {id f t r err : Int} (A A' : Option Addr) (c c' : Nat) (l ts : List (Int × Int)) (w : World) (HA : Es w A l) (HB : Es w A' ts) (hl : l.length ≤ 9223372036854775807) (hts : ts.length ≤ 9223372036854775807) (ha : HV id l f t) (hb : Listed (-9999) 9999 ts) (hR : Hid ((lateS ts l (0, 0) = none ∧ r = 0 ∧ err = 7) ∨ (∃ y, lateS ts l (0, 0) = some (r, y) ∧ err = 0))) :
    Calls Tryz.prog 78 #[.agg #[.int .i64 id, .slice A l.length c, .int .i64 f, .int .i64 t], .slice A' ts.length c'] w (RetL w r err) := by
  have KA := yes ha
  have KB := yes hb
  clear ha hb
  go_enter Tryz.func78, Tryz.ntmps78
  go_wp2_with fail
  have HX := BL.one w #[.int .i64 id, .slice A l.length c, .int .i64 f, .int .i64 t] 26
  refine (hvalid_any (b := true) A c l _ (HA.ext HX.below) hl KA).mono ?_
  rintro e w1 ⟨rfl, hb⟩
  replace HX := HX.ext hb
  clear hb
  go_wp2_with fail
  refine (listed_any (b := true) A' c' ts _ (HB.ext HX.below) hts KB).mono ?_
  rintro e w2 ⟨rfl, hb⟩
  replace HX := HX.ext hb
  clear hb
  have hc01 := HX.cell 0 1 rfl rfl
  try simp only [List.getElem_toArray, List.getElem_cons_zero, List.getElem_cons_succ] at hc01
  go_wp2
  clear hc01
  go_loopg [6, 7, 23] l.length (fun kk u v i wr => ∃ (j : Nat) (s : Int × Int), j + kk = l.length ∧ i = .int .i64 (j : Int) ∧ u = .int .i64 s.1 ∧ v = .int .i64 s.2 ∧ Hid (lateS ts (l.drop j) s = lateS ts l (0, 0)) ∧ BL w wr [(w.heap.size, #[.int .i64 id, .slice A l.length c, .int .i64 f, .int .i64 t], 26)])
  case atStart => exact ⟨0, (0, 0), by omega, rfl, rfl, rfl, Lib.hid (by rw [List.drop_zero]), HX⟩
  case round =>
    clear HX
    obtain ⟨j, s, hj, rfl, rfl, rfl, hS, HX⟩ := hrel
    by_cases hj0 : j < l.length
    · have hx := Lib.hid (List.getElem?_eq_getElem hj0)
      obtain ⟨ad, rfl, hbk, c0, c1⟩ := (HA.ext HX.below).at_ hx.out
      generalize l[j] = x at *
      obtain ⟨k, n⟩ := x
      simp only [] at c0 c1
      go_upto_region 7 with fail
      replace HX := HX.new #[.int .i64 k, .int .i64 n] 77
      simp only [List.cons_append, List.nil_append] at HX
      clear c0 c1 hbk
      generalize wr.alloc (.cells #[.int .i64 k, .int .i64 n] 77) = W7 at *
      generalize wr.heap.size = g7 at *
      have hc10 := HX.cell 1 0 rfl rfl
      have hc11 := HX.cell 1 1 rfl rfl
      try simp only [List.getElem_toArray, List.getElem_cons_zero, List.getElem_cons_succ] at hc10 hc11
      cases hv : valE ts k with
      | none =>
        have hN := lateS_none (s := s) hx.out hv
        rw [hS.out] at hN
        have hR2 : r = 0 ∧ err = 7 := by
          rcases hR.out with h | ⟨y, h, _⟩
          · exact h.2
          · rw [hN] at h; cases h
        obtain ⟨rfl, rfl⟩ := hR2
        have HV := Lib.hid hv
        clear hv hN
        go_wp2_with fail
        refine (value_none A' c' ts _ (HB.ext HX.below) hts HV).mono ?_
        rintro e w3 ⟨rfl, hb⟩
        replace HX := HX.ext hb
        go_wp2
        go_ret2
        exact ⟨rfl, HX.below⟩
      | some y =>
        have hS2 := Lib.hid ((lateS_some (s := s) hx.out hv).symm.trans hS.out)
        have HV := Lib.hid hv
        clear hv
        go_wp2_with fail
        refine (value_some A' c' ts _ (HB.ext HX.below) hts HV).mono ?_
        rintro e w3 ⟨rfl, hb⟩
        clear hc10 hc11
        replace HX := HX.ext hb
        clear hb
        have hc10 := HX.cell 1 0 rfl rfl
        have hc11 := HX.cell 1 1 rfl rfl
        try simp only [List.getElem_toArray, List.getElem_cons_zero, List.getElem_cons_succ] at hc10 hc11
        by_cases h0 : s.1 = 0
        · have h0b : (s.1 == 0) = true := beq_iff_eq.2 h0
          have hst := Lib.hid (show stepS s k y = (k, y) by rw [stepS, if_pos (.inl h0)])
          clear h0
          go_wp2
          go_roundg (l.length - (j + 1))
          case measure => omega
          case rel => exact ⟨j + 1, (k, y), by omega, by go_num, rfl, rfl, Lib.hid (by rw [← hS2.out, hst.out]), HX.front 1⟩
        · have h0b : (s.1 == 0) = false := beq_eq_false_iff_ne.2 h0
          by_cases h1 : s.2 ≤ y
          · have h1b : decide (s.2 ≤ y) = true := decide_eq_true h1
            have hst := Lib.hid (show stepS s k y = (k, y) by rw [stepS, if_pos (.inr h1)])
            clear h0
            go_wp2
            go_roundg (l.length - (j + 1))
            case measure => omega
            case rel => exact ⟨j + 1, (k, y), by omega, by go_num, rfl, rfl, Lib.hid (by rw [← hS2.out, hst.out]), HX.front 1⟩
          · have h1b : decide (s.2 ≤ y) = false := decide_eq_false h1
            have hst := Lib.hid (show stepS s k y = s by rw [stepS, if_neg (by omega)])
            clear h0
            go_wp2
            go_roundg (l.length - (j + 1))
            case measure => omega
            case rel => exact ⟨j + 1, s, by omega, by go_num, rfl, rfl, Lib.hid (by rw [← hS2.out, hst.out]), HX.front 1⟩
    · have hN := hS.out
      rw [List.drop_eq_nil_of_le (by omega), lateS] at hN
      have hR2 : s.1 = r ∧ err = 0 := by
        rcases hR.out with h | ⟨y, h, he⟩
        · rw [← hN] at h; cases h.1
        · rw [← hN] at h
          exact ⟨by rw [Option.some.inj h], he⟩
      obtain ⟨rfl, rfl⟩ := hR2
      clear hN
      go_wp2
      go_ret2
      exact ⟨rfl, HX.below⟩
theorem hlate_any {id f t r err : Int} (A A' : Option Addr) (c c' : Nat) (l ts : List (Int × Int)) (w : World) (HA : Es w A l) (HB : Es w A' ts) (hl : l.length ≤ 9223372036854775807) (hts : ts.length ≤ 9223372036854775807) (h : LateIs id l f t ts r err) :
    Calls Tryz.prog 78 #[.agg #[.int .i64 id, .slice A l.length c, .int .i64 f, .int .i64 t], .slice A' ts.length c'] w (RetL w r err) := by
  rcases h with ⟨h, rfl, rfl⟩ | ⟨ha, hb, h⟩
  · exact hlate_bad A A' c c' l ts w HA HB hl hts h
  · exact hlate_go A A' c c' l ts w HA HB hl hts ha hb (Lib.hid h)
end Go.Proofs.YteleohgalknkiaaGreatDoor

namespace Go.Proofs.YteleohgalknkiaaGreatDoor
open Go.RowKit Go.Proofs Go

/-- the number that a share is -/
def shq (l : List (Int × Int)) (s : Int) : Rat := rv (!(decide (numE l s < 0) == decide (totE l < 0))) (numE l s).natAbs (totE l).natAbs
theorem shq_sz {id f t : Int} {l : List (Int × Int)} (h : HV id l f t) (s : Int) : Sz (shq l s) 1 := by
  have h1 := h.num l.length s
  have h2 := h.tot l.length
  rw [List.take_length] at h1 h2
  exact sz_lit _ (by omega) (by omega)
set_option maxRecDepth 100000 in
theorem hshare_no {id f t s : Int} (A : Option Addr) (c : Nat) (l : List (Int × Int)) (w : World) (H : Es w A l) (hl : l.length ≤ 9223372036854775807) (hv : ¬ HV id l f t) :
    Calls Tryz.prog 77 #[.agg #[.int .i64 id, .slice A l.length c, .int .i64 f, .int .i64 t], .int .i64 s] w (RetZE w 1) := by
  have HV1 := no hv
  clear hv
  go_enter Tryz.func77, Tryz.ntmps77
  go_wp2_with fail
  have HX := BL.two w #[.int .i64 id, .slice A l.length c, .int .i64 f, .int .i64 t] #[.bool false, .slice none 0 0, .slice none 0 0] 26 37
  replace H := H.ext HX.below
  refine (hvalid_any (b := false) A c l _ H hl HV1).mono ?_
  rintro e w1 ⟨rfl, hb⟩
  replace HX := HX.ext hb
  replace H := H.ext hb
  clear hb
  have hc10 := HX.cell 1 0 rfl rfl
  have hf10 := HX.free 1 0 rfl
  have hc11 := HX.cell 1 1 rfl rfl
  have hf11 := HX.free 1 1 rfl
  have hc12 := HX.cell 1 2 rfl rfl
  have hf12 := HX.free 1 2 rfl
  try simp only [List.getElem_toArray, List.getElem_cons_zero, List.getElem_cons_succ] at hc10 hf10 hc11 hf11 hc12 hf12
  go_wp2
  clear hc10 hf10 hc11 hf11 hc12 hf12
  replace HX := HX.put3 1 rfl (by omega) (by intro k q hk hne; match k, hk with | 0, hk => (simp at hk; subst hk; simp at hne ⊢; try omega) | 1, hk => (simp at hk; subst hk; simp at hne ⊢; try omega) | k + 2, hk => simp at hk) (.bool false) (.slice none 0 0) (.slice none 0 0)
  simp only [List.set_cons_zero, List.set_cons_succ] at HX
  have hc10 := HX.cell 1 0 rfl rfl
  have hc11 := HX.cell 1 1 rfl rfl
  have hc12 := HX.cell 1 2 rfl rfl
  try simp only [List.getElem_toArray, List.getElem_cons_zero, List.getElem_cons_succ] at hc10 hc11 hc12
  exact bodyPost_ret (v := .tuple #[.agg #[.bool false, .slice none 0 0, .slice none 0 0], .int .i64 1]) (by simp [results, Tryz.results77, go_sem, hc10, hc11, hc12]) rfl ⟨rfl, HX.below⟩
set_option maxHeartbeats 2000000 in
set_option maxRecDepth 100000 in
theorem hshare_yes {id f t s : Int} {q : Rat} (A : Option Addr) (c : Nat) (l : List (Int × Int)) (w : World) (H : Es w A l) (hl : l.length ≤ 9223372036854775807) (hv : HV id l f t) (hq : Hid (shq l s = q)) :
    Calls Tryz.prog 77 #[.agg #[.int .i64 id, .slice A l.length c, .int .i64 f, .int .i64 t], .int .i64 s] w (RetGE w q 1) := by
  have HV1 := yes hv
  have NN : NumIs id l f t s (numE l s) := ⟨fun _ => rfl, fun h => absurd hv h⟩
  have NT : TotIs id l f t (totE l) := ⟨fun _ => rfl, fun h => absurd hv h⟩
  have hSz : Sz q 1 := hq.out ▸ shq_sz hv s
  obtain ⟨b1, b2⟩ := NN.bd
  obtain ⟨b3, b4⟩ := NT.bd
  have HQ : Hid (rv (!(decide (numE l s < 0) == decide (totE l < 0))) (numE l s).natAbs (totE l).natAbs = q) := hq
  clear hv hq
  generalize numE l s = n at *
  generalize totE l = m at *
  go_enter Tryz.func77, Tryz.ntmps77
  go_wp2_with fail
  have HX := BL.two w #[.int .i64 id, .slice A l.length c, .int .i64 f, .int .i64 t] #[.bool false, .slice none 0 0, .slice none 0 0] 26 37
  replace H := H.ext HX.below
  refine (hvalid_any (b := true) A c l _ H hl HV1).mono ?_
  rintro e w1 ⟨rfl, hb⟩
  replace HX := HX.ext hb
  replace H := H.ext hb
  clear hb
  go_upto_region 3 with fail
  have held : ∀ {W' : World} {u : Array Value}, BL w W' [(w.heap.size, #[.int .i64 id, .slice A l.length c, .int .i64 f, .int .i64 t], 26), (w.heap.size + 1, u, 37)] → W'.cell? ⟨w.heap.size, 0, none⟩ = some (.int .i64 id) ∧ W'.cell? ⟨w.heap.size, 1, none⟩ = some (.slice A l.length c) ∧ W'.cell? ⟨w.heap.size, 2, none⟩ = some (.int .i64 f) ∧ W'.cell? ⟨w.heap.size, 3, none⟩ = some (.int .i64 t) := fun h => ⟨h.cell 0 0 rfl rfl, h.cell 0 1 rfl rfl, h.cell 0 2 rfl rfl, h.cell 0 3 rfl rfl⟩
  replace HX := HX.ext (drew_ext _)
  replace H := H.ext (drew_ext _)
  go_region_held3 (fun W' => W'.cell? ⟨w.heap.size, 0, none⟩ = some (.int .i64 id) ∧ W'.cell? ⟨w.heap.size, 1, none⟩ = some (.slice A l.length c) ∧ W'.cell? ⟨w.heap.size, 2, none⟩ = some (.int .i64 f) ∧ W'.cell? ⟨w.heap.size, 3, none⟩ = some (.int .i64 t))
    (first | exact held HX | exact held (HX.put3 1 rfl (by omega) (by intro k q hk hne; match k, hk with | 0, hk => (simp at hk; subst hk; simp at hne ⊢; try omega) | 1, hk => (simp at hk; subst hk; simp at hne ⊢; try omega) | k + 2, hk => simp at hk) _ _ _))
    (first
      | (go_at_call 63; refine (hnumber_any A c l _ H hl NN).mono ?_; rintro e w3 ⟨rfl, hb⟩; replace HX := HX.ext hb; replace H := H.ext hb; clear hb)
      | (go_at_call 21; refine (htotal_any A c l _ H hl NT).mono ?_; rintro e w4 ⟨rfl, hb⟩; replace HX := HX.ext hb; replace H := H.ext hb; clear hb)
      | (go_at_call 24; refine (fof_h HQ hSz (by omega) (by omega) (by omega) (by omega)).mono ?_; rintro e w5 ⟨A5, c5, B5, d5, rfl, F5, hb⟩; replace HX := HX.ext hb; clear hb; have hc10 := HX.cell 1 0 rfl rfl; have hf10 := HX.free 1 0 rfl; have hc11 := HX.cell 1 1 rfl rfl; have hf11 := HX.free 1 1 rfl; have hc12 := HX.cell 1 2 rfl rfl; have hf12 := HX.free 1 2 rfl; (try simp only [List.getElem_toArray, List.getElem_cons_zero, List.getElem_cons_succ] at hc10 hf10 hc11 hf11 hc12 hf12)))
  all_goals (
    clear held hc10 hc11 hc12 hf10 hf11 hf12
    have hk := HX.keep3 1 rfl rfl rfl rfl (by omega) (.bool (sg q)) (.slice A5 (dig (nu q)).length c5) (.slice B5 (dig q.den).length d5)
    replace HX := HX.put3 1 rfl (by omega) (by intro k q hk hne; match k, hk with | 0, hk => (simp at hk; subst hk; simp at hne ⊢; try omega) | 1, hk => (simp at hk; subst hk; simp at hne ⊢; try omega) | k + 2, hk => simp at hk) (.bool (sg q)) (.slice A5 (dig (nu q)).length c5) (.slice B5 (dig q.den).length d5)
    replace F5 := F5.stay hk
    clear hk
    simp only [List.set_cons_zero, List.set_cons_succ] at HX
    have hc10 := HX.cell 1 0 rfl rfl
    have hc11 := HX.cell 1 1 rfl rfl
    have hc12 := HX.cell 1 2 rfl rfl
    try simp only [List.getElem_toArray, List.getElem_cons_zero, List.getElem_cons_succ] at hc10 hc11 hc12
    go_wp2
    exact bodyPost_ret (v := .tuple #[.agg #[.bool (sg q), .slice A5 (dig (nu q)).length c5, .slice B5 (dig q.den).length d5], .int .i64 0]) (by simp [results, Tryz.results77, go_sem, hc10, hc11, hc12]) rfl ⟨A5, c5, B5, d5, rfl, F5, HX.below⟩)
end Go.Proofs.YteleohgalknkiaaGreatDoor

namespace Go.Proofs.YteleohgalknkiaaGreatDoor
open Go.RowKit Go.Proofs Go

set_option maxHeartbeats 1000000 in
set_option maxRecDepth 100000 in
theorem bentries_any {b : Bool} (A A' : Option Addr) (c c' : Nat) (l m : List (Int × Int)) (w : World) (H : Es w A l) (H' : Es w A' m) (_ : l.length ≤ 9223372036854775807) (hm : m.length ≤ 9223372036854775807) (hb : Tells b (l = m)) :
    Calls Tryz.prog 87 #[.slice A l.length c, .slice A' m.length c'] w (RetB w b) := by
  by_cases hlen : l.length = m.length
  · have hlenb : ((l.length : Int) != (m.length : Int)) = false := by rw [bne_eq_false_iff_eq]; omega
    have HL := Lib.hid hlen
    clear hlen
    go_enter Tryz.func87, Tryz.ntmps87
    go_wp2
    go_loopg [5] l.length (fun k i wr => ∃ j : Nat, j + k = l.length ∧ i = .int .i64 (j : Int) ∧ Hid (∀ i, i < j → l[i]? = m[i]?) ∧ Below w.heap.size w wr)
    case atStart => exact ⟨0, by omega, rfl, Lib.hid (fun i h => absurd h (by omega)), Below.refl _ _⟩
    case round =>
      obtain ⟨j, hj, rfl, hok, hbw⟩ := hrel
      by_cases hj0 : j < l.length
      · have hj1 : j < m.length := by have := HL.out; omega
        have hx := Lib.hid (List.getElem?_eq_getElem hj0)
        have hy := Lib.hid (List.getElem?_eq_getElem hj1)
        obtain ⟨ad, rfl, hbk, c0, c1⟩ := (H.ext hbw).at_ hx.out
        obtain ⟨ad2, rfl, hbk2, p0, p1⟩ := (H'.ext hbw).at_ hy.out
        generalize l[j] = x at *
        generalize m[j] = y at *
        obtain ⟨k, v⟩ := x
        obtain ⟨k', v'⟩ := y
        simp only [] at c0 c1 p0 p1
        by_cases hxy : k = k' ∧ v = v'
        · obtain ⟨rfl, rfl⟩ := hxy
          have hnx := Lib.hid (show ∀ i, i < j + 1 → l[i]? = m[i]? from fun i hi => by
            by_cases hij : i < j
            · exact hok.out i hij
            · obtain rfl : i = j := by omega
              rw [hx.out, hy.out])
          go_upto_region 6 with fail
          go_quiet (fail)
          go_wp2
          go_roundg (l.length - (j + 1))
          case measure => omega
          case rel => exact ⟨j + 1, by omega, by go_num, hnx, drew_below hbw _⟩
        · obtain rfl : b = false := hb.f fun h => by
            subst h
            have := hx.out.symm.trans hy.out
            simp at this
            exact hxy this
          have hd : (k == k') = false ∨ (v == v') = false := by
            by_cases h1 : k = k'
            · right; rw [beq_eq_false_iff_ne]; exact fun h2 => hxy ⟨h1, h2⟩
            · left; rw [beq_eq_false_iff_ne]; exact h1
          clear hxy
          rcases hd with hd | hd
          · go_upto_region 6 with fail
            go_quiet (fail)
            go_wp2
            go_ret
            exact ⟨rfl, drew_below hbw _⟩
          · cases hkk : (k == k')
            · go_upto_region 6 with fail
              go_quiet (fail)
              go_wp2
              go_ret
              exact ⟨rfl, drew_below hbw _⟩
            · go_upto_region 6 with fail
              go_quiet (fail)
              go_wp2
              go_ret
              exact ⟨rfl, drew_below hbw _⟩
      · obtain rfl : b = true := hb.t (List.ext_getElem? fun i => by
          by_cases hi : i < j
          · exact hok.out i hi
          · rw [List.getElem?_eq_none (by omega), List.getElem?_eq_none (by have := HL.out; omega)])
        go_wp2
        go_ret
        exact ⟨rfl, hbw⟩
  · have hlenb : ((l.length : Int) != (m.length : Int)) = true := by rw [bne_iff_ne]; omega
    obtain rfl : b = false := hb.f fun h => hlen (by rw [h])
    clear hlen
    go_enter Tryz.func87, Tryz.ntmps87
    go_wp2
    go_ret
    exact ⟨rfl, Below.refl _ _⟩
/-- the same hoard -/
def SameH (ia : Int) (l : List (Int × Int)) (fa ta ib : Int) (m : List (Int × Int)) (fb tb : Int) : Prop := ia = ib ∧ (fa = fb ∧ ta = tb) ∧ l = m
set_option maxHeartbeats 1000000 in
set_option maxRecDepth 100000 in
theorem bhoards_any {ia fa ta ib fb tb : Int} {b : Bool} (A A' : Option Addr) (c c' : Nat) (l m : List (Int × Int)) (w : World) (H : Es w A l) (H' : Es w A' m) (hl : l.length ≤ 9223372036854775807) (hm : m.length ≤ 9223372036854775807) (hb : Tells b (SameH ia l fa ta ib m fb tb)) :
    Calls Tryz.prog 29 #[.agg #[.int .i64 ia, .slice A l.length c, .int .i64 fa, .int .i64 ta], .agg #[.int .i64 ib, .slice A' m.length c', .int .i64 fb, .int .i64 tb]] w (RetB w b) := by
  by_cases h1 : ia = ib
  · have h1b : (ia == ib) = true := beq_iff_eq.2 h1
    by_cases h2 : fa = fb ∧ ta = tb
    · obtain ⟨rfl, rfl⟩ := h2
      have hb3 : Tells b (l = m) := by
        cases b
        · exact no fun h => by have := hb.2 ⟨h1, ⟨rfl, rfl⟩, h⟩; cases this
        · exact yes (hb.1 rfl).2.2
      clear h1 hb
      go_enter Tryz.func29, Tryz.ntmps29
      have HX := BL.two w #[.int .i64 ia, .slice A l.length c, .int .i64 fa, .int .i64 ta] #[.int .i64 ib, .slice A' m.length c', .int .i64 fa, .int .i64 ta] 26 26
      go_wp2_with fail
      refine (bentries_any A A' c c' l m _ (H.ext HX.below) (H'.ext HX.below) hl hm hb3).mono ?_
      rintro e w1 ⟨rfl, hb⟩
      replace HX := HX.ext hb
      go_wp2
      go_ret
      exact ⟨by first | rfl | simp, HX.below⟩
    · obtain rfl : b = false := hb.f fun h => h2 h.2.1
      have hd : (fa == fb) = false ∨ (ta == tb) = false := by
        by_cases h1 : fa = fb
        · right; rw [beq_eq_false_iff_ne]; exact fun h3 => h2 ⟨h1, h3⟩
        · left; rw [beq_eq_false_iff_ne]; exact h1
      clear h1 h2 hb
      rcases hd with hd | hd
      · go_enter Tryz.func29, Tryz.ntmps29
        have HX := BL.two w #[.int .i64 ia, .slice A l.length c, .int .i64 fa, .int .i64 ta] #[.int .i64 ib, .slice A' m.length c', .int .i64 fb, .int .i64 tb] 26 26
        go_wp2
        go_ret
        exact ⟨by first | rfl | simp [hd], HX.below⟩
      · go_enter Tryz.func29, Tryz.ntmps29
        have HX := BL.two w #[.int .i64 ia, .slice A l.length c, .int .i64 fa, .int .i64 ta] #[.int .i64 ib, .slice A' m.length c', .int .i64 fb, .int .i64 tb] 26 26
        go_wp2
        go_ret
        exact ⟨by first | rfl | simp [hd], HX.below⟩
  · obtain rfl : b = false := hb.f fun h => h1 h.1
    have h1b : (ia == ib) = false := beq_eq_false_iff_ne.2 h1
    clear h1 hb
    go_enter Tryz.func29, Tryz.ntmps29
    have HX := BL.two w #[.int .i64 ia, .slice A l.length c, .int .i64 fa, .int .i64 ta] #[.int .i64 ib, .slice A' m.length c', .int .i64 fb, .int .i64 tb] 26 26
    go_wp2
    go_ret
    exact ⟨by first | rfl | simp, HX.below⟩
end Go.Proofs.YteleohgalknkiaaGreatDoor

namespace Go.Proofs.YteleohgalknkiaaGreatDoor
open Go.RowKit Go.Proofs Go

/-- a hoard's cells -/
structure HE where
  id : Int
  A : Option Addr
  n : Nat
  c : Nat
  f : Int
  t : Int
def HE.cells (x : HE) : List Value := [.int .i64 x.id, .slice x.A x.n x.c, .int .i64 x.f, .int .i64 x.t]
def HFS (w : World) (A : Option Addr) (hs : List HE) : Prop :=
  0 < hs.length → ∃ ad, A = some ad ∧ ad.block < w.heap.size ∧ ∀ i x, hs[i]? = some x → w.cell? ⟨(ad.add (i * 4)).block, (ad.add (i * 4)).off + 1, none⟩ = some (.slice x.A x.n x.c)
theorem HE.flat_at : ∀ (hs : List HE) (i j : Nat) (x : HE), hs[i]? = some x → j < 4 → (hs.flatMap HE.cells)[i * 4 + j]? = x.cells[j]?
  | [], i, j, x, h, _ => by simp at h
  | y :: hs, 0, j, x, h, hj => by
    simp at h; subst h
    rw [List.flatMap_cons, List.getElem?_append_left (by simp [HE.cells]; omega), Nat.zero_mul, Nat.zero_add]
  | y :: hs, i + 1, j, x, h, hj => by
    rw [List.flatMap_cons, List.getElem?_append_right (by simp [HE.cells]; omega)]
    rw [show (i + 1) * 4 + j - y.cells.length = i * 4 + j from by simp [HE.cells]; omega]
    exact HE.flat_at hs i j x (by simpa using h) hj
theorem HFS.lit (W : World) (T : TypeId) (hs : List HE) (cs : Array Value) (hcs : cs.toList = hs.flatMap HE.cells) : HFS (W.alloc (.cells cs T)) (some ⟨W.heap.size, 0, none⟩) hs := by
  intro _
  refine ⟨_, rfl, by simp, fun i x hx => ?_⟩
  rw [Addr.add_lit, Nat.zero_add]
  show (W.alloc (.cells cs T)).cell? ⟨W.heap.size, i * 4 + 1, none⟩ = _
  rw [World.cell?_alloc_at _ _ _ _ rfl, ← Array.getElem?_toList, hcs]
  exact HE.flat_at hs i 1 x hx (by omega)
def fewH (hs : List HE) : Bool := hs.all fun x => decide (x.n ≤ 40)
theorem listed2 {lo hi a b c d : Int} (h1 : 1 ≤ a) (h2 : a < c) (h3 : c ≤ 99) (h4 : lo ≤ b ∧ b ≤ hi) (h5 : lo ≤ d ∧ d ≤ hi) : Listed lo hi [(a, b), (c, d)] := by
  intro i x hx
  match i, hx with
  | 0, hx => simp at hx; subst hx; exact ⟨by omega, h4, fun j y h => absurd h (by omega)⟩
  | 1, hx =>
    simp at hx; subst hx
    refine ⟨by omega, h5, fun j y hj hy => ?_⟩
    obtain rfl : j = 0 := by omega
    simp at hy; subst hy; exact h2
  | i + 2, hx => simp at hx
theorem Es.lit2 (W : World) (a b c d : Int) : Es (W.alloc (.cells #[.int .i64 a, .int .i64 b, .int .i64 c, .int .i64 d] 77)) (some ⟨W.heap.size, 0, none⟩) [(a, b), (c, d)] := by
  intro _
  refine ⟨_, rfl, by simp, fun i x hx => ?_⟩
  rw [Addr.add_lit, Nat.zero_add]
  match i, hx with
  | 0, hx => simp at hx; subst hx; exact ⟨al_at rfl _ rfl, al_at rfl _ rfl⟩
  | 1, hx => simp at hx; subst hx; exact ⟨al_at rfl _ rfl, al_at rfl _ rfl⟩
  | i + 2, hx => simp at hx
theorem hv0 : HV 3 [(4, 12), (7, 1)] (-43) (-30) := ⟨by omega, by simp, listed2 (by omega) (by omega) (by omega) (by omega) (by omega), by unfold YV; omega⟩
theorem late0 : LateIs 3 [(4, 12), (7, 1)] (-43) (-30) [(4, -60), (7, -60)] 7 0 :=
  .inr ⟨hv0, listed2 (by omega) (by omega) (by omega) (by omega) (by omega), .inr ⟨-60, by decide +kernel, rfl⟩⟩
theorem text0 : (hoardText 3 [(4, 12), (7, 1)] (-43) (-30) == [72, 51, 58, 32, 52, 120, 49, 50, 32, 55, 120, 49, 59, 32, 52, 52, 45, 51, 49, 32, 66, 67]) = true := by decide +kernel
theorem shq0 : shq [(4, 12), (7, 1)] 7 = rv false 1 13 := rfl
theorem ftx0 : fracText (rv false 1 13) = [49, 47, 49, 51] := lit_text (s := false) (a := 1) (b := 13) rfl (by omega) (by omega) (by decide +kernel)
set_option maxHeartbeats 2000000 in
set_option maxRecDepth 100000 in
theorem hawake_any (w : World) (hT : Tab w) :
    Calls Tryz.prog 26 #[] w (RetB w true) := by
  obtain ⟨L, hL⟩ : ∃ L, hoardText 3 [(4, 12), (7, 1)] (-43) (-30) = L := ⟨_, rfl⟩
  have ht0 := text0
  rw [hL] at ht0
  have ht1 : ((str L).toList == [72, 51, 58, 32, 52, 120, 49, 50, 32, 55, 120, 49, 59, 32, 52, 52, 45, 51, 49, 32, 66, 67]) = true := by rw [str_toList]; exact ht0
  have HL := Lib.hid hL
  clear hL ht0
  obtain ⟨q, hq⟩ : ∃ q, rv false 1 13 = q := ⟨_, rfl⟩
  have HQ : Hid (shq [(4, 12), (7, 1)] 7 = q) := Lib.hid (by rw [shq0, hq])
  have hft := ftx0
  rw [hq] at hft
  obtain ⟨M, hM⟩ : ∃ M, fracText q = M := ⟨_, rfl⟩
  rw [hM] at hft
  have hm1 : ((str M).toList == [49, 47, 49, 51]) = true := by rw [str_toList, hft]; rfl
  have HM := Lib.hid hM
  have NT : TotIs 3 [(4, 12), (7, 1)] (-43) (-30) 13 := ⟨fun _ => rfl, fun h => absurd hv0 h⟩
  clear hq hft hM
  have HX := (BL.nil w).new #[.int .i64 4, .int .i64 12, .int .i64 7, .int .i64 1] 77
  have H := Es.lit2 w 4 12 7 1
  replace HX := HX.new #[.int .i64 3, .slice (some ⟨w.heap.size, 0, none⟩) 2 2, .int .i64 (-43), .int .i64 (-30)] 26
  replace H := H.ext (below_alloc _ (.cells #[.int .i64 3, .slice (some ⟨w.heap.size, 0, none⟩) 2 2, .int .i64 (-43), .int .i64 (-30)] 26))
  simp only [List.cons_append, List.nil_append] at HX
  go_enter Tryz.func26, Tryz.ntmps26
  go_upto_region 2 with fail
  rw [show (w.alloc (.cells #[.int .i64 4, .int .i64 12, .int .i64 7, .int .i64 1] 77)).heap.size = w.heap.size + 1 from by simp] at HX
  replace hT := hT.ext HX.below
  generalize (w.alloc (.cells #[.int .i64 4, .int .i64 12, .int .i64 7, .int .i64 1] 77)).alloc (.cells #[.int .i64 3, .slice (some ⟨w.heap.size, 0, none⟩) 2 2, .int .i64 (-43), .int .i64 (-30)] 26) = W2 at *
  have hc10 := HX.cell 1 0 rfl rfl
  have hc11 := HX.cell 1 1 rfl rfl
  have hc12 := HX.cell 1 2 rfl rfl
  have hc13 := HX.cell 1 3 rfl rfl
  try simp only [List.getElem_toArray, List.getElem_cons_zero, List.getElem_cons_succ] at hc10 hc11 hc12 hc13
  go_wp2_with fail
  refine (hshare_yes _ 2 [(4, 12), (7, 1)] _ H (by simp) hv0 HQ).mono ?_
  rintro e w3 ⟨A3, c3, B3, d3, rfl, F3, hb⟩
  clear hc10 hc11 hc12 hc13
  replace HX := HX.ext hb
  replace H := H.ext hb
  replace hT := hT.ext hb
  clear hb
  go_upto_region 3 with fail
  have hb := below_alloc w3 (.cells #[.bool (sg q), .slice A3 (dig (nu q)).length c3, .slice B3 (dig q.den).length d3] 37)
  replace HX := HX.new #[.bool (sg q), .slice A3 (dig (nu q)).length c3, .slice B3 (dig q.den).length d3] 37
  simp only [List.cons_append, List.nil_append] at HX
  replace H := H.ext hb
  replace hT := hT.ext hb
  replace F3 := F3.ext hb
  clear hb
  generalize w3.alloc (.cells #[.bool (sg q), .slice A3 (dig (nu q)).length c3, .slice B3 (dig q.den).length d3] 37) = W3 at *
  generalize w3.heap.size = g3 at *
  have hc10 := HX.cell 1 0 rfl rfl
  have hc11 := HX.cell 1 1 rfl rfl
  have hc12 := HX.cell 1 2 rfl rfl
  have hc13 := HX.cell 1 3 rfl rfl
  try simp only [List.getElem_toArray, List.getElem_cons_zero, List.getElem_cons_succ] at hc10 hc11 hc12 hc13
  go_wp2_with fail
  have hb := below_alloc W3 (.cells #[.int .i64 4, .int .i64 (-60), .int .i64 7, .int .i64 (-60)] 77)
  refine (hlate_any _ _ 2 2 [(4, 12), (7, 1)] [(4, -60), (7, -60)] _ (H.ext hb) (Es.lit2 W3 4 (-60) 7 (-60)) (by simp) (by simp) late0).mono ?_
  rintro e w4 ⟨rfl, hb4⟩
  clear hc10 hc11 hc12 hc13
  replace hb := bel_trans hb hb4
  clear hb4
  replace HX := HX.ext hb
  replace H := H.ext hb
  replace hT := hT.ext hb
  replace F3 := F3.ext hb
  clear hb
  have hc10 := HX.cell 1 0 rfl rfl
  have hc11 := HX.cell 1 1 rfl rfl
  have hc12 := HX.cell 1 2 rfl rfl
  have hc13 := HX.cell 1 3 rfl rfl
  try simp only [List.getElem_toArray, List.getElem_cons_zero, List.getElem_cons_succ] at hc10 hc11 hc12 hc13
  go_wp2_with fail
  refine (htext_any _ 2 [(4, 12), (7, 1)] _ H (by simp) hv0 HL hT).mono ?_
  rintro e w5 ⟨rfl, hb⟩
  clear hc10 hc11 hc12 hc13
  replace HX := HX.ext hb
  replace H := H.ext hb
  replace hT := hT.ext hb
  replace F3 := F3.ext hb
  clear hb
  have hc10 := HX.cell 1 0 rfl rfl
  have hc11 := HX.cell 1 1 rfl rfl
  have hc12 := HX.cell 1 2 rfl rfl
  have hc13 := HX.cell 1 3 rfl rfl
  try simp only [List.getElem_toArray, List.getElem_cons_zero, List.getElem_cons_succ] at hc10 hc11 hc12 hc13
  go_wp2_with fail
  refine (htotal_any _ 2 [(4, 12), (7, 1)] _ H (by simp) NT).mono ?_
  rintro e w6 ⟨rfl, hb⟩
  clear hc10 hc11 hc12 hc13
  replace HX := HX.ext hb
  replace hT := hT.ext hb
  replace F3 := F3.ext hb
  clear hb H
  have hc20 := HX.cell 2 0 rfl rfl
  have hc21 := HX.cell 2 1 rfl rfl
  have hc22 := HX.cell 2 2 rfl rfl
  try simp only [List.getElem_toArray, List.getElem_cons_zero, List.getElem_cons_succ] at hc20 hc21 hc22
  go_wp2_with fail
  refine (ftext_any _ F3.fr (by omega) hT).mono ?_
  rw [HM.out]
  rintro e w7 ⟨rfl, hb⟩
  replace HX := HX.ext hb
  go_wp2
  go_ret
  exact ⟨by first | rfl | simp, HX.below⟩
end Go.Proofs.YteleohgalknkiaaGreatDoor
