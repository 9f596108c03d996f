/- The types of both of two hoards; lists of numbers. -/
import Derived.Test.YtajddhkepbnilaaDoorHown
namespace Go.Proofs.YtajddhkepbnilaaDoor
open Go.RowKit Go.Proofs Go

/-- ascending lists with the same members are the same -/
theorem asc_ext : ∀ {l m : List Int}, l.Pairwise (· < ·) → m.Pairwise (· < ·) → (∀ x, x ∈ l ↔ x ∈ m) → l = m
  | [], [], _, _, _ => rfl
  | [], y :: m, _, _, h => by have := (h y).2 List.mem_cons_self; cases this
  | x :: l, [], _, _, h => by have := (h x).1 List.mem_cons_self; cases this
  | x :: l, y :: m, hl, hm, h => by
    rw [List.pairwise_cons] at hl hm
    have hxy : x = y := by
      rcases List.mem_cons.1 ((h x).1 List.mem_cons_self) with e | e
      · exact e
      · rcases List.mem_cons.1 ((h y).2 List.mem_cons_self) with e2 | e2
        · exact e2.symm
        · have := hm.1 x e; have := hl.1 y e2; omega
    subst hxy
    rw [asc_ext hl.2 hm.2 fun z => ?_]
    constructor
    · intro hz
      have := hl.1 z hz
      rcases List.mem_cons.1 ((h z).1 (List.mem_cons_of_mem _ hz)) with e | e
      · omega
      · exact e
    · intro hz
      have := hm.1 z hz
      rcases List.mem_cons.1 ((h z).2 (List.mem_cons_of_mem _ hz)) with e | e
      · omega
      · exact e
theorem pw_listed {lo hi : Int} : ∀ {l : List (Int × Int)}, Listed lo hi l → (l.map (·.1)).Pairwise (· < ·)
  | [], _ => List.Pairwise.nil
  | x :: l, h => by
    rw [List.map_cons, List.pairwise_cons]
    refine ⟨fun y hy => ?_, pw_listed h.tail⟩
    obtain ⟨z, hz, rfl⟩ := List.mem_map.1 hy
    exact h.head_lt z hz
/-- has a list this type? -/
def hasE (l : List (Int × Int)) (t : Int) : Bool := (valE l t).isSome
theorem hasE_iff {l : List (Int × Int)} {t : Int} : hasE l t = true ↔ ∃ x ∈ l, x.1 = t := by
  unfold hasE
  cases h : valE l t with
  | none => exact ⟨fun h0 => by simp at h0, fun ⟨x, hx, ht⟩ => absurd ht (val_none h x hx)⟩
  | some v => obtain ⟨x, hx, h1, _⟩ := val_some h; exact ⟨fun _ => ⟨x, hx, h1⟩, fun _ => rfl⟩
theorem has_num {hi : Int} {l : List (Int × Int)} (h : Listed 1 hi l) (t : Int) : 0 < numE l t ↔ hasE l t = true := by
  rw [hasE_iff]
  constructor
  · intro h0
    rcases Classical.em (∃ x ∈ l, x.1 = t) with h1 | h1
    · exact h1
    · rw [Listed.num_zero fun x hx e => h1 ⟨x, hx, e⟩] at h0; omega
  · rintro ⟨x, hx, ht⟩
    rw [h.num hx ht]
    have := (h.mem hx).2.1
    omega
/-- the types of the first list that are in the second -/
def comP (la lb : List (Int × Int)) (j : Nat) : List Int := ((la.take j).map (·.1)).filter (hasE lb)
def comR (la lb : List (Int × Int)) : Nat → List Int
  | 0 => []
  | k + 1 => comR la lb k ++ (if 0 < numE la ((k : Int) + 1) ∧ 0 < numE lb ((k : Int) + 1) then [(k : Int) + 1] else [])
theorem comP_succ {la lb : List (Int × Int)} {j : Nat} {x : Int × Int} (hx : la[j]? = some x) : comP la lb (j + 1) = comP la lb j ++ (if hasE lb x.1 = true then [x.1] else []) := by
  rw [comP, comP, take_succ hx, List.map_append, List.filter_append]
  congr 1
  by_cases h : hasE lb x.1 = true <;> simp [h]
theorem comP_len (la lb : List (Int × Int)) (j : Nat) : (comP la lb j).length ≤ la.length :=
  Nat.le_trans (List.length_filter_le _ _) (by rw [List.length_map]; exact List.length_take_le' _ _)
theorem comR_mem {la lb : List (Int × Int)} : ∀ {k : Nat} {t : Int}, t ∈ comR la lb k ↔ (1 ≤ t ∧ t ≤ k) ∧ 0 < numE la t ∧ 0 < numE lb t
  | 0, t => by simp [comR]; omega
  | k + 1, t => by
    rw [comR, List.mem_append, comR_mem (k := k)]
    constructor
    · rintro (⟨h1, h2⟩ | h)
      · exact ⟨by omega, h2⟩
      · split at h
        · next hc => simp at h; subst h; exact ⟨by omega, hc⟩
        · simp at h
    · rintro ⟨h1, h2⟩
      by_cases ht : t ≤ k
      · exact .inl ⟨⟨h1.1, ht⟩, h2⟩
      · right
        obtain rfl : t = (k : Int) + 1 := by omega
        rw [if_pos h2]; simp
theorem comR_pw (la lb : List (Int × Int)) : ∀ k, (comR la lb k).Pairwise (· < ·)
  | 0 => List.Pairwise.nil
  | k + 1 => by
    rw [comR, List.pairwise_append]
    refine ⟨comR_pw la lb k, by split <;> simp, fun a ha b hb => ?_⟩
    have := (comR_mem.1 ha).1
    split at hb
    · simp at hb; omega
    · simp at hb
theorem comR_len (la lb : List (Int × Int)) : ∀ k, (comR la lb k).length ≤ k
  | 0 => Nat.le_refl _
  | k + 1 => by
    have := comR_len la lb k
    rw [comR, List.length_append]
    split <;> simp <;> omega
theorem com_same {la lb : List (Int × Int)} (ha : Listed 1 999 la) (hb : Listed 1 999 lb) : comP la lb la.length = comR la lb 99 := by
  refine asc_ext ?_ (comR_pw la lb 99) fun t => ?_
  · rw [comP, List.take_length]; exact (pw_listed ha).filter _
  · rw [comR_mem, comP, List.take_length, List.mem_filter, has_num ha, has_num hb, hasE_iff (l := la), List.mem_map]
    constructor
    · rintro ⟨⟨x, hx, rfl⟩, h2⟩
      exact ⟨(ha.mem hx).1, ⟨x, hx, rfl⟩, h2⟩
    · rintro ⟨_, ⟨x, hx, rfl⟩, h2⟩
      exact ⟨⟨x, hx, rfl⟩, h2⟩
/-- the slice at A reads as numbers -/
def IEs (w : World) (A : Option Addr) (l : List Int) : Prop :=
  0 < l.length → ∃ ad, A = some ad ∧ ad.block < w.heap.size ∧ ∀ i x, l[i]? = some x → w.cell? (ad.add i) = some (.int .i64 x)
theorem IEs.nil (w : World) (A : Option Addr) : IEs w A [] := fun h => absurd h (by simp)
theorem IEs.ext {w w' : World} {A : Option Addr} {l : List Int} (h : IEs w A l) (hb : Below w.heap.size w w') : IEs w' A l := fun h0 => by
  obtain ⟨ad, h1, h2, h3⟩ := h h0
  exact ⟨ad, h1, Nat.lt_of_lt_of_le h2 hb.size, fun i x hx => by rw [hb.cell (cell_lt (h3 i x hx))]; exact h3 i x hx⟩
theorem IEs.at_ {w : World} {A : Option Addr} {l : List Int} (h : IEs w A l) {i : Nat} {x : Int} (hx : l[i]? = some x) : ∃ ad, A = some ad ∧ ad.block < w.heap.size ∧ w.cell? (ad.add i) = some (.int .i64 x) := by
  have hi := (List.getElem?_eq_some_iff.1 hx).1
  obtain ⟨ad, h1, h2, h3⟩ := h (by omega)
  exact ⟨ad, h1, h2, h3 i x hx⟩
def icells (l : List Int) : List Value := l.map (.int .i64 ·)
def IOwn (w : World) (B : Nat) (A : Option Addr) (c : Nat) (l : List Int) : Prop := Own w B 3 A l.length c (icells l)
theorem IOwn.es {w : World} {B c : Nat} {A : Option Addr} {l : List Int} (h : IOwn w B A c l) : IEs w A l := fun h0 => by
  have h1 := h
  rcases h1.2 with ⟨_, h2⟩ | ⟨g, cap, cur, hv, _, hg, _⟩
  · omega
  · injection hv with hA _ _
    subst hA
    refine ⟨_, rfl, (Array.getElem?_eq_some_iff.1 hg).1, fun i x hx => ?_⟩
    exact World.ownsRow.cells h rfl i _ (by simp [icells, hx])
theorem IOwn.ext {w w' : World} {B c : Nat} {A : Option Addr} {l : List Int} (h : IOwn w B A c l) (hb : Below w.heap.size w w') : IOwn w' B A c l := Own.ext h hb
theorem IOwn.nil (w : World) (B : Nat) : IOwn w B none 0 [] := World.ownsRow_nil w B _ 1
theorem EI : Elt Tryd.prog 52 3 (.int .i64 0) 8 := ⟨Tryd.underlying52, by kernel_rfl, rfl⟩
theorem IOwn.snoc {w : World} {B c n : Nat} {A : Option Addr} {l : List Int} {x : Int} (h : Own w B 3 A n c (icells l ++ [.int .i64 x])) (hn : n = l.length + 1) : IOwn w B A c (l ++ [x]) := by
  subst hn
  unfold IOwn
  rw [List.length_append, icells, List.map_append]
  exact h
set_option maxHeartbeats 1000000 in
set_option maxRecDepth 100000 in
theorem bints_any {b : Bool} (A A' : Option Addr) (c c' : Nat) (l m : List Int) (w : World) (H : IEs w A l) (H' : IEs w A' m) (_ : l.length ≤ 9223372036854775807) (hm : m.length ≤ 9223372036854775807) (hb : Tells b (l = m)) :
    Calls Tryd.prog 26 #[.slice A l.length c, .slice A' m.length c'] w (RetB w b) := by
  by_cases hlen : l.length = m.length
  · have hlenb : ((l.length : Int) != (m.length : Int)) = false := by rw [bne_eq_false_iff_eq]; omega
    have HL := Lib.hid hlen
    clear hlen
    go_enter Tryd.func26, Tryd.ntmps26
    go_wp2
    go_loopg [5] l.length (fun k i wr => ∃ j : Nat, j + k = l.length ∧ i = .int .i64 (j : Int) ∧ Hid (∀ i, i < j → l[i]? = m[i]?) ∧ Below w.heap.size w wr)
    case atStart => exact ⟨0, by omega, rfl, Lib.hid (fun i h => absurd h (by omega)), Below.refl _ _⟩
    case round =>
      obtain ⟨j, hj, rfl, hok, hbw⟩ := hrel
      by_cases hj0 : j < l.length
      · have hj1 : j < m.length := by have := HL.out; omega
        have hx := Lib.hid (List.getElem?_eq_getElem hj0)
        have hy := Lib.hid (List.getElem?_eq_getElem hj1)
        obtain ⟨ad, rfl, hbk, c0⟩ := (H.ext hbw).at_ hx.out
        obtain ⟨ad2, rfl, hbk2, p0⟩ := (H'.ext hbw).at_ hy.out
        generalize l[j] = x at *
        generalize m[j] = y at *
        by_cases hxy : x = y
        · subst hxy
          have hnx := Lib.hid (show ∀ i, i < j + 1 → l[i]? = m[i]? from fun i hi => by
            by_cases hij : i < j
            · exact hok.out i hij
            · obtain rfl : i = j := by omega
              rw [hx.out, hy.out])
          have hs : (x != x) = false := by rw [bne_eq_false_iff_eq]
          go_upto_region 6 with fail
          go_quiet (fail)
          go_wp2
          go_roundg (l.length - (j + 1))
          case measure => omega
          case rel => exact ⟨j + 1, by omega, by go_num, hnx, drew_below hbw _⟩
        · obtain rfl : b = false := hb.f fun h => by
            subst h
            exact hxy (Option.some.inj (hx.out.symm.trans hy.out))
          have hd : (x != y) = true := by rw [bne_iff_ne]; exact hxy
          clear hxy
          go_upto_region 6 with fail
          go_quiet (fail)
          go_wp2
          go_ret
          exact ⟨rfl, drew_below hbw _⟩
      · obtain rfl : b = true := hb.t (List.ext_getElem? fun i => by
          by_cases hi : i < j
          · exact hok.out i hi
          · rw [List.getElem?_eq_none (by omega), List.getElem?_eq_none (by have := HL.out; omega)])
        go_wp2
        go_ret
        exact ⟨rfl, hbw⟩
  · have hlenb : ((l.length : Int) != (m.length : Int)) = true := by rw [bne_iff_ne]; omega
    obtain rfl : b = false := hb.f fun h => hlen (by rw [h])
    clear hlen
    go_enter Tryd.func26, Tryd.ntmps26
    go_wp2
    go_ret
    exact ⟨rfl, Below.refl _ _⟩
/-- what Common returns -/
def ComIs (ia : Int) (la : List (Int × Int)) (fa ta ib : Int) (lb : List (Int × Int)) (fb tb : Int) (L : List Int) (err : Int) : Prop :=
  (¬ (HV ia la fa ta ∧ HV ib lb fb tb) ∧ L = [] ∧ err = 1) ∨ (HV ia la fa ta ∧ HV ib lb fb tb ∧ comR la lb 99 = L ∧ err = 0)
theorem ComIs.ex (ia : Int) (la : List (Int × Int)) (fa ta ib : Int) (lb : List (Int × Int)) (fb tb : Int) : ∃ L err, ComIs ia la fa ta ib lb fb tb L err := by
  by_cases h : HV ia la fa ta ∧ HV ib lb fb tb
  · exact ⟨_, _, .inr ⟨h.1, h.2, rfl, rfl⟩⟩
  · exact ⟨_, _, .inl ⟨h, rfl, rfl⟩⟩
theorem ComIs.len {ia : Int} {la : List (Int × Int)} {fa ta ib : Int} {lb : List (Int × Int)} {fb tb : Int} {L : List Int} {err : Int} (h : ComIs ia la fa ta ib lb fb tb L err) : L.length ≤ 99 := by
  rcases h with ⟨_, rfl, _⟩ | ⟨_, _, rfl, _⟩
  · simp
  · exact comR_len la lb 99
def RetC (w : World) (L : List Int) (err : Int) (e : Ending) (w' : World) : Prop :=
  ∃ A c, e = .returned (.tuple #[.slice A L.length c, .int .i64 err]) ∧ IEs w' A L ∧ Below w.heap.size w w'
set_option maxHeartbeats 1000000 in
set_option maxRecDepth 100000 in
theorem hcommon_bad {ia fa ta ib fb tb : Int} (A A' : Option Addr) (c c' : Nat) (la lb : List (Int × Int)) (w : World) (HA : Es w A la) (HB : Es w A' lb) (hla : la.length ≤ 9223372036854775807) (hlb : lb.length ≤ 9223372036854775807) (h : ¬ (HV ia la fa ta ∧ HV ib lb fb tb)) :
    Calls Tryd.prog 24 #[.agg #[.int .i64 ia, .slice A la.length c, .int .i64 fa, .int .i64 ta], .agg #[.int .i64 ib, .slice A' lb.length c', .int .i64 fb, .int .i64 tb]] w (RetC w [] 1) := by
  by_cases ha : HV ia la fa ta
  · have hb0 : ¬ HV ib lb fb tb := fun hb => h ⟨ha, hb⟩
    have KA := yes ha
    have KB := no hb0
    clear h ha hb0
    have HX := BL.two w #[.int .i64 ia, .slice A la.length c, .int .i64 fa, .int .i64 ta] #[.int .i64 ib, .slice A' lb.length c', .int .i64 fb, .int .i64 tb] 26 26
    go_enter Tryd.func24, Tryd.ntmps24
    go_upto_region 1 with fail
    generalize (w.alloc (.cells #[.int .i64 ia, .slice A la.length c, .int .i64 fa, .int .i64 ta] 26)).alloc (.cells #[.int .i64 ib, .slice A' lb.length c', .int .i64 fb, .int .i64 tb] 26) = W1 at *
    have hc00 := HX.cell 0 0 rfl rfl
    have hc01 := HX.cell 0 1 rfl rfl
    have hc02 := HX.cell 0 2 rfl rfl
    have hc03 := HX.cell 0 3 rfl rfl
    try simp only [List.getElem_toArray, List.getElem_cons_zero, List.getElem_cons_succ] at hc00 hc01 hc02 hc03
    go_wp2_with fail
    refine (hvalid_any (b := true) A c la _ (HA.ext HX.below) hla KA).mono ?_
    rintro e w2 ⟨rfl, hb⟩
    clear hc00 hc01 hc02 hc03
    replace HX := HX.ext hb
    clear hb
    have hc10 := HX.cell 1 0 rfl rfl
    have hc11 := HX.cell 1 1 rfl rfl
    have hc12 := HX.cell 1 2 rfl rfl
    have hc13 := HX.cell 1 3 rfl rfl
    try simp only [List.getElem_toArray, List.getElem_cons_zero, List.getElem_cons_succ] at hc10 hc11 hc12 hc13
    go_wp2_with fail
    refine (hvalid_any (b := false) A' c' lb _ (HB.ext HX.below) hlb KB).mono ?_
    rintro e w3 ⟨rfl, hb⟩
    clear hc10 hc11 hc12 hc13
    replace HX := HX.ext hb
    clear hb
    go_wp2
    go_ret2
    exact ⟨none, 0, rfl, IEs.nil _ _, HX.below⟩

  · have KA := no ha
    clear h ha
    have HX := BL.two w #[.int .i64 ia, .slice A la.length c, .int .i64 fa, .int .i64 ta] #[.int .i64 ib, .slice A' lb.length c', .int .i64 fb, .int .i64 tb] 26 26
    go_enter Tryd.func24, Tryd.ntmps24
    go_upto_region 1 with fail
    generalize (w.alloc (.cells #[.int .i64 ia, .slice A la.length c, .int .i64 fa, .int .i64 ta] 26)).alloc (.cells #[.int .i64 ib, .slice A' lb.length c', .int .i64 fb, .int .i64 tb] 26) = W1 at *
    have hc00 := HX.cell 0 0 rfl rfl
    have hc01 := HX.cell 0 1 rfl rfl
    have hc02 := HX.cell 0 2 rfl rfl
    have hc03 := HX.cell 0 3 rfl rfl
    try simp only [List.getElem_toArray, List.getElem_cons_zero, List.getElem_cons_succ] at hc00 hc01 hc02 hc03
    go_wp2_with fail
    refine (hvalid_any (b := false) A c la _ (HA.ext HX.below) hla KA).mono ?_
    rintro e w2 ⟨rfl, hb⟩
    clear hc00 hc01 hc02 hc03
    replace HX := HX.ext hb
    clear hb
    go_wp2
    go_ret2
    exact ⟨none, 0, rfl, IEs.nil _ _, HX.below⟩

set_option maxHeartbeats 2000000 in
set_option maxRecDepth 100000 in
theorem hcommon_go {ia fa ta ib fb tb : Int} {L : List Int} (A A' : Option Addr) (c c' : Nat) (la lb : List (Int × Int)) (w : World) (HA : Es w A la) (HB : Es w A' lb) (hla : la.length ≤ 9223372036854775807) (hlb : lb.length ≤ 9223372036854775807) (ha : HV ia la fa ta) (hb : HV ib lb fb tb) (hL : Hid (comR la lb 99 = L)) :
    Calls Tryd.prog 24 #[.agg #[.int .i64 ia, .slice A la.length c, .int .i64 fa, .int .i64 ta], .agg #[.int .i64 ib, .slice A' lb.length c', .int .i64 fb, .int .i64 tb]] w (RetC w L 0) := by
  have KA := yes ha
  have KB := yes hb
  have hcs := Lib.hid (com_same ha.2.2.1 hb.2.2.1)
  replace ha := Lib.hid ha
  have hb0 := Lib.hid hb
  clear hb
  have HX := BL.two w #[.int .i64 ia, .slice A la.length c, .int .i64 fa, .int .i64 ta] #[.int .i64 ib, .slice A' lb.length c', .int .i64 fb, .int .i64 tb] 26 26
  go_enter Tryd.func24, Tryd.ntmps24
  go_upto_region 1 with fail
  generalize (w.alloc (.cells #[.int .i64 ia, .slice A la.length c, .int .i64 fa, .int .i64 ta] 26)).alloc (.cells #[.int .i64 ib, .slice A' lb.length c', .int .i64 fb, .int .i64 tb] 26) = W1 at *
  have hc00 := HX.cell 0 0 rfl rfl
  have hc01 := HX.cell 0 1 rfl rfl
  have hc02 := HX.cell 0 2 rfl rfl
  have hc03 := HX.cell 0 3 rfl rfl
  try simp only [List.getElem_toArray, List.getElem_cons_zero, List.getElem_cons_succ] at hc00 hc01 hc02 hc03
  go_wp2_with fail
  refine (hvalid_any (b := true) A c la _ (HA.ext HX.below) hla KA).mono ?_
  rintro e w2 ⟨rfl, hb⟩
  clear hc00 hc01 hc02 hc03
  replace HX := HX.ext hb
  clear hb
  have hc10 := HX.cell 1 0 rfl rfl
  have hc11 := HX.cell 1 1 rfl rfl
  have hc12 := HX.cell 1 2 rfl rfl
  have hc13 := HX.cell 1 3 rfl rfl
  try simp only [List.getElem_toArray, List.getElem_cons_zero, List.getElem_cons_succ] at hc10 hc11 hc12 hc13
  go_wp2_with fail
  refine (hvalid_any (b := true) A' c' lb _ (HB.ext HX.below) hlb KB).mono ?_
  rintro e w3 ⟨rfl, hb⟩
  clear hc10 hc11 hc12 hc13
  replace HX := HX.ext hb
  clear hb
  have hltB := HX.lt 1 rfl
  simp only [] at hltB
  obtain ⟨B, hB⟩ : ∃ B, w3.heap.size = B := ⟨_, rfl⟩
  have hBw : w.heap.size ≤ B := by omega
  have HOWN := IOwn.nil w3 B
  have hc01 := HX.cell 0 1 rfl rfl
  try simp only [List.getElem_toArray, List.getElem_cons_zero, List.getElem_cons_succ] at hc01
  go_wp2
  clear hc01
  go_loopg [6, 22] la.length (fun kk u i wr => ∃ (j : Nat) (A8 : Option Addr) (c8 : Nat), j + kk = la.length ∧ i = .int .i64 (j : Int) ∧ u = .slice A8 (comP la lb j).length c8 ∧ IOwn wr B A8 c8 (comP la lb j) ∧ BL w wr [(w.heap.size, #[.int .i64 ia, .slice A la.length c, .int .i64 fa, .int .i64 ta], 26), (w.heap.size + 1, #[.int .i64 ib, .slice A' lb.length c', .int .i64 fb, .int .i64 tb], 26)] ∧ B ≤ wr.heap.size)
  case atStart => exact ⟨0, none, 0, by omega, rfl, rfl, HOWN, HX, by omega⟩
  case round =>
    clear HX HOWN
    obtain ⟨j, A8, c8, hj, rfl, rfl, HOWN, HX, hBr⟩ := hrel
    have hlen := comP_len la lb j
    have hla32 : la.length ≤ 32 := ha.out.2.1.2
    by_cases hj0 : j < la.length
    · have hx := Lib.hid (List.getElem?_eq_getElem hj0)
      have hsu := Lib.hid (comP_succ (lb := lb) hx.out)
      obtain ⟨ad, rfl, hbk, c0, c1⟩ := (HA.ext HX.below).at_ hx.out
      generalize la[j] = x at *
      obtain ⟨k, n⟩ := x
      simp only [] at c0 c1
      obtain ⟨m, hm⟩ : ∃ m, comP la lb j = m := ⟨_, rfl⟩
      rw [hm] at HOWN hlen hsu
      have HM := Lib.hid hm
      rw [hm]
      clear hm
      go_upto_region 7 with fail
      have hb8 := below_alloc wr (.cells #[.int .i64 k, .int .i64 n] 50)
      have HX8 := HX.new #[.int .i64 k, .int .i64 n] 50
      simp only [List.cons_append, List.nil_append] at HX8
      replace HOWN := HOWN.ext hb8
      have hBr : B ≤ (wr.alloc (.cells #[.int .i64 k, .int .i64 n] 50)).heap.size := Nat.le_trans hBr hb8.size
      clear c0 c1 hbk HX hb8
      generalize wr.alloc (.cells #[.int .i64 k, .int .i64 n] 50) = W8 at *
      generalize wr.heap.size = g8 at *
      have HX := HX8
      clear HX8
      have hc11 := HX.cell 1 1 rfl rfl
      try simp only [List.getElem_toArray, List.getElem_cons_zero, List.getElem_cons_succ] at hc11
      have hc20 := HX.cell 2 0 rfl rfl
      have hc21 := HX.cell 2 1 rfl rfl
      try simp only [List.getElem_toArray, List.getElem_cons_zero, List.getElem_cons_succ] at hc20 hc21
      cases hv : valE lb k with
      | none =>
        have hno : hasE lb k = false := by rw [hasE, hv]; rfl
        have hs2 : Hid (comP la lb (j + 1) = m) := Lib.hid (hsu.out.trans (by simp [hno]))
        have HV := Lib.hid hv
        clear hv hno hsu
        go_wp2_with fail
        refine (value_none A' c' lb _ (HB.ext HX.below) hlb HV).mono ?_
        rintro e w5 ⟨rfl, hb5⟩
        replace HX := HX.ext hb5
        replace HOWN := HOWN.ext hb5
        replace hBr := Nat.le_trans hBr (Nat.le_of_lt (HX.lt 2 rfl))
        go_wp2
        go_roundg (la.length - (j + 1))
        case measure => omega
        case rel => exact ⟨j + 1, A8, c8, by omega, by go_num, by rw [hs2.out], by rw [hs2.out]; exact HOWN, ⟨HX.below, fun i p hp => HX.blk i p (by match i, hp with | 0, hp => exact hp | 1, hp => exact hp | i + 2, hp => simp at hp)⟩, hBr⟩
      | some v =>
        have hyes : hasE lb k = true := by rw [hasE, hv]; rfl
        have hs2 := Lib.hid (hsu.out.trans (by rw [if_pos hyes]))
        have HV := Lib.hid hv
        clear hv hyes hsu
        go_wp2_with fail
        refine (value_some A' c' lb _ (HB.ext HX.below) hlb HV).mono ?_
        rintro e w5 ⟨rfl, hb5⟩
        clear hc11
        clear hc20 hc21
        replace HX := HX.ext hb5
        replace HOWN := HOWN.ext hb5
        replace hBr := Nat.le_trans hBr (Nat.le_of_lt (HX.lt 2 rfl))
        clear hb5
        have hc20 := HX.cell 2 0 rfl rfl
        have hc21 := HX.cell 2 1 rfl rfl
        try simp only [List.getElem_toArray, List.getElem_cons_zero, List.getElem_cons_succ] at hc20 hc21
        go_wp2_with (at_builtin; refine wp_push EI _ rfl _ _ rfl rfl rfl HOWN (by rfl) (by omega) (by omega) hBr ?_)
        intro A9 c9 w7 HOWN2 hgr7 hb7 hlt7
        replace HX : BL w w5 [(w.heap.size, #[.int .i64 ia, .slice (some ad) la.length c, .int .i64 fa, .int .i64 ta], 26), (w.heap.size + 1, #[.int .i64 ib, .slice A' lb.length c', .int .i64 fb, .int .i64 tb], 26)] := ⟨HX.below, fun i p hp => HX.blk i p (by match i, hp with | 0, hp => exact hp | 1, hp => exact hp | i + 2, hp => simp at hp)⟩
        replace HX := HX.low hBw (by intro i q hq; match i, hq with | 0, hq => (simp at hq; subst hq; simp; try omega) | 1, hq => (simp at hq; subst hq; simp; try omega) | i + 2, hq => simp at hq) hb7
        have HO2 := IOwn.snoc HOWN2 rfl
        clear hc20 hc21
        go_wp2
        go_roundg (la.length - (j + 1))
        case measure => omega
        case rel => exact ⟨j + 1, A9, c9, by omega, by go_num, by rw [hs2.out, List.length_append]; rfl, by rw [hs2.out]; exact HO2, HX, by omega⟩
    · have hz := Lib.hid (show j = la.length by omega)
      have hfin : Hid (comP la lb j = L) := Lib.hid (by rw [hz.out]; exact hcs.out.trans hL.out)
      go_wp2
      go_ret2
      exact ⟨A8, c8, by rw [← hfin.out]; rfl, by rw [← hfin.out]; exact HOWN.es, HX.below⟩
theorem hcommon_any {ia fa ta ib fb tb err : Int} {L : List Int} (A A' : Option Addr) (c c' : Nat) (la lb : List (Int × Int)) (w : World) (HA : Es w A la) (HB : Es w A' lb) (hla : la.length ≤ 9223372036854775807) (hlb : lb.length ≤ 9223372036854775807) (h : ComIs ia la fa ta ib lb fb tb L err) :
    Calls Tryd.prog 24 #[.agg #[.int .i64 ia, .slice A la.length c, .int .i64 fa, .int .i64 ta], .agg #[.int .i64 ib, .slice A' lb.length c', .int .i64 fb, .int .i64 tb]] w (RetC w L err) := by
  rcases h with ⟨h, rfl, rfl⟩ | ⟨ha, hb, hL, rfl⟩
  · exact hcommon_bad A A' c c' la lb w HA HB hla hlb h
  · exact hcommon_go A A' c c' la lb w HA HB hla hlb ha hb (Lib.hid hL)
set_option maxHeartbeats 1000000 in
set_option maxRecDepth 100000 in
theorem rcommon_bad {ia fa ta ib fb tb : Int} (A A' : Option Addr) (c c' : Nat) (la lb : List (Int × Int)) (w : World) (HA : Es w A la) (HB : Es w A' lb) (hla : la.length ≤ 9223372036854775807) (hlb : lb.length ≤ 9223372036854775807) (h : ¬ (HV ia la fa ta ∧ HV ib lb fb tb)) :
    Calls Tryd.prog 25 #[.agg #[.int .i64 ia, .slice A la.length c, .int .i64 fa, .int .i64 ta], .agg #[.int .i64 ib, .slice A' lb.length c', .int .i64 fb, .int .i64 tb]] w (RetC w [] 1) := by
  by_cases ha : HV ia la fa ta
  · have hb0 : ¬ HV ib lb fb tb := fun hb => h ⟨ha, hb⟩
    have KA := yes ha
    have KB := no hb0
    clear h ha hb0
    have HX := BL.two w #[.int .i64 ia, .slice A la.length c, .int .i64 fa, .int .i64 ta] #[.int .i64 ib, .slice A' lb.length c', .int .i64 fb, .int .i64 tb] 26 26
    go_enter Tryd.func25, Tryd.ntmps25
    go_upto_region 1 with fail
    generalize (w.alloc (.cells #[.int .i64 ia, .slice A la.length c, .int .i64 fa, .int .i64 ta] 26)).alloc (.cells #[.int .i64 ib, .slice A' lb.length c', .int .i64 fb, .int .i64 tb] 26) = W1 at *
    have hc00 := HX.cell 0 0 rfl rfl
    have hc01 := HX.cell 0 1 rfl rfl
    have hc02 := HX.cell 0 2 rfl rfl
    have hc03 := HX.cell 0 3 rfl rfl
    try simp only [List.getElem_toArray, List.getElem_cons_zero, List.getElem_cons_succ] at hc00 hc01 hc02 hc03
    go_wp2_with fail
    refine (bhoard_any (b := true) A c la _ (HA.ext HX.below) hla KA).mono ?_
    rintro e w2 ⟨rfl, hb⟩
    clear hc00 hc01 hc02 hc03
    replace HX := HX.ext hb
    clear hb
    have hc10 := HX.cell 1 0 rfl rfl
    have hc11 := HX.cell 1 1 rfl rfl
    have hc12 := HX.cell 1 2 rfl rfl
    have hc13 := HX.cell 1 3 rfl rfl
    try simp only [List.getElem_toArray, List.getElem_cons_zero, List.getElem_cons_succ] at hc10 hc11 hc12 hc13
    go_wp2_with fail
    refine (bhoard_any (b := false) A' c' lb _ (HB.ext HX.below) hlb KB).mono ?_
    rintro e w3 ⟨rfl, hb⟩
    clear hc10 hc11 hc12 hc13
    replace HX := HX.ext hb
    clear hb
    go_wp2
    go_ret2
    exact ⟨none, 0, rfl, IEs.nil _ _, HX.below⟩

  · have KA := no ha
    clear h ha
    have HX := BL.two w #[.int .i64 ia, .slice A la.length c, .int .i64 fa, .int .i64 ta] #[.int .i64 ib, .slice A' lb.length c', .int .i64 fb, .int .i64 tb] 26 26
    go_enter Tryd.func25, Tryd.ntmps25
    go_upto_region 1 with fail
    generalize (w.alloc (.cells #[.int .i64 ia, .slice A la.length c, .int .i64 fa, .int .i64 ta] 26)).alloc (.cells #[.int .i64 ib, .slice A' lb.length c', .int .i64 fb, .int .i64 tb] 26) = W1 at *
    have hc00 := HX.cell 0 0 rfl rfl
    have hc01 := HX.cell 0 1 rfl rfl
    have hc02 := HX.cell 0 2 rfl rfl
    have hc03 := HX.cell 0 3 rfl rfl
    try simp only [List.getElem_toArray, List.getElem_cons_zero, List.getElem_cons_succ] at hc00 hc01 hc02 hc03
    go_wp2_with fail
    refine (bhoard_any (b := false) A c la _ (HA.ext HX.below) hla KA).mono ?_
    rintro e w2 ⟨rfl, hb⟩
    clear hc00 hc01 hc02 hc03
    replace HX := HX.ext hb
    clear hb
    go_wp2
    go_ret2
    exact ⟨none, 0, rfl, IEs.nil _ _, HX.below⟩

set_option maxHeartbeats 2000000 in
set_option maxRecDepth 100000 in
theorem rcommon_go {ia fa ta ib fb tb : Int} {L : List Int} (A A' : Option Addr) (c c' : Nat) (la lb : List (Int × Int)) (w : World) (HA : Es w A la) (HB : Es w A' lb) (hla : la.length ≤ 9223372036854775807) (hlb : lb.length ≤ 9223372036854775807) (ha : HV ia la fa ta) (hb : HV ib lb fb tb) (hL : Hid (comR la lb 99 = L)) :
    Calls Tryd.prog 25 #[.agg #[.int .i64 ia, .slice A la.length c, .int .i64 fa, .int .i64 ta], .agg #[.int .i64 ib, .slice A' lb.length c', .int .i64 fb, .int .i64 tb]] w (RetC w L 0) := by
  have KA := yes ha
  have KB := yes hb
  have hcs := Lib.hid (com_same ha.2.2.1 hb.2.2.1)
  replace ha := Lib.hid ha
  have hb0 := Lib.hid hb
  clear hb
  have HX := BL.two w #[.int .i64 ia, .slice A la.length c, .int .i64 fa, .int .i64 ta] #[.int .i64 ib, .slice A' lb.length c', .int .i64 fb, .int .i64 tb] 26 26
  go_enter Tryd.func25, Tryd.ntmps25
  go_upto_region 1 with fail
  generalize (w.alloc (.cells #[.int .i64 ia, .slice A la.length c, .int .i64 fa, .int .i64 ta] 26)).alloc (.cells #[.int .i64 ib, .slice A' lb.length c', .int .i64 fb, .int .i64 tb] 26) = W1 at *
  have hc00 := HX.cell 0 0 rfl rfl
  have hc01 := HX.cell 0 1 rfl rfl
  have hc02 := HX.cell 0 2 rfl rfl
  have hc03 := HX.cell 0 3 rfl rfl
  try simp only [List.getElem_toArray, List.getElem_cons_zero, List.getElem_cons_succ] at hc00 hc01 hc02 hc03
  go_wp2_with fail
  refine (bhoard_any (b := true) A c la _ (HA.ext HX.below) hla KA).mono ?_
  rintro e w2 ⟨rfl, hb⟩
  clear hc00 hc01 hc02 hc03
  replace HX := HX.ext hb
  clear hb
  have hc10 := HX.cell 1 0 rfl rfl
  have hc11 := HX.cell 1 1 rfl rfl
  have hc12 := HX.cell 1 2 rfl rfl
  have hc13 := HX.cell 1 3 rfl rfl
  try simp only [List.getElem_toArray, List.getElem_cons_zero, List.getElem_cons_succ] at hc10 hc11 hc12 hc13
  go_wp2_with fail
  refine (bhoard_any (b := true) A' c' lb _ (HB.ext HX.below) hlb KB).mono ?_
  rintro e w3 ⟨rfl, hb⟩
  clear hc10 hc11 hc12 hc13
  replace HX := HX.ext hb
  clear hb
  have hltB := HX.lt 1 rfl
  simp only [] at hltB
  obtain ⟨B, hB⟩ : ∃ B, w3.heap.size = B := ⟨_, rfl⟩
  have hBw : w.heap.size ≤ B := by omega
  have HOWN := IOwn.nil w3 B
  go_wp2
  go_loopg [6, 7] 99 (fun kk u i wr => ∃ (k : Nat) (A8 : Option Addr) (c8 : Nat), k + kk = 99 ∧ i = .int .i64 ((k : Int) + 1) ∧ u = .slice A8 (comR la lb k).length c8 ∧ IOwn wr B A8 c8 (comR la lb k) ∧ BL w wr [(w.heap.size, #[.int .i64 ia, .slice A la.length c, .int .i64 fa, .int .i64 ta], 26), (w.heap.size + 1, #[.int .i64 ib, .slice A' lb.length c', .int .i64 fb, .int .i64 tb], 26)] ∧ B ≤ wr.heap.size)
  case atStart => exact ⟨0, none, 0, by omega, rfl, rfl, HOWN, HX, by omega⟩
  case round =>
    clear HX HOWN
    obtain ⟨k, A8, c8, hk, rfl, rfl, HOWN, HX, hBr⟩ := hrel
    have hlen := comR_len la lb k
    by_cases hk0 : k < 99
    · have NA : NumIs ia la fa ta ((k : Int) + 1) (numE la ((k : Int) + 1)) := ⟨fun _ => rfl, fun h => absurd ha.out h⟩
      have NB : NumIs ib lb fb tb ((k : Int) + 1) (numE lb ((k : Int) + 1)) := ⟨fun _ => rfl, fun h => absurd hb0.out h⟩
      have hsu := Lib.hid (show comR la lb (k + 1) = comR la lb k ++ (if 0 < numE la ((k : Int) + 1) ∧ 0 < numE lb ((k : Int) + 1) then [(k : Int) + 1] else []) from rfl)
      generalize numE la ((k : Int) + 1) = na at *
      generalize numE lb ((k : Int) + 1) = nb at *
      obtain ⟨m, hm⟩ : ∃ m, comR la lb k = m := ⟨_, rfl⟩
      rw [hm] at HOWN hlen hsu
      rw [hm]
      clear hm
      have hk1 : (k : Int) + 1 ≤ 99 := by omega
      have hc00 := HX.cell 0 0 rfl rfl
      have hc01 := HX.cell 0 1 rfl rfl
      have hc02 := HX.cell 0 2 rfl rfl
      have hc03 := HX.cell 0 3 rfl rfl
      try simp only [List.getElem_toArray, List.getElem_cons_zero, List.getElem_cons_succ] at hc00 hc01 hc02 hc03
      by_cases hna : 0 < na
      · have hnab : decide (0 < na) = true := decide_eq_true hna
        go_wp2_with fail
        refine (rnumber_any A c la _ (HA.ext HX.below) hla NA).mono ?_
        rintro e w5 ⟨rfl, hb5⟩
        clear hc00 hc01 hc02 hc03
        replace HX := HX.ext hb5
        replace HOWN := HOWN.ext hb5
        replace hBr := Nat.le_trans hBr hb5.size
        clear hb5
        have hc10 := HX.cell 1 0 rfl rfl
        have hc11 := HX.cell 1 1 rfl rfl
        have hc12 := HX.cell 1 2 rfl rfl
        have hc13 := HX.cell 1 3 rfl rfl
        try simp only [List.getElem_toArray, List.getElem_cons_zero, List.getElem_cons_succ] at hc10 hc11 hc12 hc13
        go_wp2_with fail
        refine (rnumber_any A' c' lb _ (HB.ext HX.below) hlb NB).mono ?_
        rintro e w6 ⟨rfl, hb6⟩
        clear hc10 hc11 hc12 hc13
        replace HX := HX.ext hb6
        replace HOWN := HOWN.ext hb6
        replace hBr := Nat.le_trans hBr hb6.size
        clear hb6
        by_cases hnb : 0 < nb
        · have hnbb : decide (0 < nb) = true := decide_eq_true hnb
          have hs2 := Lib.hid (hsu.out.trans (by rw [if_pos ⟨hna, hnb⟩]))
          clear hsu
          go_wp2_with (at_builtin; refine wp_push EI _ rfl _ _ rfl rfl rfl HOWN (by rfl) (by omega) (by omega) hBr ?_)
          intro A9 c9 w7 HOWN2 hgr7 hb7 hlt7
          replace HX := HX.low hBw (by intro i q hq; match i, hq with | 0, hq => (simp at hq; subst hq; simp; try omega) | 1, hq => (simp at hq; subst hq; simp; try omega) | i + 2, hq => simp at hq) hb7
          have HO2 := IOwn.snoc HOWN2 rfl
          go_wp2
          go_roundg (99 - (k + 1))
          case measure => omega
          case rel => exact ⟨k + 1, A9, c9, by omega, by go_num, by rw [hs2.out, List.length_append]; rfl, by rw [hs2.out]; exact HO2, HX, by omega⟩
        · have hnbb : decide (0 < nb) = false := decide_eq_false hnb
          have hs2 := Lib.hid (hsu.out.trans (by rw [if_neg (fun h => hnb h.2), List.append_nil]))
          clear hsu
          go_wp2
          go_roundg (99 - (k + 1))
          case measure => omega
          case rel => exact ⟨k + 1, A8, c8, by omega, by go_num, by rw [hs2.out], by rw [hs2.out]; exact HOWN, HX, hBr⟩
      · have hnab : decide (0 < na) = false := decide_eq_false hna
        have hs2 := Lib.hid (hsu.out.trans (by rw [if_neg (fun h => hna h.1), List.append_nil]))
        clear hsu
        go_wp2_with fail
        refine (rnumber_any A c la _ (HA.ext HX.below) hla NA).mono ?_
        rintro e w5 ⟨rfl, hb5⟩
        clear hc00 hc01 hc02 hc03
        replace HX := HX.ext hb5
        replace HOWN := HOWN.ext hb5
        replace hBr := Nat.le_trans hBr hb5.size
        clear hb5
        go_wp2
        go_roundg (99 - (k + 1))
        case measure => omega
        case rel => exact ⟨k + 1, A8, c8, by omega, by go_num, by rw [hs2.out], by rw [hs2.out]; exact HOWN, HX, hBr⟩
    · obtain rfl : k = 99 := by omega
      go_wp2
      go_ret2
      exact ⟨A8, c8, by rw [← hL.out]; rfl, by rw [← hL.out]; exact HOWN.es, HX.below⟩
theorem rcommon_any {ia fa ta ib fb tb err : Int} {L : List Int} (A A' : Option Addr) (c c' : Nat) (la lb : List (Int × Int)) (w : World) (HA : Es w A la) (HB : Es w A' lb) (hla : la.length ≤ 9223372036854775807) (hlb : lb.length ≤ 9223372036854775807) (h : ComIs ia la fa ta ib lb fb tb L err) :
    Calls Tryd.prog 25 #[.agg #[.int .i64 ia, .slice A la.length c, .int .i64 fa, .int .i64 ta], .agg #[.int .i64 ib, .slice A' lb.length c', .int .i64 fb, .int .i64 tb]] w (RetC w L err) := by
  rcases h with ⟨h, rfl, rfl⟩ | ⟨ha, hb, hL, rfl⟩
  · exact rcommon_bad A A' c c' la lb w HA HB hla hlb h
  · exact rcommon_go A A' c c' la lb w HA HB hla hlb ha hb (Lib.hid hL)
end Go.Proofs.YtajddhkepbnilaaDoor
