/- Two hoards as one. -/
import Derived.Test.YthempimelfmipaaGreatDoorHq
import Derived.Test.YthempimelfmipaaGreatDoorHoist
import Derived.IntWalk
namespace Go.Proofs.YthempimelfmipaaGreatDoor
open Go.RowKit Go.Proofs Go

section
variable {w W W' : World} {L : List (Nat × Array Value × TypeId)}
theorem BL.put2 (h : BL w W L) (i : Nat) {g : Nat} {u0 u1 : Value} {T : TypeId} (hp : L[i]? = some (g, #[u0, u1], T)) (hg : w.heap.size ≤ g) (hne : ∀ (k : Nat) (p : Nat × Array Value × TypeId), L[k]? = some p → k ≠ i → p.1 ≠ g) (v0 v1 : Value) :
    BL w ((W.setCell ⟨g, 0, none⟩ v0).setCell ⟨g, 1, none⟩ v1) (L.set i (g, #[v0, v1], T)) := by
  have hi := (List.getElem?_eq_some_iff.1 hp).1
  have n2 : ∀ {x : Nat × Array Value × TypeId}, ∀ (k : Nat) (p : Nat × Array Value × TypeId), (L.set i x)[k]? = some p → k ≠ i → p.1 ≠ g := fun {x} k p hk hki => by
    rw [List.getElem?_set_ne (Ne.symm hki)] at hk; exact hne k p hk hki
  have h1 := h.set1 i hp hg hne 0 v0
  have h2 := h1.set1 i (by rw [List.getElem?_set_self hi]) hg n2 1 v1
  rw [List.set_set] at h2
  exact h2
theorem BL.put4 (h : BL w W L) (i : Nat) {g : Nat} {u0 u1 u2 u3 : Value} {T : TypeId} (hp : L[i]? = some (g, #[u0, u1, u2, u3], T)) (hg : w.heap.size ≤ g) (hne : ∀ (k : Nat) (p : Nat × Array Value × TypeId), L[k]? = some p → k ≠ i → p.1 ≠ g) (v0 v1 v2 v3 : Value) :
    BL w ((((W.setCell ⟨g, 0, none⟩ v0).setCell ⟨g, 1, none⟩ v1).setCell ⟨g, 2, none⟩ v2).setCell ⟨g, 3, none⟩ v3) (L.set i (g, #[v0, v1, v2, v3], T)) := by
  have hi := (List.getElem?_eq_some_iff.1 hp).1
  have n2 : ∀ {x : Nat × Array Value × TypeId}, ∀ (k : Nat) (p : Nat × Array Value × TypeId), (L.set i x)[k]? = some p → k ≠ i → p.1 ≠ g := fun {x} k p hk hki => by
    rw [List.getElem?_set_ne (Ne.symm hki)] at hk; exact hne k p hk hki
  have h1 := h.set1 i hp hg hne 0 v0
  have h2 := h1.set1 i (by rw [List.getElem?_set_self hi]) hg n2 1 v1
  rw [List.set_set] at h2
  have h3 := h2.set1 i (by rw [List.getElem?_set_self hi]) hg n2 2 v2
  rw [List.set_set] at h3
  have h4 := h3.set1 i (by rw [List.getElem?_set_self hi]) hg n2 3 v3
  rw [List.set_set] at h4
  exact h4
end

def ecells (l : List (Int × Int)) : List Value := l.flatMap fun x => [.int .i64 x.1, .int .i64 x.2]
theorem ecells_len (l : List (Int × Int)) : (ecells l).length = l.length * 2 := by
  induction l with
  | nil => rfl
  | cons x l ih =>
    have : ecells (x :: l) = .int .i64 x.1 :: .int .i64 x.2 :: ecells l := rfl
    rw [this, List.length_cons, List.length_cons, ih, List.length_cons]; omega
theorem ecells_snoc (l : List (Int × Int)) (x : Int × Int) : ecells (l ++ [x]) = ecells l ++ [.int .i64 x.1, .int .i64 x.2] := by simp [ecells]
theorem ecells_at {x : Int × Int} : ∀ {l : List (Int × Int)} {i : Nat}, l[i]? = some x → (ecells l)[i * 2]? = some (.int .i64 x.1) ∧ (ecells l)[i * 2 + 1]? = some (.int .i64 x.2)
  | [], i, h => by simp at h
  | y :: l, 0, h => by simp at h; subst h; exact ⟨rfl, rfl⟩
  | y :: l, i + 1, h => by
    have e : ecells (y :: l) = .int .i64 y.1 :: .int .i64 y.2 :: ecells l := rfl
    obtain ⟨a, b⟩ := ecells_at (l := l) (i := i) (by simpa using h)
    rw [e, show (i + 1) * 2 = i * 2 + 1 + 1 by omega]
    exact ⟨by simpa using a, by simpa using b⟩
theorem ecells_one (l : List (Int × Int)) : ∀ u ∈ ecells l, u.oneCell' = true := by
  intro u hu
  rw [ecells, List.mem_flatMap] at hu
  obtain ⟨x, _, hx⟩ := hu
  simp at hx
  rcases hx with rfl | rfl <;> rfl
/-- the call owns a row of entries -/
def EOwn (w : World) (B : Nat) (A : Option Addr) (c : Nat) (l : List (Int × Int)) : Prop := w.ownsRow B 46 2 (.slice A l.length c) l.length (ecells l)
section
variable {w w' : World} {B c : Nat} {A : Option Addr} {l : List (Int × Int)}
theorem EOwn.nil (w : World) (B : Nat) : EOwn w B none 0 [] := World.ownsRow_nil w B _ 2
theorem EOwn.alloc (h : EOwn w B A c l) (o : Obj) : EOwn (w.alloc o) B A c l := World.ownsRow.alloc h o
theorem EOwn.ext (h : EOwn w B A c l) (hb : Below w.heap.size w w') : EOwn w' B A c l :=
  World.ownsRow.kept h (grown_of_below hb none) (by cases A <;> simp [Value.ownBlock])
theorem EOwn.far (h : EOwn w B A c l) {p : Addr} (hp : p.block < B) (v : Value) : EOwn (w.setCell p v) B A c l := by
  refine World.ownsRow.kept h (row := some p.block) ⟨rfl, rfl, rfl, by simp [World.setCell], fun i _ hne => Below.heap_setCell w p v i fun e => hne (by rw [e])⟩ ?_
  cases A with
  | none => left; rfl
  | some a =>
    right
    intro e
    have := (World.ownsRow.lt h _ e).1
    omega
theorem EOwn.es (h : EOwn w B A c l) : Es w A l := fun h0 => by
  have h1 := h
  rcases h1.2 with ⟨_, h2⟩ | ⟨g, cap, cur, hv, _, hg, _⟩
  · omega
  · injection hv with hA _ _
    subst hA
    refine ⟨_, rfl, (Array.getElem?_eq_some_iff.1 hg).1, fun i x hx => ?_⟩
    obtain ⟨a, b⟩ := ecells_at hx
    have ca := World.ownsRow.cells h rfl _ _ a
    have cb := World.ownsRow.cells h rfl _ _ b
    rw [Addr.add_lit, Nat.zero_add] at ca cb ⊢
    exact ⟨ca, cb⟩
end
theorem undEntry : Tryz.prog.underlying 22 = some (.slice 46) := Tryz.underlying22
theorem infoEntry : (Tryz.prog.info? 46).map (fun i => (i.zero, i.size, i.bytes)) = some (some (.agg #[.int .i64 0, .int .i64 0]), 2, 16) := by kernel_rfl
/-- append of one entry, behind the operation that laid it in a block of its own -/
theorem wp_epush {ops : Array Oper} {rest : List Oper} {o : Oper} {a : Act} {Q : Exit → Act → World → Prop} (w : World) (hg : o.guard = none) (s x : Operand) (hop : o.op = Op.call { callee := Callee.builtin Builtin.append, args := #[s, x], argTypes := #[22, 22] })
    {B c : Nat} {A : Option Addr} {l : List (Int × Int)} {k v : Int} (hs : a.eval s = .slice A l.length c) (hx : a.eval x = .slice (some ⟨w.heap.size, 0, none⟩) 1 1) (hown : EOwn w B A c l)
    (hl : l.length ≤ 1000000) (hB : B ≤ w.heap.size)
    (hK : ∀ A' c' w', EOwn w' B A' c' (l ++ [(k, v)]) → Below B w w' → w.heap.size < w'.heap.size → wpList Tryz.prog ops Q rest (a.put o.dst (.slice A' (l.length + 1) c')) w') :
    wpList Tryz.prog ops Q (o :: rest) a (w.alloc (.cells #[.int .i64 k, .int .i64 v] 46)) := by
  obtain ⟨i, hi, hz, h1, h2⟩ := info_parts infoEntry
  refine wpList_append_own _ hg s x _ hop B _ i _ 2 16 undEntry hi hz h1 h2 (by rfl) (by decide) _ l.length (ecells l) hs (World.ownsRow.alloc hown _) ⟨w.heap.size, 0, none⟩ 1 1 [.int .i64 k, .int .i64 v] hx rfl ?_ ?_ (by unfold maxLen; omega) (by omega) (by simp; omega) ?_
  · intro j u hj
    match j, hj with
    | 0, hj => simp at hj; subst hj; exact al_at (by simp) _ rfl
    | 1, hj => simp at hj; subst hj; exact al_at (by simp) _ rfl
    | j + 2, hj => simp at hj
  · intro u hu
    simp at hu
    rcases hu with rfl | rfl <;> rfl
  · intro v' w' h3 h4 h5
    have hb : w.grownBy w' (Value.slice A l.length c).ownBlock := ⟨h4.os, h4.tape, h4.output, Nat.le_trans (by simp) h4.size, fun k hk hne => (h4.block k (by simp; omega) hne).trans (Below.heap_alloc w _ k hk)⟩
    have hlt : w.heap.size < w'.heap.size := by have := h4.size; simp at this; omega
    obtain ⟨A', c', rfl⟩ : ∃ A' c', v' = .slice A' (l.length + 1) c' := by
      rcases h3.2 with ⟨_, h0⟩ | ⟨g, cap, cur, hv, _⟩
      · omega
      · exact ⟨_, _, hv⟩
    refine hK A' c' w' ?_ (below_of_grown hb hB fun k hk => ((World.ownsRow.lt hown) k hk).1) hlt
    rw [EOwn, ecells_snoc, List.length_append]
    exact h3
end Go.Proofs.YthempimelfmipaaGreatDoor

namespace Go.Proofs.YthempimelfmipaaGreatDoor
open Go.RowKit Go.Proofs Go

/-- F and T are the first and the last common year -/
def Com (fa ta fb tb F T : Int) : Prop := (if fa < fb then fb else fa) = F ∧ (if ta < tb then ta else tb) = T
theorem Com.ex (fa ta fb tb : Int) : ∃ F T, Com fa ta fb tb F T := ⟨_, _, rfl, rfl⟩
theorem Com.yv {fa ta fb tb F T : Int} (h : Com fa ta fb tb F T) (ha : YV fa ta) (hb : YV fb tb) : YV F T ↔ F ≤ T := by
  obtain ⟨h1, h2⟩ := h
  unfold YV at *
  split at h1 <;> split at h2 <;> subst h1 h2 <;> omega
set_option maxHeartbeats 1000000 in
set_option maxRecDepth 100000 in
theorem hmeet_yes {fa ta fb tb F T : Int} (w : World) (ha : YV fa ta) (hb : YV fb tb) (hc : Com fa ta fb tb F T) (hFT : F ≤ T) :
    Calls Tryz.prog 77 #[.agg #[.int .i64 fa, .int .i64 ta], .agg #[.int .i64 fb, .int .i64 tb]] w fun e w' => e = .returned (.tuple #[.agg #[.int .i64 F, .int .i64 T], .bool true]) ∧ Below w.heap.size w w' := by
  have HA := yes ha
  have HB := yes hb
  have HC := yes ((hc.yv ha hb).2 hFT)
  have hgt : decide (T < F) = false := decide_eq_false (by omega)
  obtain ⟨h1, h2⟩ := hc
  clear ha hb hFT
  have key : (if fa < fb then fb else fa) = F ∧ (if ta < tb then ta else tb) = T := ⟨h1, h2⟩
  have HK := Lib.hid key
  clear key h1 h2
  have HX := ((BL.three w #[.int .i64 fa, .int .i64 ta] #[.int .i64 fb, .int .i64 tb] #[.int .i64 0, .int .i64 0] 24 24 24).new #[.int .i64 F, .int .i64 T] 24)
  simp only [List.cons_append, List.nil_append] at HX
  have HX := Lib.hid HX
  go_enter Tryz.func77, Tryz.ntmps77
  go_upto_region 1 with fail
  go_cut [6] (fun x wx => x = .pointer (some ⟨w.heap.size + 3, 0, none⟩) ∧ wx = (((w.alloc (.cells #[.int .i64 fa, .int .i64 ta] 24)).alloc (.cells #[.int .i64 fb, .int .i64 tb] 24)).alloc (.cells #[.int .i64 0, .int .i64 0] 24)).alloc (.cells #[.int .i64 F, .int .i64 T] 24))
  case first =>
    obtain ⟨h1, h2⟩ := HK.out
    clear HX HA HB HC
    by_cases k1 : fa < fb
    · rw [if_pos k1] at h1
      subst h1
      rcases Int.lt_trichotomy ta tb with k2 | k2 | k2
      · rw [if_pos k2] at h2
        subst h2
        go_wp2
        go_meet
        case rel => exact ⟨by first | rfl | simp, by first | rfl | simp⟩
      · subst k2
        rw [if_neg (Int.lt_irrefl _)] at h2
        subst h2
        go_wp2
        go_meet
        case rel => exact ⟨by first | rfl | simp, by first | rfl | simp⟩
      · rw [if_neg (by omega)] at h2
        subst h2
        go_wp2
        go_meet
        case rel => exact ⟨by first | rfl | simp, by first | rfl | simp⟩
    · rw [if_neg k1] at h1
      subst h1
      rcases Int.lt_trichotomy ta tb with k2 | k2 | k2
      · rw [if_pos k2] at h2
        subst h2
        go_wp2
        go_meet
        case rel => exact ⟨by first | rfl | simp, by first | rfl | simp⟩
      · subst k2
        rw [if_neg (Int.lt_irrefl _)] at h2
        subst h2
        go_wp2
        go_meet
        case rel => exact ⟨by first | rfl | simp, by first | rfl | simp⟩
      · rw [if_neg (by omega)] at h2
        subst h2
        go_wp2
        go_meet
        case rel => exact ⟨by first | rfl | simp, by first | rfl | simp⟩
  case rest =>
    obtain ⟨rfl, rfl⟩ := hcut
    have HX := HX.out
    rw [show (((w.alloc (.cells #[.int .i64 fa, .int .i64 ta] 24)).alloc (.cells #[.int .i64 fb, .int .i64 tb] 24)).alloc (.cells #[.int .i64 0, .int .i64 0] 24)).heap.size = w.heap.size + 3 from by simp] at HX
    clear HK
    generalize (((w.alloc (.cells #[.int .i64 fa, .int .i64 ta] 24)).alloc (.cells #[.int .i64 fb, .int .i64 tb] 24)).alloc (.cells #[.int .i64 0, .int .i64 0] 24)).alloc (.cells #[.int .i64 F, .int .i64 T] 24) = W2 at *
    have hc00 := HX.cell 0 0 rfl rfl
    have hc01 := HX.cell 0 1 rfl rfl
    try simp only [List.getElem_toArray, List.getElem_cons_zero, List.getElem_cons_succ] at hc00 hc01
    go_wp2_with fail
    refine (yvalid_any (b := true) _ HA).mono ?_
    rintro e w3 ⟨rfl, hb⟩
    clear hc00 hc01
    replace HX := HX.ext hb
    clear hb
    have hc10 := HX.cell 1 0 rfl rfl
    have hc11 := HX.cell 1 1 rfl rfl
    try simp only [List.getElem_toArray, List.getElem_cons_zero, List.getElem_cons_succ] at hc10 hc11
    go_wp2_with fail
    refine (yvalid_any (b := true) _ HB).mono ?_
    rintro e w4 ⟨rfl, hb⟩
    clear hc10 hc11
    replace HX := HX.ext hb
    clear hb
    have hc30 := HX.cell 3 0 rfl rfl
    have hc31 := HX.cell 3 1 rfl rfl
    try simp only [List.getElem_toArray, List.getElem_cons_zero, List.getElem_cons_succ] at hc30 hc31
    go_wp2_with fail
    refine (yvalid_any (b := true) _ HC).mono ?_
    rintro e w5 ⟨rfl, hb⟩
    clear hc30 hc31
    replace HX := HX.ext hb
    clear hb
    have hc30 := HX.cell 3 0 rfl rfl
    have hc31 := HX.cell 3 1 rfl rfl
    try simp only [List.getElem_toArray, List.getElem_cons_zero, List.getElem_cons_succ] at hc30 hc31
    have hc20 := HX.cell 2 0 rfl rfl
    have hc21 := HX.cell 2 1 rfl rfl
    try simp only [List.getElem_toArray, List.getElem_cons_zero, List.getElem_cons_succ] at hc20 hc21
    have hf20 := HX.free 2 0 rfl
    have hf21 := HX.free 2 1 rfl
    try simp only [] at hf20 hf21
    go_wp2
    clear hc20 hc21 hf20 hf21 hc30 hc31
    replace HX := HX.put2 2 rfl (by omega) (by intro k q hk hne; match k, hk with | 0, hk => (simp at hk; subst hk; simp at hne ⊢; try omega) | 1, hk => (simp at hk; subst hk; simp at hne ⊢; try omega) | 2, hk => (simp at hk; subst hk; simp at hne ⊢; try omega) | 3, hk => (simp at hk; subst hk; simp at hne ⊢; try omega) | k + 4, hk => simp at hk) (.int .i64 F) (.int .i64 T)
    simp only [List.set_cons_zero, List.set_cons_succ] at HX
    have hc20 := HX.cell 2 0 rfl rfl
    have hc21 := HX.cell 2 1 rfl rfl
    try simp only [List.getElem_toArray, List.getElem_cons_zero, List.getElem_cons_succ] at hc20 hc21
    exact bodyPost_ret (v := .tuple #[.agg #[.int .i64 F, .int .i64 T], .bool true]) (by simp [results, Tryz.results77, go_sem, hc20, hc21]) rfl ⟨rfl, HX.below⟩
set_option maxHeartbeats 1000000 in
set_option maxRecDepth 100000 in
theorem hmeet_no {fa ta fb tb F T : Int} (w : World) (ha : YV fa ta) (hb : YV fb tb) (hc : Com fa ta fb tb F T) (hFT : ¬ F ≤ T) :
    Calls Tryz.prog 77 #[.agg #[.int .i64 fa, .int .i64 ta], .agg #[.int .i64 fb, .int .i64 tb]] w fun e w' => e = .returned (.tuple #[.agg #[.int .i64 0, .int .i64 0], .bool false]) ∧ Below w.heap.size w w' := by
  have HA := yes ha
  have HB := yes hb
  have HC := no (fun h => hFT ((hc.yv ha hb).1 h))
  have hgt : decide (T < F) = true := decide_eq_true (by omega)
  obtain ⟨h1, h2⟩ := hc
  clear ha hb hFT
  have key : (if fa < fb then fb else fa) = F ∧ (if ta < tb then ta else tb) = T := ⟨h1, h2⟩
  have HK := Lib.hid key
  clear key h1 h2
  have HX := ((BL.three w #[.int .i64 fa, .int .i64 ta] #[.int .i64 fb, .int .i64 tb] #[.int .i64 0, .int .i64 0] 24 24 24).new #[.int .i64 F, .int .i64 T] 24)
  simp only [List.cons_append, List.nil_append] at HX
  have HX := Lib.hid HX
  go_enter Tryz.func77, Tryz.ntmps77
  go_upto_region 1 with fail
  go_cut [6] (fun x wx => x = .pointer (some ⟨w.heap.size + 3, 0, none⟩) ∧ wx = (((w.alloc (.cells #[.int .i64 fa, .int .i64 ta] 24)).alloc (.cells #[.int .i64 fb, .int .i64 tb] 24)).alloc (.cells #[.int .i64 0, .int .i64 0] 24)).alloc (.cells #[.int .i64 F, .int .i64 T] 24))
  case first =>
    obtain ⟨h1, h2⟩ := HK.out
    clear HX HA HB HC
    by_cases k1 : fa < fb
    · rw [if_pos k1] at h1
      subst h1
      rcases Int.lt_trichotomy ta tb with k2 | k2 | k2
      · rw [if_pos k2] at h2
        subst h2
        go_wp2
        go_meet
        case rel => exact ⟨by first | rfl | simp, by first | rfl | simp⟩
      · subst k2
        rw [if_neg (Int.lt_irrefl _)] at h2
        subst h2
        go_wp2
        go_meet
        case rel => exact ⟨by first | rfl | simp, by first | rfl | simp⟩
      · rw [if_neg (by omega)] at h2
        subst h2
        go_wp2
        go_meet
        case rel => exact ⟨by first | rfl | simp, by first | rfl | simp⟩
    · rw [if_neg k1] at h1
      subst h1
      rcases Int.lt_trichotomy ta tb with k2 | k2 | k2
      · rw [if_pos k2] at h2
        subst h2
        go_wp2
        go_meet
        case rel => exact ⟨by first | rfl | simp, by first | rfl | simp⟩
      · subst k2
        rw [if_neg (Int.lt_irrefl _)] at h2
        subst h2
        go_wp2
        go_meet
        case rel => exact ⟨by first | rfl | simp, by first | rfl | simp⟩
      · rw [if_neg (by omega)] at h2
        subst h2
        go_wp2
        go_meet
        case rel => exact ⟨by first | rfl | simp, by first | rfl | simp⟩
  case rest =>
    obtain ⟨rfl, rfl⟩ := hcut
    have HX := HX.out
    rw [show (((w.alloc (.cells #[.int .i64 fa, .int .i64 ta] 24)).alloc (.cells #[.int .i64 fb, .int .i64 tb] 24)).alloc (.cells #[.int .i64 0, .int .i64 0] 24)).heap.size = w.heap.size + 3 from by simp] at HX
    clear HK
    generalize (((w.alloc (.cells #[.int .i64 fa, .int .i64 ta] 24)).alloc (.cells #[.int .i64 fb, .int .i64 tb] 24)).alloc (.cells #[.int .i64 0, .int .i64 0] 24)).alloc (.cells #[.int .i64 F, .int .i64 T] 24) = W2 at *
    have hc00 := HX.cell 0 0 rfl rfl
    have hc01 := HX.cell 0 1 rfl rfl
    try simp only [List.getElem_toArray, List.getElem_cons_zero, List.getElem_cons_succ] at hc00 hc01
    go_wp2_with fail
    refine (yvalid_any (b := true) _ HA).mono ?_
    rintro e w3 ⟨rfl, hb⟩
    clear hc00 hc01
    replace HX := HX.ext hb
    clear hb
    have hc10 := HX.cell 1 0 rfl rfl
    have hc11 := HX.cell 1 1 rfl rfl
    try simp only [List.getElem_toArray, List.getElem_cons_zero, List.getElem_cons_succ] at hc10 hc11
    go_wp2_with fail
    refine (yvalid_any (b := true) _ HB).mono ?_
    rintro e w4 ⟨rfl, hb⟩
    clear hc10 hc11
    replace HX := HX.ext hb
    clear hb
    have hc30 := HX.cell 3 0 rfl rfl
    have hc31 := HX.cell 3 1 rfl rfl
    try simp only [List.getElem_toArray, List.getElem_cons_zero, List.getElem_cons_succ] at hc30 hc31
    go_wp2_with fail
    refine (yvalid_any (b := false) _ HC).mono ?_
    rintro e w5 ⟨rfl, hb⟩
    clear hc30 hc31
    replace HX := HX.ext hb
    clear hb
    have hc30 := HX.cell 3 0 rfl rfl
    have hc31 := HX.cell 3 1 rfl rfl
    try simp only [List.getElem_toArray, List.getElem_cons_zero, List.getElem_cons_succ] at hc30 hc31
    have hc20 := HX.cell 2 0 rfl rfl
    have hc21 := HX.cell 2 1 rfl rfl
    try simp only [List.getElem_toArray, List.getElem_cons_zero, List.getElem_cons_succ] at hc20 hc21
    have hf20 := HX.free 2 0 rfl
    have hf21 := HX.free 2 1 rfl
    try simp only [] at hf20 hf21
    go_wp2
    clear hc20 hc21 hf20 hf21 hc30 hc31
    replace HX := HX.put2 2 rfl (by omega) (by intro k q hk hne; match k, hk with | 0, hk => (simp at hk; subst hk; simp at hne ⊢; try omega) | 1, hk => (simp at hk; subst hk; simp at hne ⊢; try omega) | 2, hk => (simp at hk; subst hk; simp at hne ⊢; try omega) | 3, hk => (simp at hk; subst hk; simp at hne ⊢; try omega) | k + 4, hk => simp at hk) (.int .i64 0) (.int .i64 0)
    simp only [List.set_cons_zero, List.set_cons_succ] at HX
    have hc20 := HX.cell 2 0 rfl rfl
    have hc21 := HX.cell 2 1 rfl rfl
    try simp only [List.getElem_toArray, List.getElem_cons_zero, List.getElem_cons_succ] at hc20 hc21
    exact bodyPost_ret (v := .tuple #[.agg #[.int .i64 0, .int .i64 0], .bool false]) (by simp [results, Tryz.results77, go_sem, hc20, hc21]) rfl ⟨rfl, HX.below⟩
end Go.Proofs.YthempimelfmipaaGreatDoor

namespace Go.Proofs.YthempimelfmipaaGreatDoor
open Go.RowKit Go.Proofs Go

/-- the types up to k of both, with their numbers -/
def mergeP (a b : List (Int × Int)) : Nat → List (Int × Int)
  | 0 => []
  | k + 1 => mergeP a b k ++ (if 0 < numE a ((k : Int) + 1) + numE b ((k : Int) + 1) then [((k : Int) + 1, numE a ((k : Int) + 1) + numE b ((k : Int) + 1))] else [])
def greatP (a b : List (Int × Int)) (k : Nat) : Bool := (mergeP a b k).any fun x => decide (999 < x.2)
theorem mergeP_yes {a b : List (Int × Int)} {k : Nat} (h : 0 < numE a ((k : Int) + 1) + numE b ((k : Int) + 1)) : mergeP a b (k + 1) = mergeP a b k ++ [((k : Int) + 1, numE a ((k : Int) + 1) + numE b ((k : Int) + 1))] := by rw [mergeP, if_pos h]
theorem mergeP_no {a b : List (Int × Int)} {k : Nat} (h : ¬ 0 < numE a ((k : Int) + 1) + numE b ((k : Int) + 1)) : mergeP a b (k + 1) = mergeP a b k := by rw [mergeP, if_neg h, List.append_nil]
theorem greatP_no {a b : List (Int × Int)} {k : Nat} (h : ¬ 0 < numE a ((k : Int) + 1) + numE b ((k : Int) + 1)) : greatP a b (k + 1) = greatP a b k := by rw [greatP, mergeP_no h]; rfl
theorem greatP_yes {a b : List (Int × Int)} {k : Nat} (h : 0 < numE a ((k : Int) + 1) + numE b ((k : Int) + 1)) : greatP a b (k + 1) = (greatP a b k || decide (999 < numE a ((k : Int) + 1) + numE b ((k : Int) + 1))) := by
  rw [greatP, mergeP_yes h, List.any_append]; simp [greatP]
theorem mergeP_len (a b : List (Int × Int)) : ∀ k, (mergeP a b k).length ≤ k
  | 0 => Nat.le_refl _
  | k + 1 => by
    have := mergeP_len a b k
    rw [mergeP, List.length_append]
    split <;> simp <;> omega
/-- what two hoards make -/
def MergeIs (ida : Int) (la : List (Int × Int)) (fa ta idb : Int) (lb : List (Int × Int)) (fb tb : Int) (id : Int) (L : List (Int × Int)) (f t err : Int) : Prop :=
  (¬ (HV ida la fa ta ∧ HV idb lb fb tb) ∧ id = 0 ∧ L = [] ∧ f = 0 ∧ t = 0 ∧ err = 1) ∨
  (HV ida la fa ta ∧ HV idb lb fb tb ∧ ∃ F T, Com fa ta fb tb F T ∧
    ((¬ F ≤ T ∧ id = 0 ∧ L = [] ∧ f = 0 ∧ t = 0 ∧ err = 10) ∨
     (F ≤ T ∧ 32 < (mergeP la lb 99).length ∧ id = 0 ∧ L = [] ∧ f = 0 ∧ t = 0 ∧ err = 6) ∨
     (F ≤ T ∧ (mergeP la lb 99).length ≤ 32 ∧ greatP la lb 99 = true ∧ id = 0 ∧ L = [] ∧ f = 0 ∧ t = 0 ∧ err = 2) ∨
     (F ≤ T ∧ (mergeP la lb 99).length ≤ 32 ∧ greatP la lb 99 = false ∧ ida = id ∧ mergeP la lb 99 = L ∧ F = f ∧ T = t ∧ err = 0)))
theorem MergeIs.ex (ida : Int) (la : List (Int × Int)) (fa ta idb : Int) (lb : List (Int × Int)) (fb tb : Int) : ∃ id L f t err, MergeIs ida la fa ta idb lb fb tb id L f t err := by
  by_cases h : HV ida la fa ta ∧ HV idb lb fb tb
  · obtain ⟨F, T, hc⟩ := Com.ex fa ta fb tb
    by_cases h1 : F ≤ T
    · by_cases h2 : 32 < (mergeP la lb 99).length
      · exact ⟨_, _, _, _, _, .inr ⟨h.1, h.2, F, T, hc, .inr (.inl ⟨h1, h2, rfl, rfl, rfl, rfl, rfl⟩)⟩⟩
      · cases hg : greatP la lb 99
        · exact ⟨_, _, _, _, _, .inr ⟨h.1, h.2, F, T, hc, .inr (.inr (.inr ⟨h1, by omega, hg, rfl, rfl, rfl, rfl, rfl⟩))⟩⟩
        · exact ⟨_, _, _, _, _, .inr ⟨h.1, h.2, F, T, hc, .inr (.inr (.inl ⟨h1, by omega, hg, rfl, rfl, rfl, rfl, rfl⟩))⟩⟩
    · exact ⟨_, _, _, _, _, .inr ⟨h.1, h.2, F, T, hc, .inl ⟨h1, rfl, rfl, rfl, rfl, rfl⟩⟩⟩
  · exact ⟨_, _, _, _, _, .inl ⟨h, rfl, rfl, rfl, rfl, rfl⟩⟩
/-- a hoard and an error, handed back -/
def RetM (w : World) (id : Int) (L : List (Int × Int)) (f t err : Int) (e : Ending) (w' : World) : Prop :=
  ∃ A c, e = .returned (.tuple #[.agg #[.int .i64 id, .slice A L.length c, .int .i64 f, .int .i64 t], .int .i64 err]) ∧ Es w' A L ∧ Below w.heap.size w w'
set_option maxHeartbeats 1000000 in
set_option maxRecDepth 100000 in
theorem hmerge_bad {ida fa ta idb fb tb : Int} (A A' : Option Addr) (c c' : Nat) (la lb : List (Int × Int)) (w : World) (HA : Es w A la) (HB : Es w A' lb) (hla : la.length ≤ 9223372036854775807) (hlb : lb.length ≤ 9223372036854775807) (h : ¬ (HV ida la fa ta ∧ HV idb lb fb tb)) :
    Calls Tryz.prog 38 #[.agg #[.int .i64 ida, .slice A la.length c, .int .i64 fa, .int .i64 ta], .agg #[.int .i64 idb, .slice A' lb.length c', .int .i64 fb, .int .i64 tb]] w (RetM w 0 [] 0 0 1) := by
  by_cases ha : HV ida la fa ta
  · have hb0 : ¬ HV idb lb fb tb := fun hb => h ⟨ha, hb⟩
    have KA := yes ha
    have KB := no hb0
    clear h ha hb0
    have HX := BL.three w #[.int .i64 ida, .slice A la.length c, .int .i64 fa, .int .i64 ta] #[.int .i64 idb, .slice A' lb.length c', .int .i64 fb, .int .i64 tb] #[.int .i64 0, .slice none 0 0, .int .i64 0, .int .i64 0] 26 26 26
    go_enter Tryz.func38, Tryz.ntmps38
    go_upto_region 1 with fail
    generalize ((w.alloc (.cells #[.int .i64 ida, .slice A la.length c, .int .i64 fa, .int .i64 ta] 26)).alloc (.cells #[.int .i64 idb, .slice A' lb.length c', .int .i64 fb, .int .i64 tb] 26)).alloc (.cells #[.int .i64 0, .slice none 0 0, .int .i64 0, .int .i64 0] 26) = W1 at *
    have hc00 := HX.cell 0 0 rfl rfl
    have hc01 := HX.cell 0 1 rfl rfl
    have hc02 := HX.cell 0 2 rfl rfl
    have hc03 := HX.cell 0 3 rfl rfl
    try simp only [List.getElem_toArray, List.getElem_cons_zero, List.getElem_cons_succ] at hc00 hc01 hc02 hc03
    go_wp2_with fail
    refine (hvalid_any (b := true) A c la _ (HA.ext HX.below) hla KA).mono ?_
    rintro e w2 ⟨rfl, hb⟩
    clear hc00 hc01 hc02 hc03
    replace HX := HX.ext hb
    clear hb
    have hc10 := HX.cell 1 0 rfl rfl
    have hc11 := HX.cell 1 1 rfl rfl
    have hc12 := HX.cell 1 2 rfl rfl
    have hc13 := HX.cell 1 3 rfl rfl
    try simp only [List.getElem_toArray, List.getElem_cons_zero, List.getElem_cons_succ] at hc10 hc11 hc12 hc13
    go_wp2_with fail
    refine (hvalid_any (b := false) A' c' lb _ (HB.ext HX.below) hlb KB).mono ?_
    rintro e w3 ⟨rfl, hb⟩
    clear hc10 hc11 hc12 hc13
    replace HX := HX.ext hb
    clear hb
    have hc20 := HX.cell 2 0 rfl rfl
    have hc21 := HX.cell 2 1 rfl rfl
    have hc22 := HX.cell 2 2 rfl rfl
    have hc23 := HX.cell 2 3 rfl rfl
    try simp only [List.getElem_toArray, List.getElem_cons_zero, List.getElem_cons_succ] at hc20 hc21 hc22 hc23
    have hf20 := HX.free 2 0 rfl
    have hf21 := HX.free 2 1 rfl
    have hf22 := HX.free 2 2 rfl
    have hf23 := HX.free 2 3 rfl
    try simp only [] at hf20 hf21 hf22 hf23
    go_wp2
    clear hc20 hf20 hc21 hf21 hc22 hf22 hc23 hf23
    replace HX := HX.put4 2 rfl (by omega) (by intro k q hk hne; match k, hk with | 0, hk => (simp at hk; subst hk; simp at hne ⊢; try omega) | 1, hk => (simp at hk; subst hk; simp at hne ⊢; try omega) | 2, hk => (simp at hk; subst hk; simp at hne ⊢; try omega) | k + 3, hk => simp at hk) (.int .i64 0) (.slice none 0 0) (.int .i64 0) (.int .i64 0)
    simp only [List.set_cons_zero, List.set_cons_succ] at HX
    have hc20 := HX.cell 2 0 rfl rfl
    have hc21 := HX.cell 2 1 rfl rfl
    have hc22 := HX.cell 2 2 rfl rfl
    have hc23 := HX.cell 2 3 rfl rfl
    try simp only [List.getElem_toArray, List.getElem_cons_zero, List.getElem_cons_succ] at hc20 hc21 hc22 hc23
    exact bodyPost_ret (v := .tuple #[.agg #[.int .i64 0, .slice none 0 0, .int .i64 0, .int .i64 0], .int .i64 1]) (by simp [results, Tryz.results38, go_sem, hc20, hc21, hc22, hc23]) rfl ⟨_, _, rfl, Es.nil _ _, HX.below⟩
  · have KA := no ha
    clear h ha
    have HX := BL.three w #[.int .i64 ida, .slice A la.length c, .int .i64 fa, .int .i64 ta] #[.int .i64 idb, .slice A' lb.length c', .int .i64 fb, .int .i64 tb] #[.int .i64 0, .slice none 0 0, .int .i64 0, .int .i64 0] 26 26 26
    go_enter Tryz.func38, Tryz.ntmps38
    go_upto_region 1 with fail
    generalize ((w.alloc (.cells #[.int .i64 ida, .slice A la.length c, .int .i64 fa, .int .i64 ta] 26)).alloc (.cells #[.int .i64 idb, .slice A' lb.length c', .int .i64 fb, .int .i64 tb] 26)).alloc (.cells #[.int .i64 0, .slice none 0 0, .int .i64 0, .int .i64 0] 26) = W1 at *
    have hc00 := HX.cell 0 0 rfl rfl
    have hc01 := HX.cell 0 1 rfl rfl
    have hc02 := HX.cell 0 2 rfl rfl
    have hc03 := HX.cell 0 3 rfl rfl
    try simp only [List.getElem_toArray, List.getElem_cons_zero, List.getElem_cons_succ] at hc00 hc01 hc02 hc03
    go_wp2_with fail
    refine (hvalid_any (b := false) A c la _ (HA.ext HX.below) hla KA).mono ?_
    rintro e w2 ⟨rfl, hb⟩
    clear hc00 hc01 hc02 hc03
    replace HX := HX.ext hb
    clear hb
    have hc20 := HX.cell 2 0 rfl rfl
    have hc21 := HX.cell 2 1 rfl rfl
    have hc22 := HX.cell 2 2 rfl rfl
    have hc23 := HX.cell 2 3 rfl rfl
    try simp only [List.getElem_toArray, List.getElem_cons_zero, List.getElem_cons_succ] at hc20 hc21 hc22 hc23
    have hf20 := HX.free 2 0 rfl
    have hf21 := HX.free 2 1 rfl
    have hf22 := HX.free 2 2 rfl
    have hf23 := HX.free 2 3 rfl
    try simp only [] at hf20 hf21 hf22 hf23
    go_wp2
    clear hc20 hf20 hc21 hf21 hc22 hf22 hc23 hf23
    replace HX := HX.put4 2 rfl (by omega) (by intro k q hk hne; match k, hk with | 0, hk => (simp at hk; subst hk; simp at hne ⊢; try omega) | 1, hk => (simp at hk; subst hk; simp at hne ⊢; try omega) | 2, hk => (simp at hk; subst hk; simp at hne ⊢; try omega) | k + 3, hk => simp at hk) (.int .i64 0) (.slice none 0 0) (.int .i64 0) (.int .i64 0)
    simp only [List.set_cons_zero, List.set_cons_succ] at HX
    have hc20 := HX.cell 2 0 rfl rfl
    have hc21 := HX.cell 2 1 rfl rfl
    have hc22 := HX.cell 2 2 rfl rfl
    have hc23 := HX.cell 2 3 rfl rfl
    try simp only [List.getElem_toArray, List.getElem_cons_zero, List.getElem_cons_succ] at hc20 hc21 hc22 hc23
    exact bodyPost_ret (v := .tuple #[.agg #[.int .i64 0, .slice none 0 0, .int .i64 0, .int .i64 0], .int .i64 1]) (by simp [results, Tryz.results38, go_sem, hc20, hc21, hc22, hc23]) rfl ⟨_, _, rfl, Es.nil _ _, HX.below⟩
set_option maxHeartbeats 1000000 in
set_option maxRecDepth 100000 in
theorem hmerge_apart {ida fa ta idb fb tb F T : Int} (A A' : Option Addr) (c c' : Nat) (la lb : List (Int × Int)) (w : World) (HA : Es w A la) (HB : Es w A' lb) (hla : la.length ≤ 9223372036854775807) (hlb : lb.length ≤ 9223372036854775807) (ha : HV ida la fa ta) (hb : HV idb lb fb tb) (hc : Com fa ta fb tb F T) (hFT : ¬ F ≤ T) :
    Calls Tryz.prog 38 #[.agg #[.int .i64 ida, .slice A la.length c, .int .i64 fa, .int .i64 ta], .agg #[.int .i64 idb, .slice A' lb.length c', .int .i64 fb, .int .i64 tb]] w (RetM w 0 [] 0 0 10) := by
  have KA := yes ha
  have KB := yes hb
  have ha := Lib.hid ha
  have hb := Lib.hid hb
  have hc := Lib.hid hc
  have hFT := Lib.hid hFT
  have HX := BL.three w #[.int .i64 ida, .slice A la.length c, .int .i64 fa, .int .i64 ta] #[.int .i64 idb, .slice A' lb.length c', .int .i64 fb, .int .i64 tb] #[.int .i64 0, .slice none 0 0, .int .i64 0, .int .i64 0] 26 26 26
  go_enter Tryz.func38, Tryz.ntmps38
  go_upto_region 1 with fail
  generalize ((w.alloc (.cells #[.int .i64 ida, .slice A la.length c, .int .i64 fa, .int .i64 ta] 26)).alloc (.cells #[.int .i64 idb, .slice A' lb.length c', .int .i64 fb, .int .i64 tb] 26)).alloc (.cells #[.int .i64 0, .slice none 0 0, .int .i64 0, .int .i64 0] 26) = W1 at *
  have hc00 := HX.cell 0 0 rfl rfl
  have hc01 := HX.cell 0 1 rfl rfl
  have hc02 := HX.cell 0 2 rfl rfl
  have hc03 := HX.cell 0 3 rfl rfl
  try simp only [List.getElem_toArray, List.getElem_cons_zero, List.getElem_cons_succ] at hc00 hc01 hc02 hc03
  go_wp2_with fail
  refine (hvalid_any (b := true) A c la _ (HA.ext HX.below) hla KA).mono ?_
  rintro e w2 ⟨rfl, hb⟩
  clear hc00 hc01 hc02 hc03
  replace HX := HX.ext hb
  clear hb
  have hc10 := HX.cell 1 0 rfl rfl
  have hc11 := HX.cell 1 1 rfl rfl
  have hc12 := HX.cell 1 2 rfl rfl
  have hc13 := HX.cell 1 3 rfl rfl
  try simp only [List.getElem_toArray, List.getElem_cons_zero, List.getElem_cons_succ] at hc10 hc11 hc12 hc13
  go_wp2_with fail
  refine (hvalid_any (b := true) A' c' lb _ (HB.ext HX.below) hlb KB).mono ?_
  rintro e w3 ⟨rfl, hb⟩
  clear hc10 hc11 hc12 hc13
  replace HX := HX.ext hb
  clear hb
  have hc00 := HX.cell 0 0 rfl rfl
  have hc01 := HX.cell 0 1 rfl rfl
  have hc02 := HX.cell 0 2 rfl rfl
  have hc03 := HX.cell 0 3 rfl rfl
  try simp only [List.getElem_toArray, List.getElem_cons_zero, List.getElem_cons_succ] at hc00 hc01 hc02 hc03
  have hc10 := HX.cell 1 0 rfl rfl
  have hc11 := HX.cell 1 1 rfl rfl
  have hc12 := HX.cell 1 2 rfl rfl
  have hc13 := HX.cell 1 3 rfl rfl
  try simp only [List.getElem_toArray, List.getElem_cons_zero, List.getElem_cons_succ] at hc10 hc11 hc12 hc13
  go_wp2_with fail
  refine (hmeet_no (F := F) (T := T) _ ha.out.2.2.2 hb.out.2.2.2 hc.out (by have := hFT.out; omega)).mono ?_
  rintro e w4 ⟨rfl, hb4⟩
  clear hc00 hc01 hc02 hc03
  clear hc10 hc11 hc12 hc13
  replace HX := HX.ext hb4
  clear hb4
  go_upto_region 4 with fail
  have hlt4 := HX.lt 2 rfl
  simp only [] at hlt4
  replace HX := HX.new #[.int .i64 0, .int .i64 0] 24
  simp only [List.cons_append, List.nil_append] at HX
  generalize w4.alloc (.cells #[.int .i64 0, .int .i64 0] 24) = W4 at *
  generalize w4.heap.size = g4 at *
  have hc20 := HX.cell 2 0 rfl rfl
  have hc21 := HX.cell 2 1 rfl rfl
  have hc22 := HX.cell 2 2 rfl rfl
  have hc23 := HX.cell 2 3 rfl rfl
  try simp only [List.getElem_toArray, List.getElem_cons_zero, List.getElem_cons_succ] at hc20 hc21 hc22 hc23
  have hf20 := HX.free 2 0 rfl
  have hf21 := HX.free 2 1 rfl
  have hf22 := HX.free 2 2 rfl
  have hf23 := HX.free 2 3 rfl
  try simp only [] at hf20 hf21 hf22 hf23
  go_wp2
  clear hc20 hf20 hc21 hf21 hc22 hf22 hc23 hf23
  replace HX := HX.put4 2 rfl (by omega) (by intro k q hk hne; match k, hk with | 0, hk => (simp at hk; subst hk; simp at hne ⊢; try omega) | 1, hk => (simp at hk; subst hk; simp at hne ⊢; try omega) | 2, hk => (simp at hk; subst hk; simp at hne ⊢; try omega) | 3, hk => (simp at hk; subst hk; simp at hne ⊢; try omega) | k + 4, hk => simp at hk) (.int .i64 0) (.slice none 0 0) (.int .i64 0) (.int .i64 0)
  simp only [List.set_cons_zero, List.set_cons_succ] at HX
  have hc20 := HX.cell 2 0 rfl rfl
  have hc21 := HX.cell 2 1 rfl rfl
  have hc22 := HX.cell 2 2 rfl rfl
  have hc23 := HX.cell 2 3 rfl rfl
  try simp only [List.getElem_toArray, List.getElem_cons_zero, List.getElem_cons_succ] at hc20 hc21 hc22 hc23
  exact bodyPost_ret (v := .tuple #[.agg #[.int .i64 0, .slice none 0 0, .int .i64 0, .int .i64 0], .int .i64 10]) (by simp [results, Tryz.results38, go_sem, hc20, hc21, hc22, hc23]) rfl ⟨_, _, rfl, Es.nil _ _, HX.below⟩
set_option maxHeartbeats 4000000 in
set_option maxRecDepth 100000 in
theorem hmerge_go {ida fa ta idb fb tb F T id f t err : Int} {L : List (Int × Int)} (A A' : Option Addr) (c c' : Nat) (la lb : List (Int × Int)) (w : World) (HA : Es w A la) (HB : Es w A' lb) (hla : la.length ≤ 9223372036854775807) (hlb : lb.length ≤ 9223372036854775807) (ha : HV ida la fa ta) (hb : HV idb lb fb tb) (hc : Com fa ta fb tb F T) (hFT : F ≤ T)
    (hend : (32 < (mergeP la lb 99).length ∧ id = 0 ∧ L = [] ∧ f = 0 ∧ t = 0 ∧ err = 6) ∨ ((mergeP la lb 99).length ≤ 32 ∧ greatP la lb 99 = true ∧ id = 0 ∧ L = [] ∧ f = 0 ∧ t = 0 ∧ err = 2) ∨ ((mergeP la lb 99).length ≤ 32 ∧ greatP la lb 99 = false ∧ ida = id ∧ mergeP la lb 99 = L ∧ F = f ∧ T = t ∧ err = 0)) :
    Calls Tryz.prog 38 #[.agg #[.int .i64 ida, .slice A la.length c, .int .i64 fa, .int .i64 ta], .agg #[.int .i64 idb, .slice A' lb.length c', .int .i64 fb, .int .i64 tb]] w (RetM w id L f t err) := by
  have KA := yes ha
  have KB := yes hb
  have ha := Lib.hid ha
  have hb := Lib.hid hb
  have hc := Lib.hid hc
  have hFT := Lib.hid hFT
  have hend := Lib.hid hend
  have HX := BL.three w #[.int .i64 ida, .slice A la.length c, .int .i64 fa, .int .i64 ta] #[.int .i64 idb, .slice A' lb.length c', .int .i64 fb, .int .i64 tb] #[.int .i64 0, .slice none 0 0, .int .i64 0, .int .i64 0] 26 26 26
  go_enter Tryz.func38, Tryz.ntmps38
  go_upto_region 1 with fail
  generalize ((w.alloc (.cells #[.int .i64 ida, .slice A la.length c, .int .i64 fa, .int .i64 ta] 26)).alloc (.cells #[.int .i64 idb, .slice A' lb.length c', .int .i64 fb, .int .i64 tb] 26)).alloc (.cells #[.int .i64 0, .slice none 0 0, .int .i64 0, .int .i64 0] 26) = W1 at *
  have hc00 := HX.cell 0 0 rfl rfl
  have hc01 := HX.cell 0 1 rfl rfl
  have hc02 := HX.cell 0 2 rfl rfl
  have hc03 := HX.cell 0 3 rfl rfl
  try simp only [List.getElem_toArray, List.getElem_cons_zero, List.getElem_cons_succ] at hc00 hc01 hc02 hc03
  go_wp2_with fail
  refine (hvalid_any (b := true) A c la _ (HA.ext HX.below) hla KA).mono ?_
  rintro e w2 ⟨rfl, hb⟩
  clear hc00 hc01 hc02 hc03
  replace HX := HX.ext hb
  clear hb
  have hc10 := HX.cell 1 0 rfl rfl
  have hc11 := HX.cell 1 1 rfl rfl
  have hc12 := HX.cell 1 2 rfl rfl
  have hc13 := HX.cell 1 3 rfl rfl
  try simp only [List.getElem_toArray, List.getElem_cons_zero, List.getElem_cons_succ] at hc10 hc11 hc12 hc13
  go_wp2_with fail
  refine (hvalid_any (b := true) A' c' lb _ (HB.ext HX.below) hlb KB).mono ?_
  rintro e w3 ⟨rfl, hb⟩
  clear hc10 hc11 hc12 hc13
  replace HX := HX.ext hb
  clear hb
  have hc00 := HX.cell 0 0 rfl rfl
  have hc01 := HX.cell 0 1 rfl rfl
  have hc02 := HX.cell 0 2 rfl rfl
  have hc03 := HX.cell 0 3 rfl rfl
  try simp only [List.getElem_toArray, List.getElem_cons_zero, List.getElem_cons_succ] at hc00 hc01 hc02 hc03
  have hc10 := HX.cell 1 0 rfl rfl
  have hc11 := HX.cell 1 1 rfl rfl
  have hc12 := HX.cell 1 2 rfl rfl
  have hc13 := HX.cell 1 3 rfl rfl
  try simp only [List.getElem_toArray, List.getElem_cons_zero, List.getElem_cons_succ] at hc10 hc11 hc12 hc13
  go_wp2_with fail
  refine (hmeet_yes (F := F) (T := T) _ ha.out.2.2.2 hb.out.2.2.2 hc.out hFT.out).mono ?_
  rintro e w4 ⟨rfl, hb4⟩
  clear hc00 hc01 hc02 hc03
  clear hc10 hc11 hc12 hc13
  replace HX := HX.ext hb4
  clear hb4
  go_upto_region 4 with fail
  have hlt4 := HX.lt 2 rfl
  simp only [] at hlt4
  replace HX := HX.new #[.int .i64 F, .int .i64 T] 24
  simp only [List.cons_append, List.nil_append] at HX
  generalize w4.alloc (.cells #[.int .i64 F, .int .i64 T] 24) = W4 at *
  generalize w4.heap.size = g4 at *
  have hm0 : mergeP la lb 0 = [] := rfl
  have hc00 := HX.cell 0 0 rfl rfl
  have hc01 := HX.cell 0 1 rfl rfl
  have hc02 := HX.cell 0 2 rfl rfl
  have hc03 := HX.cell 0 3 rfl rfl
  try simp only [List.getElem_toArray, List.getElem_cons_zero, List.getElem_cons_succ] at hc00 hc01 hc02 hc03
  have hc30 := HX.cell 3 0 rfl rfl
  have hc31 := HX.cell 3 1 rfl rfl
  try simp only [List.getElem_toArray, List.getElem_cons_zero, List.getElem_cons_succ] at hc30 hc31
  go_upto_region 7 with fail
  clear hc00 hc01 hc02 hc03
  clear hc30 hc31
  have hlt8 := HX.lt 3 rfl
  simp only [] at hlt8
  replace HX := HX.new #[.int .i64 ida, .slice none 0 0, .int .i64 F, .int .i64 T] 26
  simp only [List.cons_append, List.nil_append] at HX
  generalize W4.alloc (.cells #[.int .i64 ida, .slice none 0 0, .int .i64 F, .int .i64 T] 26) = W8 at *
  generalize W4.heap.size = g8 at *
  have hltB := HX.lt 4 rfl
  simp only [] at hltB
  obtain ⟨B, hB⟩ : ∃ B, W8.heap.size = B := ⟨_, rfl⟩
  have hBw : w.heap.size ≤ B := by omega
  have HOWN := EOwn.nil W8 B
  go_wp2
  go_loopg [9, 10] 99 (fun kk g i wr => ∃ (k : Nat) (A8 : Option Addr) (c8 : Nat), k + kk = 99 ∧ i = .int .i64 ((k : Int) + 1) ∧ g = .bool (greatP la lb k) ∧ EOwn wr B A8 c8 (mergeP la lb k) ∧ BL w wr [(w.heap.size, #[.int .i64 ida, .slice A la.length c, .int .i64 fa, .int .i64 ta], 26), (w.heap.size + 1, #[.int .i64 idb, .slice A' lb.length c', .int .i64 fb, .int .i64 tb], 26), (w.heap.size + 2, #[.int .i64 0, .slice none 0 0, .int .i64 0, .int .i64 0], 26), (g4, #[.int .i64 F, .int .i64 T], 24), (g8, #[.int .i64 ida, .slice A8 (mergeP la lb k).length c8, .int .i64 F, .int .i64 T], 26)] ∧ B ≤ wr.heap.size)
  case atStart => exact ⟨0, none, 0, rfl, rfl, rfl, HOWN, HX, by omega⟩
  case round =>
    clear HX HOWN
    obtain ⟨k, A8, c8, hk, rfl, rfl, HOWN, HX, hBr⟩ := hrel
    have hlen := mergeP_len la lb k
    by_cases hk0 : k < 99
    · have hna := ha.out.num la.length ((k : Int) + 1)
      have hnb := hb.out.num lb.length ((k : Int) + 1)
      rw [List.take_length] at hna hnb
      have NA : NumIs ida la fa ta ((k : Int) + 1) (numE la ((k : Int) + 1)) := ⟨fun _ => rfl, fun h => absurd ha.out h⟩
      have NB : NumIs idb lb fb tb ((k : Int) + 1) (numE lb ((k : Int) + 1)) := ⟨fun _ => rfl, fun h => absurd hb.out h⟩
      have HY := Lib.hid (fun h => mergeP_yes (a := la) (b := lb) (k := k) h)
      have HN := Lib.hid (fun h => mergeP_no (a := la) (b := lb) (k := k) h)
      have GY := Lib.hid (fun h => greatP_yes (a := la) (b := lb) (k := k) h)
      have GN := Lib.hid (fun h => greatP_no (a := la) (b := lb) (k := k) h)
      generalize numE la ((k : Int) + 1) = na at *
      generalize numE lb ((k : Int) + 1) = nb at *
      obtain ⟨m, hm⟩ : ∃ m, mergeP la lb k = m := ⟨_, rfl⟩
      obtain ⟨gb, hgb⟩ : ∃ gb, greatP la lb k = gb := ⟨_, rfl⟩
      rw [hm] at HY HN HOWN HX hlen
      rw [hgb] at GY GN
      have HM := Lib.hid hm
      rw [hgb]
      clear hm hgb
      have hwr : IntKind.i64.wrap (na + nb) = na + nb := Go.IntWalk.i64_in _ (by omega)
      have hk1 : (k : Int) + 1 ≤ 99 := by omega
      go_upto_region 11 with fail
      have held : ∀ {W' : World}, BL w W' [(w.heap.size, #[.int .i64 ida, .slice A la.length c, .int .i64 fa, .int .i64 ta], 26), (w.heap.size + 1, #[.int .i64 idb, .slice A' lb.length c', .int .i64 fb, .int .i64 tb], 26), (w.heap.size + 2, #[.int .i64 0, .slice none 0 0, .int .i64 0, .int .i64 0], 26), (g4, #[.int .i64 F, .int .i64 T], 24), (g8, #[.int .i64 ida, .slice A8 m.length c8, .int .i64 F, .int .i64 T], 26)] → W'.cell? ⟨w.heap.size, 0, none⟩ = some (.int .i64 ida) ∧ W'.cell? ⟨w.heap.size, 1, none⟩ = some (.slice A la.length c) ∧ W'.cell? ⟨w.heap.size, 2, none⟩ = some (.int .i64 fa) ∧ W'.cell? ⟨w.heap.size, 3, none⟩ = some (.int .i64 ta) ∧ W'.cell? ⟨w.heap.size + 1, 0, none⟩ = some (.int .i64 idb) ∧ W'.cell? ⟨w.heap.size + 1, 1, none⟩ = some (.slice A' lb.length c') ∧ W'.cell? ⟨w.heap.size + 1, 2, none⟩ = some (.int .i64 fb) ∧ W'.cell? ⟨w.heap.size + 1, 3, none⟩ = some (.int .i64 tb) := fun h => ⟨h.cell 0 0 rfl rfl, h.cell 0 1 rfl rfl, h.cell 0 2 rfl rfl, h.cell 0 3 rfl rfl, h.cell 1 0 rfl rfl, h.cell 1 1 rfl rfl, h.cell 1 2 rfl rfl, h.cell 1 3 rfl rfl⟩
      replace HX := HX.ext (drew_ext _)
      replace HOWN := HOWN.ext (drew_ext _)
      replace hBr : B ≤ wr.drew.heap.size := hBr
      go_region_held3 (fun W' => W'.cell? ⟨w.heap.size, 0, none⟩ = some (.int .i64 ida) ∧ W'.cell? ⟨w.heap.size, 1, none⟩ = some (.slice A la.length c) ∧ W'.cell? ⟨w.heap.size, 2, none⟩ = some (.int .i64 fa) ∧ W'.cell? ⟨w.heap.size, 3, none⟩ = some (.int .i64 ta) ∧ W'.cell? ⟨w.heap.size + 1, 0, none⟩ = some (.int .i64 idb) ∧ W'.cell? ⟨w.heap.size + 1, 1, none⟩ = some (.slice A' lb.length c') ∧ W'.cell? ⟨w.heap.size + 1, 2, none⟩ = some (.int .i64 fb) ∧ W'.cell? ⟨w.heap.size + 1, 3, none⟩ = some (.int .i64 tb))
        (exact held HX)
        (first
          | (go_at_call_of 46 (Value.slice A la.length c); refine (hnumber_any A c la _ (HA.ext HX.below) hla NA).mono ?_; rintro e w5 ⟨rfl, hb⟩; replace HX := HX.ext hb; replace HOWN := HOWN.ext hb; have hBr := Nat.le_trans hBr hb.size; clear hb)
          | (go_at_call_of 46 (Value.slice A' lb.length c'); refine (hnumber_any A' c' lb _ (HB.ext HX.below) hlb NB).mono ?_; rintro e w6 ⟨rfl, hb⟩; replace HX := HX.ext hb; replace HOWN := HOWN.ext hb; have hBr := Nat.le_trans hBr hb.size; clear hb))
      clear held
      by_cases hpos : 0 < na + nb
      · replace HY := Lib.hid (HY.out hpos)
        replace GY := Lib.hid (GY.out hpos)
        clear HN GN hwr
        have hc40 := HX.cell 4 0 rfl rfl
        have hc41 := HX.cell 4 1 rfl rfl
        have hc42 := HX.cell 4 2 rfl rfl
        have hc43 := HX.cell 4 3 rfl rfl
        try simp only [List.getElem_toArray, List.getElem_cons_zero, List.getElem_cons_succ] at hc40 hc41 hc42 hc43
        go_wp2_with (at_builtin; refine wp_epush _ rfl _ _ rfl rfl rfl HOWN (by omega) hBr ?_)
        intro A9 c9 w7 HOWN2 hb7 hlt7
        replace HX := HX.low hBw (by intro i q hq; match i, hq with | 0, hq => (simp at hq; subst hq; simp; try omega) | 1, hq => (simp at hq; subst hq; simp; try omega) | 2, hq => (simp at hq; subst hq; simp; try omega) | 3, hq => (simp at hq; subst hq; simp; try omega) | 4, hq => (simp at hq; subst hq; simp; try omega) | i + 5, hq => simp at hq) hb7
        clear hc40 hc41 hc42 hc43
        clear HOWN hb7
        have hB7 : B ≤ w7.heap.size := by omega
        clear hlt7 hBr
        have hc41 := HX.cell 4 1 rfl rfl
        have hf41 := HX.free 4 1 rfl
        try simp only [List.getElem_toArray, List.getElem_cons_zero, List.getElem_cons_succ] at hc41 hf41
        go_upto_region 14 with fail
        clear hc41 hf41
        replace HX := HX.set1 4 rfl (by omega) (by intro k q hk hne; match k, hk with | 0, hk => (simp at hk; subst hk; simp at hne ⊢; try omega) | 1, hk => (simp at hk; subst hk; simp at hne ⊢; try omega) | 2, hk => (simp at hk; subst hk; simp at hne ⊢; try omega) | 3, hk => (simp at hk; subst hk; simp at hne ⊢; try omega) | 4, hk => (simp at hk; subst hk; simp at hne ⊢; try omega) | k + 5, hk => simp at hk) 1 (.slice A9 (m.length + 1) c9)
        simp only [List.set_cons_zero, List.set_cons_succ, List.setIfInBounds_toArray] at HX
        replace HOWN2 := HOWN2.far (p := ⟨g8, 1, none⟩) (by show g8 < B; omega) (.slice A9 (m.length + 1) c9)
        have hB8 : B ≤ (w7.setCell ⟨g8, 1, none⟩ (.slice A9 (m.length + 1) c9)).heap.size := by simpa [World.setCell] using hB7
        generalize w7.setCell ⟨g8, 1, none⟩ (.slice A9 (m.length + 1) c9) = w8 at *
        by_cases h9 : 999 < na + nb
        · have h9b : decide (999 < na + nb) = true := decide_eq_true h9
          rw [h9b] at GY
          cases gb
          · go_wp2
            go_roundg (99 - (k + 1))
            case measure => omega
            case rel => exact ⟨k + 1, A9, c9, by omega, by go_num, by rw [GY.out]; rfl, by rw [HY.out]; exact HOWN2, by rw [HY.out, List.length_append]; exact HX, hB8⟩
          · go_wp2
            go_roundg (99 - (k + 1))
            case measure => omega
            case rel => exact ⟨k + 1, A9, c9, by omega, by go_num, by rw [GY.out]; rfl, by rw [HY.out]; exact HOWN2, by rw [HY.out, List.length_append]; exact HX, hB8⟩
        · have h9b : decide (999 < na + nb) = false := decide_eq_false h9
          rw [h9b] at GY
          cases gb
          · go_wp2
            go_roundg (99 - (k + 1))
            case measure => omega
            case rel => exact ⟨k + 1, A9, c9, by omega, by go_num, by rw [GY.out]; rfl, by rw [HY.out]; exact HOWN2, by rw [HY.out, List.length_append]; exact HX, hB8⟩
          · go_wp2
            go_roundg (99 - (k + 1))
            case measure => omega
            case rel => exact ⟨k + 1, A9, c9, by omega, by go_num, by rw [GY.out]; rfl, by rw [HY.out]; exact HOWN2, by rw [HY.out, List.length_append]; exact HX, hB8⟩
      · replace HN := Lib.hid (HN.out (by omega))
        replace GN := Lib.hid (GN.out (by omega))
        clear HY GY hwr
        have hposb : decide (0 < na + nb) = false := decide_eq_false hpos
        go_wp2
        go_roundg (99 - (k + 1))
        case measure => omega
        case rel => exact ⟨k + 1, A8, c8, by omega, by go_num, by rw [GN.out], by rw [HN.out]; exact HOWN, by rw [HN.out]; exact HX, hBr⟩
    · obtain rfl : k = 99 := by omega
      obtain ⟨m, hm⟩ : ∃ m, mergeP la lb 99 = m := ⟨_, rfl⟩
      obtain ⟨gb, hgb⟩ : ∃ gb, greatP la lb 99 = gb := ⟨_, rfl⟩
      have hend := hend.out
      rw [hm] at HOWN HX hlen hend
      rw [hgb] at hend
      rw [hgb]
      clear hm hgb
      rcases hend with ⟨h32, rfl, rfl, rfl, rfl, rfl⟩ | ⟨h32, rfl, rfl, rfl, rfl, rfl, rfl⟩ | ⟨h32, rfl, rfl, rfl, rfl, rfl, rfl⟩
      · have hc40 := HX.cell 4 0 rfl rfl
        have hc41 := HX.cell 4 1 rfl rfl
        have hc42 := HX.cell 4 2 rfl rfl
        have hc43 := HX.cell 4 3 rfl rfl
        try simp only [List.getElem_toArray, List.getElem_cons_zero, List.getElem_cons_succ] at hc40 hc41 hc42 hc43
        have h32b : decide (32 < (m.length : Int)) = true := decide_eq_true (by omega)
        have hc20 := HX.cell 2 0 rfl rfl
        have hc21 := HX.cell 2 1 rfl rfl
        have hc22 := HX.cell 2 2 rfl rfl
        have hc23 := HX.cell 2 3 rfl rfl
        try simp only [List.getElem_toArray, List.getElem_cons_zero, List.getElem_cons_succ] at hc20 hc21 hc22 hc23
        have hf20 := HX.free 2 0 rfl
        have hf21 := HX.free 2 1 rfl
        have hf22 := HX.free 2 2 rfl
        have hf23 := HX.free 2 3 rfl
        try simp only [] at hf20 hf21 hf22 hf23
        go_wp2
        clear hc40 hc41 hc42 hc43 hc20 hf20 hc21 hf21 hc22 hf22 hc23 hf23
        replace HX := HX.put4 2 rfl (by omega) (by intro k q hk hne; match k, hk with | 0, hk => (simp at hk; subst hk; simp at hne ⊢; try omega) | 1, hk => (simp at hk; subst hk; simp at hne ⊢; try omega) | 2, hk => (simp at hk; subst hk; simp at hne ⊢; try omega) | 3, hk => (simp at hk; subst hk; simp at hne ⊢; try omega) | 4, hk => (simp at hk; subst hk; simp at hne ⊢; try omega) | k + 5, hk => simp at hk) (.int .i64 0) (.slice none 0 0) (.int .i64 0) (.int .i64 0)
        simp only [List.set_cons_zero, List.set_cons_succ] at HX
        have hc20 := HX.cell 2 0 rfl rfl
        have hc21 := HX.cell 2 1 rfl rfl
        have hc22 := HX.cell 2 2 rfl rfl
        have hc23 := HX.cell 2 3 rfl rfl
        try simp only [List.getElem_toArray, List.getElem_cons_zero, List.getElem_cons_succ] at hc20 hc21 hc22 hc23
        exact bodyPost_ret (v := .tuple #[.agg #[.int .i64 0, .slice none 0 0, .int .i64 0, .int .i64 0], .int .i64 6]) (by simp [results, Tryz.results38, go_sem, hc20, hc21, hc22, hc23]) rfl ⟨_, _, rfl, Es.nil _ _, HX.below⟩
      · have hc40 := HX.cell 4 0 rfl rfl
        have hc41 := HX.cell 4 1 rfl rfl
        have hc42 := HX.cell 4 2 rfl rfl
        have hc43 := HX.cell 4 3 rfl rfl
        try simp only [List.getElem_toArray, List.getElem_cons_zero, List.getElem_cons_succ] at hc40 hc41 hc42 hc43
        have h32b : decide (32 < (m.length : Int)) = false := decide_eq_false (by omega)
        have hc20 := HX.cell 2 0 rfl rfl
        have hc21 := HX.cell 2 1 rfl rfl
        have hc22 := HX.cell 2 2 rfl rfl
        have hc23 := HX.cell 2 3 rfl rfl
        try simp only [List.getElem_toArray, List.getElem_cons_zero, List.getElem_cons_succ] at hc20 hc21 hc22 hc23
        have hf20 := HX.free 2 0 rfl
        have hf21 := HX.free 2 1 rfl
        have hf22 := HX.free 2 2 rfl
        have hf23 := HX.free 2 3 rfl
        try simp only [] at hf20 hf21 hf22 hf23
        go_wp2
        clear hc40 hc41 hc42 hc43 hc20 hf20 hc21 hf21 hc22 hf22 hc23 hf23
        replace HX := HX.put4 2 rfl (by omega) (by intro k q hk hne; match k, hk with | 0, hk => (simp at hk; subst hk; simp at hne ⊢; try omega) | 1, hk => (simp at hk; subst hk; simp at hne ⊢; try omega) | 2, hk => (simp at hk; subst hk; simp at hne ⊢; try omega) | 3, hk => (simp at hk; subst hk; simp at hne ⊢; try omega) | 4, hk => (simp at hk; subst hk; simp at hne ⊢; try omega) | k + 5, hk => simp at hk) (.int .i64 0) (.slice none 0 0) (.int .i64 0) (.int .i64 0)
        simp only [List.set_cons_zero, List.set_cons_succ] at HX
        have hc20 := HX.cell 2 0 rfl rfl
        have hc21 := HX.cell 2 1 rfl rfl
        have hc22 := HX.cell 2 2 rfl rfl
        have hc23 := HX.cell 2 3 rfl rfl
        try simp only [List.getElem_toArray, List.getElem_cons_zero, List.getElem_cons_succ] at hc20 hc21 hc22 hc23
        exact bodyPost_ret (v := .tuple #[.agg #[.int .i64 0, .slice none 0 0, .int .i64 0, .int .i64 0], .int .i64 2]) (by simp [results, Tryz.results38, go_sem, hc20, hc21, hc22, hc23]) rfl ⟨_, _, rfl, Es.nil _ _, HX.below⟩
      · have hc40 := HX.cell 4 0 rfl rfl
        have hc41 := HX.cell 4 1 rfl rfl
        have hc42 := HX.cell 4 2 rfl rfl
        have hc43 := HX.cell 4 3 rfl rfl
        try simp only [List.getElem_toArray, List.getElem_cons_zero, List.getElem_cons_succ] at hc40 hc41 hc42 hc43
        have h32b : decide (32 < (m.length : Int)) = false := decide_eq_false (by omega)
        have hc20 := HX.cell 2 0 rfl rfl
        have hc21 := HX.cell 2 1 rfl rfl
        have hc22 := HX.cell 2 2 rfl rfl
        have hc23 := HX.cell 2 3 rfl rfl
        try simp only [List.getElem_toArray, List.getElem_cons_zero, List.getElem_cons_succ] at hc20 hc21 hc22 hc23
        have hf20 := HX.free 2 0 rfl
        have hf21 := HX.free 2 1 rfl
        have hf22 := HX.free 2 2 rfl
        have hf23 := HX.free 2 3 rfl
        try simp only [] at hf20 hf21 hf22 hf23
        go_wp2
        clear hc40 hc41 hc42 hc43 hc20 hf20 hc21 hf21 hc22 hf22 hc23 hf23
        replace HOWN := HOWN.far (p := ⟨w.heap.size + 2, 0, none⟩) (by show w.heap.size + 2 < B; omega) (.int .i64 ida)
        replace HOWN := HOWN.far (p := ⟨w.heap.size + 2, 1, none⟩) (by show w.heap.size + 2 < B; omega) (.slice A8 m.length c8)
        replace HOWN := HOWN.far (p := ⟨w.heap.size + 2, 2, none⟩) (by show w.heap.size + 2 < B; omega) (.int .i64 F)
        replace HOWN := HOWN.far (p := ⟨w.heap.size + 2, 3, none⟩) (by show w.heap.size + 2 < B; omega) (.int .i64 T)
        replace HX := HX.put4 2 rfl (by omega) (by intro k q hk hne; match k, hk with | 0, hk => (simp at hk; subst hk; simp at hne ⊢; try omega) | 1, hk => (simp at hk; subst hk; simp at hne ⊢; try omega) | 2, hk => (simp at hk; subst hk; simp at hne ⊢; try omega) | 3, hk => (simp at hk; subst hk; simp at hne ⊢; try omega) | 4, hk => (simp at hk; subst hk; simp at hne ⊢; try omega) | k + 5, hk => simp at hk) (.int .i64 ida) (.slice A8 m.length c8) (.int .i64 F) (.int .i64 T)
        simp only [List.set_cons_zero, List.set_cons_succ] at HX
        have hc20 := HX.cell 2 0 rfl rfl
        have hc21 := HX.cell 2 1 rfl rfl
        have hc22 := HX.cell 2 2 rfl rfl
        have hc23 := HX.cell 2 3 rfl rfl
        try simp only [List.getElem_toArray, List.getElem_cons_zero, List.getElem_cons_succ] at hc20 hc21 hc22 hc23
        exact bodyPost_ret (v := .tuple #[.agg #[.int .i64 ida, .slice A8 m.length c8, .int .i64 F, .int .i64 T], .int .i64 0]) (by simp [results, Tryz.results38, go_sem, hc20, hc21, hc22, hc23]) rfl ⟨_, _, rfl, HOWN.es, HX.below⟩

theorem hmerge_any {ida fa ta idb fb tb id f t err : Int} {L : List (Int × Int)} (A A' : Option Addr) (c c' : Nat) (la lb : List (Int × Int)) (w : World) (HA : Es w A la) (HB : Es w A' lb) (hla : la.length ≤ 9223372036854775807) (hlb : lb.length ≤ 9223372036854775807) (h : MergeIs ida la fa ta idb lb fb tb id L f t err) :
    Calls Tryz.prog 38 #[.agg #[.int .i64 ida, .slice A la.length c, .int .i64 fa, .int .i64 ta], .agg #[.int .i64 idb, .slice A' lb.length c', .int .i64 fb, .int .i64 tb]] w (RetM w id L f t err) := by
  rcases h with ⟨h, rfl, rfl, rfl, rfl, rfl⟩ | ⟨ha, hb, F, T, hc, h⟩
  · exact hmerge_bad A A' c c' la lb w HA HB hla hlb h
  · rcases h with ⟨h1, rfl, rfl, rfl, rfl, rfl⟩ | ⟨h1, h2⟩ | ⟨h1, h2⟩ | ⟨h1, h2⟩
    · exact hmerge_apart A A' c c' la lb w HA HB hla hlb ha hb hc h1
    · exact hmerge_go A A' c c' la lb w HA HB hla hlb ha hb hc h1 (.inl h2)
    · exact hmerge_go A A' c c' la lb w HA HB hla hlb ha hb hc h1 (.inr (.inl h2))
    · exact hmerge_go A A' c c' la lb w HA HB hla hlb ha hb hc h1 (.inr (.inr h2))
end Go.Proofs.YthempimelfmipaaGreatDoor
