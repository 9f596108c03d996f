/- The library's slices.Sorted over slices.Values of numbers: the sorted list, in a row of the call's own. -/
import Derived.Test.YthempimelfmipaaGreatDoorHMath
import Derived.Test.YthempimelfmipaaGreatDoorSm1M
import Derived.RegionTactic
import Derived.BigRegion
import Derived.RangeFuncBox
import Derived.RangeFuncLeaves
import Derived.Shelf.Abstract
import Derived.WalkKit
import Derived.OwnWalkIn
import Derived.TacticsInMore
import Derived.LoopNIn
import Derived.LoopIn
import Derived.Maps.AppendAt
import Derived.Sort.OwnSortedInts
import Derived.Test.YthempimelfmipaaGreatDoorShelf
namespace Go.Proofs.YthempimelfmipaaGreatDoor

/-- valid weights -/
def WV (l : List Int) : Prop := ∀ x ∈ l, 1 ≤ x ∧ x ≤ 200000
instance (l : List Int) : Decidable (WV l) := inferInstanceAs (Decidable (∀ x ∈ l, 1 ≤ x ∧ x ≤ 200000))
theorem WV.take {l : List Int} (h : WV l) (k : Nat) : WV (l.take k) := fun x hx => h x (List.mem_of_mem_take hx)
/-- the error of a list -/
def chkE (l : List Int) : Int := if 64 < l.length then 6 else if WV l then 0 else 1
def someE (l : List Int) : Int := if chkE l = 0 then (if l.length = 0 then 7 else 0) else chkE l
theorem chkE_zero {l : List Int} : chkE l = 0 ↔ l.length ≤ 64 ∧ WV l := by
  unfold chkE
  by_cases h : 64 < l.length
  · rw [if_pos h]; constructor
    · intro e; cases e
    · intro e; omega
  · rw [if_neg h]
    by_cases h2 : WV l
    · rw [if_pos h2]; exact ⟨fun _ => ⟨by omega, h2⟩, fun _ => rfl⟩
    · rw [if_neg h2]; exact ⟨fun e => absurd e (by decide), fun e => absurd e.2 h2⟩
theorem someE_zero {l : List Int} : someE l = 0 ↔ l.length ≤ 64 ∧ WV l ∧ 0 < l.length := by
  unfold someE
  by_cases h : chkE l = 0
  · rw [if_pos h]
    have := chkE_zero.1 h
    by_cases h2 : l.length = 0
    · rw [if_pos h2]; constructor
      · intro e; cases e
      · intro e; omega
    · rw [if_neg h2]; exact ⟨fun _ => ⟨this.1, this.2, by omega⟩, fun _ => rfl⟩
  · rw [if_neg h]; exact ⟨fun e => absurd e h, fun e => absurd (chkE_zero.2 ⟨e.1, e.2.1⟩) h⟩
/-- how many are at least a and below b -/
def cnt (l : List Int) (a b : Int) : Nat := l.countP fun x => decide (a ≤ x) && decide (x < b)
theorem cnt_le (l : List Int) (a b : Int) : cnt l a b ≤ l.length := List.countP_le_length
theorem cnt_cons (x : Int) (l : List Int) (a b : Int) : cnt (x :: l) a b = cnt l a b + (if a ≤ x ∧ x < b then 1 else 0) := by
  simp [cnt, List.countP_cons]
theorem cnt_snoc (l : List Int) (x : Int) (a b : Int) : cnt (l ++ [x]) a b = cnt l a b + (if a ≤ x ∧ x < b then 1 else 0) := by
  simp [cnt, List.countP_append, List.countP_cons]
theorem cnt_add {a b c : Int} (h1 : a ≤ b) (h2 : b ≤ c) : ∀ l : List Int, cnt l a b + cnt l b c = cnt l a c
  | [] => rfl
  | x :: l => by
    have ih := cnt_add h1 h2 l
    rw [cnt_cons, cnt_cons, cnt_cons]
    by_cases e1 : a ≤ x ∧ x < b
    · rw [if_pos e1, if_neg (by omega), if_pos (by omega)]; omega
    · rw [if_neg e1]
      by_cases e2 : b ≤ x ∧ x < c
      · rw [if_pos e2, if_pos (by omega)]; omega
      · rw [if_neg e2, if_neg (by omega)]; omega
theorem cnt_all {b : Int} (hb : 0 ≤ b) : ∀ {l : List Int}, WV l → cnt l 0 b + cnt l b 200001 = l.length
  | [], _ => rfl
  | x :: l, h => by
    have ih := cnt_all hb (l := l) fun y hy => h y (List.mem_cons_of_mem _ hy)
    have hx := h x List.mem_cons_self
    rw [cnt_cons, cnt_cons, List.length_cons]
    by_cases e1 : 0 ≤ x ∧ x < b
    · rw [if_pos e1, if_neg (by omega)]; omega
    · rw [if_neg e1, if_pos (by omega)]; omega
theorem cnt_top {b c : Int} (hc : 200001 ≤ c) : ∀ {l : List Int}, WV l → cnt l b c = cnt l b 200001
  | [], _ => rfl
  | x :: l, h => by
    have ih := cnt_top (b := b) hc (l := l) fun y hy => h y (List.mem_cons_of_mem _ hy)
    have hx := h x List.mem_cons_self
    rw [cnt_cons, cnt_cons, ih]
    by_cases e1 : b ≤ x
    · rw [if_pos ⟨e1, by omega⟩, if_pos ⟨e1, by omega⟩]
    · rw [if_neg (by omega), if_neg (by omega)]
theorem cnt_pos {l : List Int} {a b x : Int} (hx : x ∈ l) (h1 : a ≤ x) (h2 : x < b) : 0 < cnt l a b := by
  rw [cnt, List.countP_pos_iff]
  exact ⟨x, hx, by simp [h1, h2]⟩
theorem cnt_perm {l m : List Int} (h : l.Perm m) (a b : Int) : cnt l a b = cnt m a b := h.countP_eq _
/-- the table as far as class k -/
def tab (l : List Int) (low step : Int) : Nat → List Int
  | 0 => [(cnt l 0 low : Int)]
  | k + 1 => tab l low step k ++ [(cnt l (low + (k : Int) * step) (low + ((k : Int) + 1) * step) : Int)]
def tabF (l : List Int) (low step : Int) (n : Nat) : List Int := tab l low step n ++ [(cnt l (low + (n : Int) * step) 200001 : Int)]
theorem tab_len (l : List Int) (low step : Int) : ∀ k, (tab l low step k).length = k + 1
  | 0 => rfl
  | k + 1 => by rw [tab, List.length_append, tab_len l low step k]; rfl
theorem tab_sum (l : List Int) {low step : Int} (h1 : 0 ≤ low) (h2 : 0 ≤ step) : ∀ k : Nat, (tab l low step k).sum = cnt l 0 (low + (k : Int) * step)
  | 0 => by simp [tab]
  | k + 1 => by
    have h3 : 0 ≤ (k : Int) * step := Int.mul_nonneg (by omega) h2
    have h4 : ((k : Int) + 1) * step = (k : Int) * step + step := by rw [Int.add_mul, Int.one_mul]
    have h5 : (((k + 1 : Nat) : Int)) * step = (k : Int) * step + step := by rw [Int.natCast_add, Int.add_mul]; simp
    have h6 := cnt_add (a := 0) (b := low + (k : Int) * step) (c := low + ((k : Int) * step + step)) (by omega) (by omega) l
    rw [tab, List.sum_append, tab_sum l h1 h2 k, h4, h5]
    simp
    omega
theorem tabF_len (l : List Int) (low step : Int) (n : Nat) : (tabF l low step n).length = n + 2 := by rw [tabF, List.length_append, tab_len]; rfl
theorem tabF_sum {l : List Int} {low step : Int} (h1 : 0 ≤ low) (h2 : 0 ≤ step) (h : WV l) (n : Nat) : (tabF l low step n).sum = l.length := by
  have h3 : 0 ≤ (n : Int) * step := Int.mul_nonneg (by omega) h2
  have h4 := cnt_all (b := low + (n : Int) * step) (by omega) h
  rw [tabF, List.sum_append, tab_sum l h1 h2 n]
  simp
  omega
theorem mem_nn_tab {l : List Int} {low step : Int} : ∀ {k : Nat} {x : Int}, x ∈ tab l low step k → 0 ≤ x ∧ x ≤ l.length
  | 0, x, h => by
    rw [tab, List.mem_singleton] at h
    have := cnt_le l 0 low
    omega
  | k + 1, x, h => by
    rw [tab, List.mem_append, List.mem_singleton] at h
    rcases h with h | h
    · exact mem_nn_tab h
    · have := cnt_le l (low + (k : Int) * step) (low + ((k : Int) + 1) * step)
      omega
theorem mem_nn_tabF {l : List Int} {low step : Int} {n : Nat} {x : Int} (h : x ∈ tabF l low step n) : 0 ≤ x ∧ x ≤ l.length := by
  rw [tabF, List.mem_append, List.mem_singleton] at h
  rcases h with h | h
  · exact mem_nn_tab h
  · have := cnt_le l (low + (n : Int) * step) 200001
    omega
/-- the sorted list -/
def srt (l : List Int) : List Int := l.mergeSort fun x y => decide (x ≤ y)
theorem srt_perm (l : List Int) : (srt l).Perm l := List.mergeSort_perm _ _
theorem srt_asc (l : List Int) : (srt l).Pairwise (· ≤ ·) := by
  have h := List.pairwise_mergeSort (le := fun x y : Int => decide (x ≤ y)) (fun a b c h1 h2 => by simp only [decide_eq_true_eq] at *; omega) (fun a b => by simp only [Bool.or_eq_true, decide_eq_true_eq]; omega) l
  exact List.pairwise_iff_getElem.2 fun i j hi hj hij => by have h1 := List.pairwise_iff_getElem.1 h i j hi hj hij; simp only [decide_eq_true_eq] at h1; exact h1
theorem srt_len (l : List Int) : (srt l).length = l.length := (srt_perm l).length_eq
theorem asc_unique : ∀ {r s : List Int}, r.Perm s → r.Pairwise (· ≤ ·) → s.Pairwise (· ≤ ·) → r = s
  | [], s, hp, _, _ => (List.Perm.nil_eq hp)
  | x :: r, [], hp, _, _ => absurd hp.length_eq (by simp)
  | x :: r, y :: s, hp, hr, hs => by
    rw [List.pairwise_cons] at hr hs
    have hxy : x = y := by
      have h1 : x ∈ y :: s := hp.mem_iff.1 List.mem_cons_self
      have h2 : y ∈ x :: r := hp.mem_iff.2 List.mem_cons_self
      rcases List.mem_cons.1 h1 with e | e
      · exact e
      · rcases List.mem_cons.1 h2 with e2 | e2
        · exact e2.symm
        · have := hr.1 y e2; have := hs.1 x e; omega
    subst hxy
    rw [asc_unique (List.Perm.cons_inv hp) hr.2 hs.2]
theorem srt_unique {r l : List Int} (hp : r.Perm l) (hs : r.Pairwise (· ≤ ·)) : r = srt l := asc_unique (hp.trans (srt_perm l).symm) hs (srt_asc l)
theorem srt_rev (l : List Int) : srt l.reverse = srt l := srt_unique ((srt_perm _).trans (List.reverse_perm l)) (srt_asc _)
theorem WV.srt {l : List Int} (h : WV l) : WV (srt l) := fun x hx => h x ((srt_perm l).mem_iff.1 hx)
theorem WV.rev {l : List Int} (h : WV l) : WV l.reverse := fun x hx => h x (List.mem_reverse.1 hx)
def at0 (s : List Int) (i : Nat) : Int := s[i]?.getD 0
theorem at0_get {s : List Int} {i : Nat} (h : i < s.length) : s[i]? = some (at0 s i) := by rw [at0, List.getElem?_eq_getElem h]; rfl
theorem at0_mem {s : List Int} {i : Nat} (h : i < s.length) : at0 s i ∈ s := List.mem_of_getElem? (at0_get h)
theorem asc_le {s : List Int} (h : s.Pairwise (· ≤ ·)) {i j : Nat} (hij : i ≤ j) (hj : j < s.length) : at0 s i ≤ at0 s j := by
  rcases Nat.lt_or_ge i j with h1 | h1
  · have := List.pairwise_iff_getElem.1 h i j (by omega) hj h1
    rwa [at0, at0, List.getElem?_eq_getElem (by omega), List.getElem?_eq_getElem hj]
  · obtain rfl : i = j := by omega
    exact Int.le_refl _
/-- the fullest class: no element has more, none with as many is less -/
def Mo (f : Int → Nat) (L : List Int) (b : Int) : Prop := ∀ x ∈ L, f x < f b ∨ (f x = f b ∧ b ≤ x)
theorem Mo.unique {f : Int → Nat} {L : List Int} {a b : Int} (ha : a ∈ L) (hb : b ∈ L) (h : Mo f L a) (k : Mo f L b) : a = b := by
  have h1 := h b hb
  have h2 := k a ha
  omega
/-- over a sorted list, from nothing -/
def MoS (f : Int → Nat) (s : List Int) (k : Nat) (b m : Int) : Prop := (k = 0 ∧ b = 0 ∧ m = 0) ∨ (0 < k ∧ b ∈ s.take k ∧ m = (f b : Int) ∧ Mo f (s.take k) b)
theorem take_one {s : List Int} {k : Nat} (hk : k < s.length) : s.take (k + 1) = s.take k ++ [at0 s k] := by
  rw [List.take_add_one, at0_get hk]; rfl
theorem MoS.up {f : Int → Nat} {s : List Int} {k : Nat} {b m : Int} (h : MoS f s k b m) (hk : k < s.length) (h1 : m < (f (at0 s k) : Int)) : MoS f s (k + 1) (at0 s k) (f (at0 s k) : Int) := by
  refine .inr ⟨by omega, by rw [take_one hk]; exact List.mem_append_right _ (List.mem_singleton_self _), rfl, fun x hx => ?_⟩
  rw [take_one hk, List.mem_append, List.mem_singleton] at hx
  rcases hx with hx | rfl
  · rcases h with ⟨rfl, _, _⟩ | ⟨_, _, rfl, h2⟩
    · simp at hx
    · rcases h2 x hx with h3 | ⟨h3, _⟩ <;> exact .inl (by omega)
  · exact .inr ⟨rfl, Int.le_refl _⟩
theorem MoS.stay {f : Int → Nat} {s : List Int} {k : Nat} {b m : Int} (h : MoS f s k b m) (hs : s.Pairwise (· ≤ ·)) (hf : ∀ x ∈ s, 0 < f x) (hk : k < s.length) (h1 : ¬ m < (f (at0 s k) : Int)) : MoS f s (k + 1) b m := by
  rcases h with ⟨rfl, _, rfl⟩ | ⟨h0, hb, rfl, h2⟩
  · have := hf _ (at0_mem hk); omega
  · refine .inr ⟨by omega, by rw [take_one hk]; exact List.mem_append_left _ hb, rfl, fun x hx => ?_⟩
    rw [take_one hk, List.mem_append, List.mem_singleton] at hx
    rcases hx with hx | rfl
    · exact h2 x hx
    · obtain ⟨i, hi, rfl⟩ := List.mem_take_iff_getElem.1 hb
      have h3 : s[i] = at0 s i := by rw [at0, List.getElem?_eq_getElem (by omega)]; rfl
      have h4 := asc_le hs (show i ≤ k by omega) hk
      rw [h3] at h1 ⊢
      rcases Nat.lt_or_ge (f (at0 s k)) (f (at0 s i)) with h5 | h5
      · exact .inl h5
      · exact .inr ⟨by omega, h4⟩
/-- over any list, from one of its elements -/
def MoR (f : Int → Nat) (l : List Int) (k : Nat) (b : Int) : Prop := b ∈ l ∧ Mo f (l.take k) b
theorem MoR.up {f : Int → Nat} {l : List Int} {k : Nat} {b : Int} (h : MoR f l k b) (hk : k < l.length) (h1 : f b < f (at0 l k) ∨ (f (at0 l k) = f b ∧ at0 l k < b)) : MoR f l (k + 1) (at0 l k) := by
  refine ⟨at0_mem hk, fun x hx => ?_⟩
  rw [take_one hk, List.mem_append, List.mem_singleton] at hx
  rcases hx with hx | rfl
  · have := h.2 x hx; omega
  · exact .inr ⟨rfl, Int.le_refl _⟩
theorem MoR.stay {f : Int → Nat} {l : List Int} {k : Nat} {b : Int} (h : MoR f l k b) (hk : k < l.length) (h1 : ¬ (f b < f (at0 l k) ∨ (f (at0 l k) = f b ∧ at0 l k < b))) : MoR f l (k + 1) b := by
  refine ⟨h.1, fun x hx => ?_⟩
  rw [take_one hk, List.mem_append, List.mem_singleton] at hx
  rcases hx with hx | rfl
  · exact h.2 x hx
  · omega
/-- the mode -/
def ModeIs (l : List Int) (step b : Int) : Prop := b ∈ l ∧ Mo (fun x => cnt l x (x + step)) l b
theorem ModeIs.unique {l : List Int} {step a b : Int} (h : ModeIs l step a) (k : ModeIs l step b) : a = b := Mo.unique h.1 k.1 h.2 k.2
theorem MoS.mode {l : List Int} {step b m : Int} (hl : 0 < l.length) (h : MoS (fun x => cnt l x (x + step)) (srt l) l.length b m) : ModeIs l step b ∧ m = (cnt l b (b + step) : Int) := by
  rcases h with ⟨h0, _⟩ | ⟨_, h1, h2, h3⟩
  · omega
  · rw [List.take_of_length_le (by rw [srt_len]; exact Nat.le_refl _)] at h1 h3
    exact ⟨⟨(srt_perm l).mem_iff.1 h1, fun x hx => h3 x ((srt_perm l).mem_iff.2 hx)⟩, h2⟩
theorem MoR.mode {l : List Int} {step b : Int} (h : MoR (fun x => cnt l x (x + step)) l l.length b) : ModeIs l step b := by
  have := h.2
  rw [List.take_length] at this
  exact ⟨h.1, this⟩
theorem mode_pos {l : List Int} {step : Int} (hs : 1 ≤ step) : ∀ x ∈ srt l, 0 < cnt l x (x + step) := fun x hx => cnt_pos ((srt_perm l).mem_iff.1 hx) (Int.le_refl _) (by omega)
/-- twice the median -/
def twi (l : List Int) : Int := at0 (srt l) ((l.length - 1) / 2) + at0 (srt l) (l.length / 2)
theorem twi_rev (l : List Int) : twi l.reverse = twi l := by rw [twi, twi, srt_rev, List.length_reverse]
theorem twi_bd {l : List Int} (h : WV l) (h0 : 0 < l.length) : 2 ≤ twi l ∧ twi l ≤ 400000 := by
  have h1 := h.srt _ (at0_mem (s := srt l) (i := (l.length - 1) / 2) (by rw [srt_len]; omega))
  have h2 := h.srt _ (at0_mem (s := srt l) (i := l.length / 2) (by rw [srt_len]; omega))
  rw [twi]; omega
theorem countP_srt (p : Int → Bool) (l : List Int) : l.countP p = (srt l).countP p := (srt_perm l).symm.countP_eq p
theorem countP_first {p : Int → Bool} {s : List Int} {k : Nat} (h : ∀ i, k ≤ i → i < s.length → p (at0 s i) = false) : s.countP p ≤ k := by
  have e : s.countP p = (s.take k).countP p + (s.drop k).countP p := by rw [← List.countP_append, List.take_append_drop]
  have e2 : (s.drop k).countP p = 0 := by
    rw [List.countP_eq_zero]
    intro x hx
    obtain ⟨i, hi, rfl⟩ := List.mem_iff_getElem.1 hx
    rw [List.length_drop] at hi
    have := h (k + i) (by omega) (by omega)
    rw [at0, List.getElem?_eq_getElem (by omega), Option.getD_some] at this
    rw [List.getElem_drop, this]; simp
  have e3 : (s.take k).countP p ≤ (s.take k).length := List.countP_le_length
  rw [List.length_take] at e3
  omega
theorem countP_last {p : Int → Bool} {s : List Int} {k : Nat} (h : ∀ i, i < k → i < s.length → p (at0 s i) = false) : s.countP p ≤ s.length - k := by
  have e : s.countP p = (s.take k).countP p + (s.drop k).countP p := by rw [← List.countP_append, List.take_append_drop]
  have e2 : (s.take k).countP p = 0 := by
    rw [List.countP_eq_zero]
    intro x hx
    obtain ⟨i, hi, rfl⟩ := List.mem_iff_getElem.1 hx
    rw [List.length_take] at hi
    have := h i (by omega) (by omega)
    rw [at0, List.getElem?_eq_getElem (by omega), Option.getD_some] at this
    rw [List.getElem_take, this]; simp
  have e3 : (s.drop k).countP p ≤ (s.drop k).length := List.countP_le_length
  rw [List.length_drop] at e3
  omega
theorem countP_least {p : Int → Bool} {s : List Int} {k : Nat} (hk : k ≤ s.length) (h : ∀ i, i < k → p (at0 s i) = true) : k ≤ s.countP p := by
  have e : s.countP p = (s.take k).countP p + (s.drop k).countP p := by rw [← List.countP_append, List.take_append_drop]
  have e2 : (s.take k).countP p = (s.take k).length := by
    rw [List.countP_eq_length]
    intro x hx
    obtain ⟨i, hi, rfl⟩ := List.mem_iff_getElem.1 hx
    rw [List.length_take] at hi
    have := h i (by omega)
    rw [at0, List.getElem?_eq_getElem (by omega), Option.getD_some] at this
    rw [List.getElem_take]; exact this
  rw [List.length_take] at e2
  omega
theorem med_below (l : List Int) : 2 * l.countP (fun x => decide (2 * x < twi l)) ≤ l.length := by
  rcases Nat.eq_zero_or_pos l.length with h0 | h0
  · rw [List.length_eq_zero_iff.1 h0]; simp
  rw [countP_srt]
  have := countP_first (p := fun x => decide (2 * x < twi l)) (s := srt l) (k := l.length / 2) fun i h1 h2 => by
    have e1 := asc_le (srt_asc l) (i := l.length / 2) (j := i) h1 h2
    have e2 := asc_le (srt_asc l) (i := (l.length - 1) / 2) (j := l.length / 2) (by omega) (by rw [srt_len]; omega)
    exact decide_eq_false (by rw [twi]; omega)
  omega
theorem med_above (l : List Int) : 2 * l.countP (fun x => decide (twi l < 2 * x)) ≤ l.length := by
  rcases Nat.eq_zero_or_pos l.length with h0 | h0
  · rw [List.length_eq_zero_iff.1 h0]; simp
  rw [countP_srt]
  have := countP_last (p := fun x => decide (twi l < 2 * x)) (s := srt l) (k := (l.length - 1) / 2 + 1) fun i h1 h2 => by
    have e1 := asc_le (srt_asc l) (i := i) (j := (l.length - 1) / 2) (by omega) (by rw [srt_len]; omega)
    have e2 := asc_le (srt_asc l) (i := (l.length - 1) / 2) (j := l.length / 2) (by omega) (by rw [srt_len]; omega)
    exact decide_eq_false (by rw [twi]; omega)
  rw [srt_len] at this
  omega
/-- the magnitude of twice a number less another -/
def mg (x t : Int) : Int := if 2 * x < t then t - 2 * x else 2 * x - t
theorem mg_nn (x t : Int) : 0 ≤ mg x t := by unfold mg; split <;> omega
theorem mg_max (x t : Int) : max (2 * x - t) (t - 2 * x) = mg x t := by unfold mg; split <;> omega
theorem mg_bd {x t : Int} (h1 : 1 ≤ x ∧ x ≤ 200000) (h2 : -4000000 ≤ t ∧ t ≤ 4000000) : mg x t ≤ 5000000 := by unfold mg; split <;> omega
/-- the sum of the distances, twice -/
def sumM (l : List Int) (t : Int) : Int := (l.map fun x => mg x t).sum
theorem sumM_nil (t : Int) : sumM [] t = 0 := rfl
theorem sumM_snoc (l : List Int) (x t : Int) : sumM (l ++ [x]) t = sumM l t + mg x t := by simp [sumM]
theorem sumM_perm {l m : List Int} (h : l.Perm m) (t : Int) : sumM l t = sumM m t := by
  unfold sumM
  induction h with
  | nil => rfl
  | cons x _ ih => simp only [List.map_cons, List.sum_cons, ih]
  | swap x y l => simp only [List.map_cons, List.sum_cons]; omega
  | trans _ _ h1 h2 => exact h1.trans h2
theorem sumM_bd {t : Int} (h2 : -4000000 ≤ t ∧ t ≤ 4000000) : ∀ {l : List Int}, WV l → 0 ≤ sumM l t ∧ sumM l t ≤ 5000000 * l.length
  | [], _ => by simp [sumM]
  | x :: l, h => by
    have ih := sumM_bd h2 (l := l) fun y hy => h y (List.mem_cons_of_mem _ hy)
    have h3 := mg_nn x t
    have h4 := mg_bd (h x List.mem_cons_self) h2
    have e : sumM (x :: l) t = mg x t + sumM l t := by simp [sumM]
    rw [e, List.length_cons]; omega
theorem mg_pair {a b t y : Int} (h1 : 2 * a ≤ t) (h2 : t ≤ 2 * b) : mg a t + mg b t ≤ mg a y + mg b y := by unfold mg; split <;> split <;> split <;> split <;> omega
theorem sumM_two (s : List Int) (t y : Int) (h : ∀ i, i < s.length → mg (at0 s i) t + mg (at0 s (s.length - 1 - i)) t ≤ mg (at0 s i) y + mg (at0 s (s.length - 1 - i)) y) :
    ∀ k : Nat, k ≤ s.length → sumM (s.take k) t + sumM (s.reverse.take k) t ≤ sumM (s.take k) y + sumM (s.reverse.take k) y
  | 0, _ => by simp [sumM]
  | k + 1, hk => by
    have ih := sumM_two s t y h k (by omega)
    have h1 := h k (by omega)
    have e : at0 s.reverse k = at0 s (s.length - 1 - k) := by rw [at0, at0, List.getElem?_reverse (by omega)]
    rw [take_one (by omega), take_one (by rw [List.length_reverse]; omega), sumM_snoc, sumM_snoc, sumM_snoc, sumM_snoc, e]
    omega
/-- no whole number is nearer to all than the median -/
theorem dev_least (l : List Int) (y : Int) : sumM l (twi l) ≤ sumM l y := by
  rcases Nat.eq_zero_or_pos l.length with h0 | h0
  · rw [List.length_eq_zero_iff.1 h0]; simp [sumM]
  have h1 := sumM_two (srt l) (twi l) y (fun i hi => by
    rw [srt_len] at hi ⊢
    have e2 := asc_le (srt_asc l) (i := (l.length - 1) / 2) (j := l.length / 2) (by omega) (by rw [srt_len]; omega)
    by_cases hc : i ≤ (l.length - 1) / 2
    · have e1 := asc_le (srt_asc l) (i := i) (j := (l.length - 1) / 2) hc (by rw [srt_len]; omega)
      have e3 := asc_le (srt_asc l) (i := l.length / 2) (j := l.length - 1 - i) (by omega) (by rw [srt_len]; omega)
      exact mg_pair (by rw [twi]; omega) (by rw [twi]; omega)
    · have e1 := asc_le (srt_asc l) (i := l.length - 1 - i) (j := (l.length - 1) / 2) (by omega) (by rw [srt_len]; omega)
      have e3 := asc_le (srt_asc l) (i := l.length / 2) (j := i) (by omega) (by rw [srt_len]; omega)
      have := mg_pair (a := at0 (srt l) (l.length - 1 - i)) (b := at0 (srt l) i) (t := twi l) (y := y) (by rw [twi]; omega) (by rw [twi]; omega)
      omega) (srt l).length (Nat.le_refl _)
  rw [List.take_length, List.take_of_length_le (by rw [List.length_reverse]; exact Nat.le_refl _), sumM_perm (List.reverse_perm _) (twi l), sumM_perm (List.reverse_perm _) y, sumM_perm (srt_perm l) (twi l), sumM_perm (srt_perm l) y] at h1
  omega
end Go.Proofs.YthempimelfmipaaGreatDoor

namespace Go.Proofs.YthempimelfmipaaGreatDoor
open Go.RowKit Go.Proofs Go

def Wt (n : Int) : Prop := 1 ≤ n ∧ n ≤ 200000
/-- what the look for a number that is no weight leaves -/
def RetW (w : World) (l : List Int) (e : Ending) (w' : World) : Prop := ∃ r : Int, e = .returned (.int .i64 r) ∧ ((0 ≤ r ∧ ¬ WV l) ∨ (r = -1 ∧ WV l)) ∧ Below w.heap.size w w'
end Go.Proofs.YthempimelfmipaaGreatDoor

namespace Go.Proofs.YthempimelfmipaaGreatDoor
open Go.RowKit Go.Proofs Go

theorem IOwn.lit (W : World) {B : Nat} (hB : B ≤ W.heap.size) (l : List Int) (cs : Array Value) (hcs : cs.toList = icells l) (hl : l.length ≤ 1000000) : IOwn (W.alloc (.cells cs 3)) B (some ⟨W.heap.size, 0, none⟩) l.length l := by
  have h1 : cs.size = l.length := by rw [← Array.length_toList, hcs, icells, List.length_map]
  refine ⟨by rw [icells, List.length_map, Nat.mul_one], .inr ⟨W.heap.size, l.length, cs, rfl, hB, heap_alloc_new W _, Nat.le_refl _, by unfold maxLen; omega, by omega, ?_⟩⟩
  rw [hcs, Nat.mul_one, List.take_of_length_le (by rw [icells, List.length_map]; exact Nat.le_refl _)]
/-- append(s, x...): s a row of the call's own, x any numbers -/
theorem op_pushes {P : Program} {o : Oper} {a : Act} {K : Act → World → Prop} {Q : Exit → Act → World → Prop} {t e : TypeId} (E : Elt P t e (.int .i64 0) 8) (w : World) (s x : Operand) (hop : o.op = Op.call { callee := Callee.builtin Builtin.append, args := #[s, x], argTypes := #[t, t] })
    {B : Nat} {A X : Option Addr} {n m c cx : Nat} {xs : List Value} {l : List Int} (hs : a.eval s = .slice A n c) (hx : a.eval x = .slice X m cx) (hown : Own w B e A n c xs) (HX : IEs w X l) (hm : m = l.length) (hb : n + m ≤ 1000000) (hB : B ≤ w.heap.size)
    (hK : ∀ A' c' w', Own w' B e A' (n + m) c' (xs ++ icells l) → Below B w w' → K (a.put o.dst (.slice A' (n + m) c')) w') : Oper.wp P o a w K Q := by
  subst hm
  obtain ⟨i, hi, hz, h1, h2⟩ := info_parts E.info
  by_cases h0 : l.length = 0
  · have hr : l = [] := List.eq_nil_of_length_eq_zero h0
    subst hr
    have hnc : ¬ c < n := by
      rcases hown.2 with ⟨hv, h2⟩ | ⟨g, cap, cur, hv, _, _, hnc, _⟩
      · omega
      · injection hv with _ _ hc
        omega
    have hrun : (Builtin.append_ #[t, t] o.type #[.slice A n c, .slice X 0 cx]).run P w = .ok (.slice A n c) w := by
      cases A <;> cases X <;> simp [hnc, Builtin.append_, run_underlying E.und, sizeOf, typeInfo, hi, Builtin.lenOf, Builtin.firstCells, loadCells, loadCellsFrom, storeCells]
    have hk := hK A c w (by rw [show icells [] = [] from rfl, List.append_nil]; exact hown) (Below.refl _ _)
    unfold Oper.wp
    simp [execOp, hop, resolve, invoke, builtin, hs, hx, hrun, Result.andThen]
    exact hk
  · obtain ⟨xd, rfl, hxb, hxc⟩ := HX (by omega)
    have hcells : ∀ j u, (icells l)[j]? = some u → w.cell? (xd.add j) = some u := by
      intro j u hu
      have hj : j < l.length := by have := (List.getElem?_eq_some_iff.1 hu).1; rwa [icells, List.length_map] at this
      rw [icells, List.getElem?_map, List.getElem?_eq_getElem hj] at hu
      obtain rfl := Option.some.inj hu
      exact hxc j _ (List.getElem?_eq_getElem hj)
    refine wp_append_own w s x t hop B e i (.int .i64 0) 1 8 E.und hi hz h1 h2 rfl (by decide) _ n xs hs hown xd l.length cx (icells l) hx (by rw [icells, List.length_map, Nat.mul_one]) hcells ?_ (by unfold maxLen; omega) (by omega) hB ?_
    · intro u hu
      obtain ⟨y, _, rfl⟩ := List.mem_map.1 hu
      rfl
    · intro v' w' h3 h4 h5
      obtain ⟨A', c', rfl⟩ : ∃ A' c', v' = .slice A' (n + l.length) c' := by
        rcases h3.2 with ⟨_, h0⟩ | ⟨g, cap, cur, hv, _⟩
        · omega
        · exact ⟨_, _, hv⟩
      exact hK A' c' w' h3 (below_of_grown h4 hB fun k hk => ((World.ownsRow.lt hown) k hk).1)
theorem wp_pushes {P : Program} {ops : Array Oper} {rest : List Oper} {o : Oper} {a : Act} {Q : Exit → Act → World → Prop} {t e : TypeId} (E : Elt P t e (.int .i64 0) 8) (w : World) (hg : o.guard = none) (s x : Operand) (hop : o.op = Op.call { callee := Callee.builtin Builtin.append, args := #[s, x], argTypes := #[t, t] })
    {B : Nat} {A X : Option Addr} {n m c cx : Nat} {xs : List Value} {l : List Int} (hs : a.eval s = .slice A n c) (hx : a.eval x = .slice X m cx) (hown : Own w B e A n c xs) (HX : IEs w X l) (hm : m = l.length) (hb : n + m ≤ 1000000) (hB : B ≤ w.heap.size)
    (hK : ∀ A' c' w', Own w' B e A' (n + m) c' (xs ++ icells l) → Below B w w' → wpList P ops Q rest (a.put o.dst (.slice A' (n + m) c')) w') : wpList P ops Q (o :: rest) a w :=
  wpList_plain hg fun _ hK' => op_pushes E w s x hop hs hx hown HX hm hb hB fun A' c' w' h1 h2 => hK' _ _ (hK A' c' w' h1 h2)
theorem IOwn.all {w : World} {B c n : Nat} {A : Option Addr} {l : List Int} (h : Own w B 3 A n c ([] ++ icells l)) (hn : n = l.length) : IOwn w B A c l := by
  subst hn; rw [List.nil_append] at h; exact h
/-- the slice l[k:k+m], as the model spells its address -/
theorem IEs.sub {w : World} {A : Option Addr} {l : List Int} (h : IEs w A l) {c k m : Nat} (hc : l.length ≤ c) (hk : k + m ≤ l.length) : IEs w (if c = k then A else A.map (·.add k)) ((l.drop k).take m) := fun h0 => by
  rw [List.length_take, List.length_drop] at h0
  obtain ⟨ad, rfl, hb, hx⟩ := h (by omega)
  rw [if_neg (by omega)]
  refine ⟨ad.add k, rfl, by rw [addr_add_block]; exact hb, fun i x hi => ?_⟩
  have hil := (List.getElem?_eq_some_iff.1 hi).1
  rw [List.length_take, List.length_drop] at hil
  rw [List.getElem?_take_of_lt (by omega), List.getElem?_drop] at hi
  rw [addr_add_add]
  exact hx _ _ hi
/-- a list of numbers and an error -/
def RetLw (w : World) (L : List Int) (E : Int) (e : Ending) (w' : World) : Prop := ∃ A c, e = .returned (.tuple #[.slice A L.length c, .int .i64 E]) ∧ IEs w' A L ∧ Below w.heap.size w w'
/-- what Table returns -/
def BadT (low step n : Int) : Prop := low < 0 ∨ 200000 < low ∨ step < 1 ∨ 10000 < step ∨ n < 1 ∨ 64 < n
instance (low step n : Int) : Decidable (BadT low step n) := inferInstanceAs (Decidable (_ ∨ _))
def tabR (l : List Int) (low step n : Int) : List Int × Int := if chkE l = 0 then (if BadT low step n then ([], 2) else (tabF l low step n.toNat, 0)) else ([], chkE l)
theorem mul_bd {k s : Int} (h1 : 0 ≤ k) (h2 : k ≤ 65) (h3 : 1 ≤ s) (h4 : s ≤ 10000) : 0 ≤ k * s ∧ k * s ≤ 650000 := by
  refine ⟨Int.mul_nonneg h1 (by omega), ?_⟩
  have h5 := Int.mul_le_mul_of_nonneg_right h2 (show 0 ≤ s by omega)
  omega
end Go.Proofs.YthempimelfmipaaGreatDoor

namespace Go.Proofs.YthempimelfmipaaGreatDoor

def exch (o : List Int) (k : Nat) : List Int := (o.set k (at0 o (k - 1))).set (k - 1) (at0 o k)
theorem exch_len (o : List Int) (k : Nat) : (exch o k).length = o.length := by rw [exch, List.length_set, List.length_set]
theorem exch_perm {o : List Int} {k : Nat} (h0 : 0 < k) (h : k < o.length) : (exch o k).Perm o := by
  have e1 : at0 o (k - 1) = o[k - 1] := by rw [at0, List.getElem?_eq_getElem (by omega)]; rfl
  have e2 : at0 o k = o[k] := by rw [at0, List.getElem?_eq_getElem h]; rfl
  rw [exch, e1, e2]
  exact List.set_set_perm h (by omega)
theorem exch_at {o : List Int} {k j : Nat} (h0 : 0 < k) (h : k < o.length) : at0 (exch o k) j = if j = k - 1 then at0 o k else if j = k then at0 o (k - 1) else at0 o j := by
  by_cases h1 : j = k - 1
  · rw [if_pos h1, h1, at0, exch, List.getElem?_set_self (by rw [List.length_set]; omega)]; rfl
  · rw [if_neg h1]
    by_cases h2 : j = k
    · rw [if_pos h2, h2, at0, exch, List.getElem?_set_ne (by omega), List.getElem?_set_self h]; rfl
    · rw [if_neg h2, at0, exch, List.getElem?_set_ne (by omega), List.getElem?_set_ne (by omega)]; rfl
/-- the first i are in order -/
def Upto (o : List Int) (i : Nat) : Prop := ∀ a b, a < b → b < i → at0 o a ≤ at0 o b
/-- the first i + 1 are in order but for what stands at k -/
def Ins (o : List Int) (i k : Nat) : Prop := ∀ a b, a < b → b ≤ i → b ≠ k → at0 o a ≤ at0 o b
theorem Upto.one (o : List Int) : Upto o 1 := fun a b h1 h2 => by omega
theorem Upto.start {o : List Int} {i : Nat} (h : Upto o i) : Ins o i i := fun a b h1 h2 h3 => h a b h1 (by omega)
theorem Ins.zero {o : List Int} {i : Nat} (h : Ins o i 0) : Upto o (i + 1) := fun a b h1 h2 => h a b h1 (by omega) (by omega)
theorem Ins.stop {o : List Int} {i k : Nat} (h : Ins o i k) (h0 : 0 < k) (hle : ¬ at0 o k < at0 o (k - 1)) (hk : k ≤ i) : Upto o (i + 1) := fun a b h1 h2 => by
  by_cases hb : b = k
  · subst hb
    by_cases ha : a = b - 1
    · subst ha; omega
    · have := h a (b - 1) (by omega) (by omega) (by omega); omega
  · exact h a b h1 (by omega) hb
theorem Ins.step {o : List Int} {i k : Nat} (h : Ins o i k) (h0 : 0 < k) (hk : k < o.length) (hki : k ≤ i) (hlt : at0 o k < at0 o (k - 1)) : Ins (exch o k) i (k - 1) := fun a b h1 h2 h3 => by
  rw [exch_at h0 hk, exch_at h0 hk, if_neg h3]
  by_cases hb : b = k
  · rw [if_pos hb]
    by_cases ha : a = k - 1
    · rw [if_pos ha]; omega
    · rw [if_neg ha, if_neg (by omega)]; exact h a (k - 1) (by omega) (by omega) (by omega)
  · rw [if_neg hb]
    by_cases ha : a = k - 1
    · rw [if_pos ha]; exact h k b (by omega) h2 hb
    · rw [if_neg ha]
      by_cases ha2 : a = k
      · rw [if_pos ha2]; exact h (k - 1) b (by omega) h2 hb
      · rw [if_neg ha2]; exact h a b h1 h2 hb
theorem Upto.done {o l : List Int} (hp : o.Perm l) (h : Upto o l.length) : o = srt l := by
  refine srt_unique hp (List.pairwise_iff_getElem.2 fun i j hi hj hij => ?_)
  have := h i j hij (by rw [← hp.length_eq]; exact hj)
  rwa [at0, at0, List.getElem?_eq_getElem hi, List.getElem?_eq_getElem hj] at this
end Go.Proofs.YthempimelfmipaaGreatDoor

namespace Go.Proofs.YthempimelfmipaaGreatDoor
open Go.RowKit Go.Proofs Go

/-- a list of numbers -/
def RetLs (w : World) (L : List Int) (e : Ending) (w' : World) : Prop := ∃ A c, e = .returned (.slice A L.length c) ∧ IEs w' A L ∧ L.length ≤ c ∧ Below w.heap.size w w'
theorem icells_set (l : List Int) (j : Nat) (x : Int) : (icells l).set j (.int .i64 x) = icells (l.set j x) := by simp [icells, List.map_set]
theorem icells_at {l : List Int} {j : Nat} (h : j < l.length) : (icells l)[j]? = some (.int .i64 (at0 l j)) := by
  rw [icells, List.getElem?_map, at0_get h]; rfl
theorem Own.icell {w : World} {B T g n c j : Nat} {o : List Int} (h : Own w B T (some ⟨g, 0, none⟩) n c (icells o)) (hj : j < o.length) : w.cell? ⟨g, j, none⟩ = some (.int .i64 (at0 o j)) := by
  have hl := h.len
  rw [icells, List.length_map] at hl
  rw [World.ownsRow.cellAt h j (by omega)]
  exact icells_at hj
theorem Own.istored {w : World} {B T g n c j : Nat} {o : List Int} (h : Own w B T (some ⟨g, 0, none⟩) n c (icells o)) (x : Int) : Own (w.setCell ⟨g, j, none⟩ (.int .i64 x)) B T (some ⟨g, 0, none⟩) n c (icells (o.set j x)) := by
  rw [← icells_set]; exact (World.ownsRow.stored h j _).1
theorem Own.block {w : World} {B T n c : Nat} {A : Option Addr} {xs : List Value} (h : Own w B T A n c xs) (h0 : 0 < n) : ∃ g, A = some ⟨g, 0, none⟩ ∧ B ≤ g := by
  rcases h.2 with ⟨_, h2⟩ | ⟨g, cap, cur, hv, hb, _⟩
  · omega
  · injection hv with hA _ _
    exact ⟨g, hA, hb⟩
theorem Own.iown {w : World} {B n c : Nat} {A : Option Addr} {o : List Int} (h : Own w B 3 A n c (icells o)) (hn : n = o.length) : IOwn w B A c o := by subst hn; exact h
end Go.Proofs.YthempimelfmipaaGreatDoor

namespace Go.Proofs.YthempimelfmipaaGreatDoor
open Go.RowKit Go.Proofs Go.Shelf Go.Sort Go

attribute [local go_sem] Oper.semAt_some

/-- the slice reads as numbers, in a block below n₀ -/
def Ints0 (n₀ : Nat) (W : World) (sv : Value) (zs : List Int) : Prop :=
  (∃ A c, sv = .slice A 0 c ∧ zs = []) ∨ ∃ ad cap, sv = .slice (some ad) zs.length cap ∧ ad.block < n₀ ∧ ∀ j, j < zs.length → W.cell? (ad.add j) = some (.int .i64 (zs[j]?.getD 0))
theorem Ints0.below {n₀ : Nat} {A B : World} (h : Below n₀ A B) {sv : Value} {zs : List Int} : Ints0 n₀ A sv zs → Ints0 n₀ B sv zs
  | .inl e => .inl e
  | .inr ⟨ad, cap, e, hb, hc⟩ => .inr ⟨ad, cap, e, hb, fun j hj => (h.cell (p := ad.add j) (by rw [addr_add_block]; exact hb)).trans (hc j hj)⟩
theorem IEs.ints0 {w : World} {A : Option Addr} {l : List Int} (h : IEs w A l) (c : Nat) : Ints0 w.heap.size w (.slice A l.length c) l := by
  rcases Nat.eq_zero_or_pos l.length with h0 | h0
  · have e := List.length_eq_zero_iff.1 h0
    exact .inl ⟨A, c, by rw [h0], e⟩
  · obtain ⟨ad, rfl, hb, hc⟩ := h h0
    exact .inr ⟨ad, c, rfl, hb, fun j hj => hc j _ (by rw [List.getElem?_eq_getElem hj]; rfl)⟩
def upto {α : Type} (f : Nat → α) (k : Nat) : List α := (List.range k).map f
theorem upto_succ {α : Type} (f : Nat → α) (k : Nat) : upto f (k + 1) = upto f k ++ [f k] := by simp [upto, List.range_succ]
theorem upto_length {α : Type} (f : Nat → α) (k : Nat) : (upto f k).length = k := by simp [upto]
theorem upto_all (zs : List Int) : upto (fun j => zs[j]?.getD 0) zs.length = zs := by
  apply List.ext_getElem
  · simp [upto]
  · intro i h1 h2
    simp [upto, h2]

set_option maxRecDepth 100000 in
set_option maxHeartbeats 2000000 in
theorem values1_in (F : Fence) (n : Nat) (h7 : F.fn 114) (hro : F.round = none) (hn : 1 ≤ n) (l Bs n₀ : Nat) (ad : Addr) (len cap : Nat) (zs : List Int) (hreach : len * 8 ≤ 140737488351232) (hb : ad.block < n₀) (J Jx : List Int → World → Prop)
    (hY : ∀ pre x W, J pre W → pre.length < len → YieldAt F (n - 1) Tryz.prog l #[.int .i64 x] W fun e W' =>
      (e = .returned (.bool true) ∧ J (pre ++ [x]) W' ∧ Below n₀ W W') ∨ (e = .returned (.bool false) ∧ Jx (pre ++ [x]) W'))
    (W : World) (hBs : W.cell? ⟨Bs, 0, none⟩ = some (.slice (some ad) len cap)) (hc : ∀ j, j < len → W.cell? (ad.add j) = some (.int .i64 (zs[j]?.getD 0))) (h0 : J [] W) :
    CallsIn F n Tryz.prog 114 #[.func (.yield l) #[] #[], .pointer (some ⟨Bs, 0, none⟩)] W fun e W' => (∃ v, e = .returned v) ∧
      ((∃ ys, ys = upto (fun j => zs[j]?.getD 0) len ∧ J ys W') ∨ (∃ pre, (∃ k, k ≤ len ∧ pre = upto (fun j => zs[j]?.getD 0) k) ∧ Jx pre W')) := by
  refine callsIn_of_wp Tryz.func114 rfl h7 ?_ hro
  simp only [Tryz.ntmps114, List.size_toArray, List.length_cons, List.length_nil, Nat.reduceAdd, Nat.reduceSub, Array.replicate_succ, Array.replicate_zero, List.push_toArray, List.append_toArray, List.nil_append, List.cons_append]
  gi_wp2
  gi_loopw [7] (fun i wr => ∃ k : Nat, k ≤ len ∧ i = .int .i64 k ∧ J (upto (fun j => zs[j]?.getD 0) k) wr ∧ Below n₀ W wr)
    (fun i _ => len - (intOf i).toNat)
  case atStart => exact ⟨0, Nat.zero_le _, rfl, h0, Below.refl _ _⟩
  case round =>
    obtain ⟨k, hk, rfl, hJs, hnx⟩ := hrel
    have hcx : k < len → wr.cell? (ad.add k) = some (.int .i64 (zs[k]?.getD 0)) := fun h => (hnx.cell (p := ad.add k) (by rw [addr_add_block]; exact hb)).trans (hc k h)
    by_cases hlt : k < len
    · obtain ⟨fn, tmps, assign, body, hy, hR⟩ := hY _ (zs[k]?.getD 0) wr hJs (by rw [upto_length]; exact hlt)
      have hcx' := hcx hlt
      gi_wp2
      refine hR.mono ?_
      rintro e W3 (⟨rfl, hJ3, hk3⟩ | ⟨rfl, hJx3⟩)
      · gi_wp2
        go_roundw
        case rel => exact ⟨k + 1, by omega, by simp, by rw [upto_succ]; exact hJ3, hnx.trans hk3⟩
        case measure => simp [intOf]; omega
      · gi_wp2
        refine bodyPost_ret (results_none rfl _ _ _) rfl ?_
        exact ⟨⟨_, rfl⟩, .inr ⟨_, ⟨k + 1, by omega, (upto_succ _ _).symm⟩, hJx3⟩⟩
    · obtain rfl : k = len := by omega
      gi_wp2
      go_end0
      exact ⟨⟨_, rfl⟩, .inl ⟨_, rfl, hJs⟩⟩

set_option maxRecDepth 100000 in
set_option maxHeartbeats 1000000 in
theorem values1_nil_in (F : Fence) (n : Nat) (h7 : F.fn 114) (hro : F.round = none) (l Bs : Nat) (A : Option Addr) (c : Nat) (J : List Int → World → Prop) (W : World) (hBs : W.cell? ⟨Bs, 0, none⟩ = some (.slice A 0 c)) (h0 : J [] W) :
    CallsIn F n Tryz.prog 114 #[.func (.yield l) #[] #[], .pointer (some ⟨Bs, 0, none⟩)] W fun e W' => (∃ v, e = .returned v) ∧ J [] W' := by
  refine callsIn_of_wp Tryz.func114 rfl h7 ?_ hro
  simp only [Tryz.ntmps114, List.size_toArray, List.length_cons, List.length_nil, Nat.reduceAdd, Nat.reduceSub, Array.replicate_succ, Array.replicate_zero, List.push_toArray, List.append_toArray, List.nil_append, List.cons_append]
  gi_wp2
  gi_loopw [7] (fun i wr => i = .int .i64 0 ∧ J [] wr) (fun _ _ => 0)
  case atStart => exact ⟨rfl, h0⟩
  case round =>
    obtain ⟨rfl, hJs⟩ := hrel
    gi_wp2
    go_end0
    exact ⟨⟨_, rfl⟩, hJs⟩

set_option maxHeartbeats 1000000 in
theorem values_in (F : Fence) (n : Nat) (h5 : F.fn 90) (hro : F.round = none) (a : Option Addr) (len cap : Nat) (w : World) :
    CallsIn F n Tryz.prog 90 #[.slice a len cap] w fun e w' => e = .returned (.func (.func 114) #[] #[.pointer (some ⟨w.heap.size, 0, none⟩)]) ∧ w' = w.alloc (.cells #[.slice a len cap] 50) := by
  refine callsIn_of_wp Tryz.func90 rfl h5 ?_ hro
  simp only [Tryz.ntmps90, List.size_toArray, List.length_cons, List.length_nil, Nat.reduceAdd, Nat.reduceSub, Array.replicate_succ, Array.replicate_zero, List.push_toArray, List.append_toArray, List.nil_append, List.cons_append]
  gi_wp2
  go_ret
  exact ⟨rfl, rfl⟩

theorem values_stops (F : Fence) (n : Nat) (h7 : F.fn 114) (hro : F.round = none) (hn : 1 ≤ n) (Bs n₀ : Nat) (sv : Value) (zs : List Int) (hreach : zs.length * 8 ≤ 140737488351232) (w : World) (hBs : Bs < w.heap.size) (hn₀ : n₀ ≤ w.heap.size)
    (hc : w.cell? ⟨Bs, 0, none⟩ = some sv) (hI : Ints0 n₀ w sv zs) :
    SeqStopsK F n Tryz.prog 114 #[.pointer (some ⟨Bs, 0, none⟩)] (fun x : Int => #[Value.int .i64 x]) (Below n₀) (fun ys => ys = zs) (fun _ => True) zs.length w := fun l J Jx W hW _ _ hY h0 => by
  have hc' := (hW.cell (p := ⟨Bs, 0, none⟩) hBs).trans hc
  rcases hI.below (hW.mono hn₀) with ⟨A, c, rfl, rfl⟩ | ⟨ad, cap, rfl, hb, hcs⟩
  · exact (values1_nil_in F n h7 hro l Bs A c J W hc' h0).mono fun e W' ⟨he, hj⟩ => ⟨he, .inl ⟨_, rfl, hj⟩⟩
  · refine (values1_in F n h7 hro hn l Bs n₀ ad zs.length cap zs hreach hb J Jx hY W hc' hcs h0).mono ?_
    rintro e W' ⟨he, ⟨ys, rfl, hj⟩ | ⟨pre, ⟨k, hk, rfl⟩, hj⟩⟩
    · exact ⟨he, .inl ⟨_, upto_all zs, hj⟩⟩
    · exact ⟨he, .inr ⟨_, trivial, hj⟩⟩

theorem infoI : (Tryz.prog.info? 3).map (fun i => (i.zero, i.size, i.bytes)) = some (some (.int .i64 0), 1, 8) := by kernel_rfl

set_option maxRecDepth 100000 in
set_option maxHeartbeats 2000000 in
/-- slices.AppendSeq(nil, slices.Values(s)) -/
theorem appendSeq_in (F : Fence) (n : Nat) (h11 : F.fn 132) (h7 : F.fn 114) (hro : F.round = none) (hn : 3 ≤ n) (Bs n₀ : Nat) (sv : Value) (zs : List Int) (hlen : zs.length ≤ 1000000) (w : World) (hBs : Bs < w.heap.size) (hn₀ : n₀ ≤ w.heap.size)
    (hc : w.cell? ⟨Bs, 0, none⟩ = some sv) (hI : Ints0 n₀ w sv zs) :
    CallsIn F n Tryz.prog 132 #[.slice none 0 0, .func (.func 114) #[] #[.pointer (some ⟨Bs, 0, none⟩)]] w fun e W' => ∃ v, e = .returned v ∧ W'.ownsRow w.heap.size 3 1 v zs.length (zs.map (Value.int .i64)) ∧ (v = .slice none 0 0 ↔ zs = []) ∧ Below w.heap.size w W' := by
  have h1 : 1 ≤ n := by omega
  obtain ⟨i0, hi, hz0, hz1, hz2⟩ := info_parts infoI
  refine callsIn_of_wp_marks Tryz.func132 rfl h11 ?_ hro
  simp only [Tryz.ntmps132, List.size_toArray, List.length_cons, List.length_nil, Nat.reduceAdd, Nat.reduceSub, Array.replicate_succ, Array.replicate_zero, List.push_toArray, List.append_toArray, List.nil_append, List.cons_append]
  gi_wp2
  have bO := Boxed.new w 50 (.slice none 0 0)
  have hB0 : Below w.heap.size w (w.alloc (.cells #[.slice none 0 0] 50)) := (Below.refl _ w).alloc (Nat.le_refl _) _
  refine wpIn_rangeFunc_ownG hro h1 (gf := 114) (lb := #[.pointer (some ⟨Bs, 0, none⟩)]) rfl h7 (enters_of Tryz.func114 (by kernel_rfl) rfl)
    (values_stops F (n - 1) h7 hro (by omega) Bs w.heap.size sv zs (by omega) _ (by simp; omega) (by simp) ((hB0.cell (p := ⟨Bs, 0, none⟩) hBs).trans hc) (by
      rcases hI with h | ⟨ad, cap, e, hb, hcs⟩
      · exact .inl h
      · exact .inr ⟨ad, cap, e, by omega, fun j hj => (hB0.cell (p := ad.add j) (by rw [addr_add_block]; omega)).trans (hcs j hj)⟩)) belowK_t (belowK_b (by simp)) (Below.refl _ _) (fun _ => rfl)
    (fun pre W => (∃ v, Boxed W w.heap.size 50 v ∧ W.ownsRow w.heap.size 3 1 v pre.length (pre.map (Value.int .i64)) ∧ (v = .slice none 0 0 ↔ pre = [])) ∧ Below w.heap.size w W)
    (fun _ _ _ => False)
    (OwnFrom.and (Own.from (holdsRow_own w.heap.size w.heap.size 50 3 1 (fun pre => pre.length) (fun pre => pre.map (Value.int .i64)) (fun pre v => v = .slice none 0 0 ↔ pre = [])) _) (ownFrom_below (Nat.le_refl _) (by simp)))
    (fun _ _ _ _ _ hs _ _ => hs)
    ⟨⟨_, bO, World.ownsRow_nil _ _ _ _, by simp⟩, hB0⟩
    (fun x => { tmps := #[.slice none 0 0, .func (.func 114) #[] #[.pointer (some ⟨Bs, 0, none⟩)], .pointer (some ⟨w.heap.size, 0, none⟩), undef, .slice none 0 0, .int .i64 x, .func (.func 114) #[] #[.pointer (some ⟨Bs, 0, none⟩)], .int .i64 x, undef, undef, undef, undef, undef], defers := [] }) ?assign ?body ?done ?stop
  case assign =>
    intro l x W K hK
    gi_wp2
    exact hK
  case body =>
    rintro l pre x W ⟨⟨v, hv, hrow, hnil⟩, hB⟩ hlt
    have hc := hv.cell
    gi_wp2_with (gi_at_builtin; refine wpListIn_append_own _ rfl _ _ 50 rfl w.heap.size 3 i0 (.int .i64 0) 1 8 Tryz.underlying50 hi hz0 hz1 hz2 rfl (by decide) _ _ _ rfl (hrow.alloc _) ⟨W.heap.size, 0, none⟩ 1 1 [.int .i64 x] rfl rfl (cell_one_new _ _ _) (by simp [Value.oneCell']) (by unfold maxLen; omega) (by omega) (by have := hB.size; simp; omega) ?_; intro v' w1 hown' hgrow _; obtain ⟨g', cap', rfl⟩ := ownsRow_succ hown'; obtain ⟨hv1, hv2, hr2, hk2, hb2⟩ := hv.appended (by decide) hrow hB.size (Nat.le_refl _) hown' hgrow; have hc1 := hv1.cell; have hf1 := hv1.frozen)
    exact ⟨hk2.from _, hb2, ⟨_, hv2, by simpa using hr2, by simp⟩, hB.trans hb2⟩
  case done =>
    rintro D ys W hD rfl ⟨⟨v, hv, hrow, hnil⟩, hB⟩ hK
    have hc := hv.cell
    gi_wp2
    refine ⟨by simp, .inl ⟨_, _, rfl, run_takeDeferred hK, ?_⟩⟩
    exact ⟨_, results_tmp rfl _ _ _, v, rfl, ownsRow_putObj hrow _ hK rfl, hnil, hB.trans (belowK_b (w := w) (Nat.le_refl _) W D _ _ (by simp at hD; omega) hK rfl rfl)⟩
  case stop =>
    rintro D c pre W _ _ h _
    exact h.elim

set_option maxHeartbeats 1000000 in
theorem collect_in (F : Fence) (n : Nat) (h8 : F.fn 112) (h11 : F.fn 132) (h7 : F.fn 114) (hro : F.round = none) (hn : 4 ≤ n) (Bs n₀ : Nat) (sv : Value) (zs : List Int) (hlen : zs.length ≤ 1000000) (w : World) (hBs : Bs < w.heap.size) (hn₀ : n₀ ≤ w.heap.size)
    (hc : w.cell? ⟨Bs, 0, none⟩ = some sv) (hI : Ints0 n₀ w sv zs) :
    CallsIn F n Tryz.prog 112 #[.func (.func 114) #[] #[.pointer (some ⟨Bs, 0, none⟩)]] w fun e W' => ∃ v, e = .returned v ∧ W'.ownsRow w.heap.size 3 1 v zs.length (zs.map (Value.int .i64)) ∧ (v = .slice none 0 0 ↔ zs = []) ∧ Below w.heap.size w W' := by
  have h1 : 1 ≤ n := by omega
  refine callsIn_of_wp Tryz.func112 rfl h8 ?_ hro
  simp only [Tryz.ntmps112, List.size_toArray, List.length_cons, List.length_nil, Nat.reduceAdd, Nat.reduceSub, Array.replicate_succ, Array.replicate_zero, List.push_toArray, List.append_toArray, List.nil_append, List.cons_append]
  gi_wp2_with (gi_at_call 132; refine (appendSeq_in F (n - 1) h11 h7 hro (by omega) Bs n₀ sv zs hlen _ hBs hn₀ hc hI).mono ?_; rintro e w' ⟨v, rfl, hrow, hnil, hb⟩)
  go_ret
  exact ⟨v, rfl, hrow, hnil, hb⟩

set_option maxHeartbeats 1000000 in
theorem values_h (A : Option Addr) (len c : Nat) (w : World) :
    Calls Tryz.prog 90 #[.slice A len c] w fun e w' => e = .returned (.func (.func 114) #[] #[.pointer (some ⟨w.heap.size, 0, none⟩)]) ∧ w' = w.alloc (.cells #[.slice A len c] 50) :=
  callsIn_wide.1 (values_in Fence.wide 3 trivial rfl A len c w)
theorem srt_nil : srt [] = [] := srt_unique (List.Perm.refl _) List.Pairwise.nil ▸ rfl
set_option maxRecDepth 100000 in
set_option maxHeartbeats 2000000 in
/-- slices.Sorted(slices.Values(l)), behind the making of the iterator -/
theorem sorted_h {A : Option Addr} {c g : Nat} {l : List Int} (w : World) (hg : w.cell? ⟨g, 0, none⟩ = some (.slice A l.length c)) (H : IEs w A l) (hl : l.length ≤ 1000000) :
    Calls Tryz.prog 89 #[.func (.func 114) #[] #[.pointer (some ⟨g, 0, none⟩)]] w (RetLs w (srt l)) := by
  have hC := callsIn_wide.1 (collect_in Fence.wide 5 trivial trivial trivial rfl (by omega) g w.heap.size (.slice A l.length c) l hl w (cell_lt hg) (Nat.le_refl _) hg (H.ints0 c))
  clear hg H
  go_enter Tryz.func89, Tryz.ntmps89
  go_wp2_with fail
  refine hC.mono ?_
  rintro e w2 ⟨v, rfl, hrow, hnil, hb⟩
  clear hC
  rcases hrow.2 with ⟨rfl, hz⟩ | ⟨gb, cap, cur, rfl, hbase, hgb, r1, r2, r3, r4⟩
  · have hss : l = [] := List.eq_nil_of_length_eq_zero hz
    subst hss
    clear hrow hnil
    go_wp2_with fail
    refine (Tryz.slices_Sort_int_none none 0 w2).mono ?_
    rintro e w3 ⟨rfl, rfl⟩
    go_wp2
    go_ret
    refine ⟨none, 0, by rw [srt_nil]; rfl, by rw [srt_nil]; exact IEs.nil _ _, by rw [srt_nil]; exact Nat.le_refl _, hb⟩
  · have hH : Holds (Value.int .i64) w2 gb 0 l.toArray := holds_of_blockI hgb (by simpa using r4)
    have hgl : gb < w2.heap.size := (Array.getElem?_eq_some_iff.1 hgb).1
    have hsz : l.length < 4611686018427387904 := by omega
    have cS := Tryz.slices_Sort_int gb 0 cap l w2 hH hgl hsz
    clear hH hnil hrow
    have hr := fun (w' : World) (nn : Nat) (os : Array Obj) (e : w' = grow (putRow (Value.int .i64) (Sort.ahead w2 nn) gb 0 (srt l).toArray) os) => (show IOwn w' w.heap.size (some ⟨gb, 0, none⟩) cap (srt l) ∧ Below w.heap.size w w' from by
      subst e
      have h1 := ownsRow_sortedI (os := os) (n := nn) (ts := srt l) (ss := l) (srt_len l) hbase hgb r1 r2 r3
      refine ⟨?_, hb.grown (grownBy_sortedI _) hb.size (fun j hj => by cases hj; exact hbase)⟩
      unfold IOwn Own
      rw [srt_len]; exact h1)
    clear hgb r1 r2 r3 r4
    go_wp2_with fail
    refine cS.mono ?_
    rintro e w3 ⟨rfl, nn, os, hw⟩
    obtain ⟨h1, h2⟩ := hr w3 nn os hw
    clear hw hr cS
    go_wp2
    go_ret
    exact ⟨some ⟨gb, 0, none⟩, cap, by rw [srt_len]; rfl, h1.es, h1.cap, h2⟩
end Go.Proofs.YthempimelfmipaaGreatDoor
