/- The reference's sorted list of weights. -/
import Derived.Test.YteleohgalknkiaaGreatDoorHMath
import Derived.Test.YteleohgalknkiaaGreatDoorIn
import Derived.RegionTactic
import Derived.BigRegion
namespace Go.Proofs.YteleohgalknkiaaGreatDoor

/-- valid weights -/
def WV (l : List Int) : Prop := ∀ x ∈ l, 1 ≤ x ∧ x ≤ 200000
instance (l : List Int) : Decidable (WV l) := inferInstanceAs (Decidable (∀ x ∈ l, 1 ≤ x ∧ x ≤ 200000))
theorem WV.take {l : List Int} (h : WV l) (k : Nat) : WV (l.take k) := fun x hx => h x (List.mem_of_mem_take hx)
/-- the error of a list -/
def chkE (l : List Int) : Int := if 64 < l.length then 6 else if WV l then 0 else 1
def someE (l : List Int) : Int := if chkE l = 0 then (if l.length = 0 then 7 else 0) else chkE l
theorem chkE_zero {l : List Int} : chkE l = 0 ↔ l.length ≤ 64 ∧ WV l := by
  unfold chkE
  by_cases h : 64 < l.length
  · rw [if_pos h]; constructor
    · intro e; cases e
    · intro e; omega
  · rw [if_neg h]
    by_cases h2 : WV l
    · rw [if_pos h2]; exact ⟨fun _ => ⟨by omega, h2⟩, fun _ => rfl⟩
    · rw [if_neg h2]; exact ⟨fun e => absurd e (by decide), fun e => absurd e.2 h2⟩
theorem someE_zero {l : List Int} : someE l = 0 ↔ l.length ≤ 64 ∧ WV l ∧ 0 < l.length := by
  unfold someE
  by_cases h : chkE l = 0
  · rw [if_pos h]
    have := chkE_zero.1 h
    by_cases h2 : l.length = 0
    · rw [if_pos h2]; constructor
      · intro e; cases e
      · intro e; omega
    · rw [if_neg h2]; exact ⟨fun _ => ⟨this.1, this.2, by omega⟩, fun _ => rfl⟩
  · rw [if_neg h]; exact ⟨fun e => absurd e h, fun e => absurd (chkE_zero.2 ⟨e.1, e.2.1⟩) h⟩
/-- how many are at least a and below b -/
def cnt (l : List Int) (a b : Int) : Nat := l.countP fun x => decide (a ≤ x) && decide (x < b)
theorem cnt_le (l : List Int) (a b : Int) : cnt l a b ≤ l.length := List.countP_le_length
theorem cnt_cons (x : Int) (l : List Int) (a b : Int) : cnt (x :: l) a b = cnt l a b + (if a ≤ x ∧ x < b then 1 else 0) := by
  simp [cnt, List.countP_cons]
theorem cnt_snoc (l : List Int) (x : Int) (a b : Int) : cnt (l ++ [x]) a b = cnt l a b + (if a ≤ x ∧ x < b then 1 else 0) := by
  simp [cnt, List.countP_append, List.countP_cons]
theorem cnt_add {a b c : Int} (h1 : a ≤ b) (h2 : b ≤ c) : ∀ l : List Int, cnt l a b + cnt l b c = cnt l a c
  | [] => rfl
  | x :: l => by
    have ih := cnt_add h1 h2 l
    rw [cnt_cons, cnt_cons, cnt_cons]
    by_cases e1 : a ≤ x ∧ x < b
    · rw [if_pos e1, if_neg (by omega), if_pos (by omega)]; omega
    · rw [if_neg e1]
      by_cases e2 : b ≤ x ∧ x < c
      · rw [if_pos e2, if_pos (by omega)]; omega
      · rw [if_neg e2, if_neg (by omega)]; omega
theorem cnt_all {b : Int} (hb : 0 ≤ b) : ∀ {l : List Int}, WV l → cnt l 0 b + cnt l b 200001 = l.length
  | [], _ => rfl
  | x :: l, h => by
    have ih := cnt_all hb (l := l) fun y hy => h y (List.mem_cons_of_mem _ hy)
    have hx := h x List.mem_cons_self
    rw [cnt_cons, cnt_cons, List.length_cons]
    by_cases e1 : 0 ≤ x ∧ x < b
    · rw [if_pos e1, if_neg (by omega)]; omega
    · rw [if_neg e1, if_pos (by omega)]; omega
theorem cnt_top {b c : Int} (hc : 200001 ≤ c) : ∀ {l : List Int}, WV l → cnt l b c = cnt l b 200001
  | [], _ => rfl
  | x :: l, h => by
    have ih := cnt_top (b := b) hc (l := l) fun y hy => h y (List.mem_cons_of_mem _ hy)
    have hx := h x List.mem_cons_self
    rw [cnt_cons, cnt_cons, ih]
    by_cases e1 : b ≤ x
    · rw [if_pos ⟨e1, by omega⟩, if_pos ⟨e1, by omega⟩]
    · rw [if_neg (by omega), if_neg (by omega)]
theorem cnt_pos {l : List Int} {a b x : Int} (hx : x ∈ l) (h1 : a ≤ x) (h2 : x < b) : 0 < cnt l a b := by
  rw [cnt, List.countP_pos_iff]
  exact ⟨x, hx, by simp [h1, h2]⟩
theorem cnt_perm {l m : List Int} (h : l.Perm m) (a b : Int) : cnt l a b = cnt m a b := h.countP_eq _
/-- the table as far as class k -/
def tab (l : List Int) (low step : Int) : Nat → List Int
  | 0 => [(cnt l 0 low : Int)]
  | k + 1 => tab l low step k ++ [(cnt l (low + (k : Int) * step) (low + ((k : Int) + 1) * step) : Int)]
def tabF (l : List Int) (low step : Int) (n : Nat) : List Int := tab l low step n ++ [(cnt l (low + (n : Int) * step) 200001 : Int)]
theorem tab_len (l : List Int) (low step : Int) : ∀ k, (tab l low step k).length = k + 1
  | 0 => rfl
  | k + 1 => by rw [tab, List.length_append, tab_len l low step k]; rfl
theorem tab_sum (l : List Int) {low step : Int} (h1 : 0 ≤ low) (h2 : 0 ≤ step) : ∀ k : Nat, (tab l low step k).sum = cnt l 0 (low + (k : Int) * step)
  | 0 => by simp [tab]
  | k + 1 => by
    have h3 : 0 ≤ (k : Int) * step := Int.mul_nonneg (by omega) h2
    have h4 : ((k : Int) + 1) * step = (k : Int) * step + step := by rw [Int.add_mul, Int.one_mul]
    have h5 : (((k + 1 : Nat) : Int)) * step = (k : Int) * step + step := by rw [Int.natCast_add, Int.add_mul]; simp
    have h6 := cnt_add (a := 0) (b := low + (k : Int) * step) (c := low + ((k : Int) * step + step)) (by omega) (by omega) l
    rw [tab, List.sum_append, tab_sum l h1 h2 k, h4, h5]
    simp
    omega
theorem tabF_len (l : List Int) (low step : Int) (n : Nat) : (tabF l low step n).length = n + 2 := by rw [tabF, List.length_append, tab_len]; rfl
theorem tabF_sum {l : List Int} {low step : Int} (h1 : 0 ≤ low) (h2 : 0 ≤ step) (h : WV l) (n : Nat) : (tabF l low step n).sum = l.length := by
  have h3 : 0 ≤ (n : Int) * step := Int.mul_nonneg (by omega) h2
  have h4 := cnt_all (b := low + (n : Int) * step) (by omega) h
  rw [tabF, List.sum_append, tab_sum l h1 h2 n]
  simp
  omega
theorem mem_nn_tab {l : List Int} {low step : Int} : ∀ {k : Nat} {x : Int}, x ∈ tab l low step k → 0 ≤ x ∧ x ≤ l.length
  | 0, x, h => by
    rw [tab, List.mem_singleton] at h
    have := cnt_le l 0 low
    omega
  | k + 1, x, h => by
    rw [tab, List.mem_append, List.mem_singleton] at h
    rcases h with h | h
    · exact mem_nn_tab h
    · have := cnt_le l (low + (k : Int) * step) (low + ((k : Int) + 1) * step)
      omega
theorem mem_nn_tabF {l : List Int} {low step : Int} {n : Nat} {x : Int} (h : x ∈ tabF l low step n) : 0 ≤ x ∧ x ≤ l.length := by
  rw [tabF, List.mem_append, List.mem_singleton] at h
  rcases h with h | h
  · exact mem_nn_tab h
  · have := cnt_le l (low + (n : Int) * step) 200001
    omega
/-- the sorted list -/
def srt (l : List Int) : List Int := l.mergeSort fun x y => decide (x ≤ y)
theorem srt_perm (l : List Int) : (srt l).Perm l := List.mergeSort_perm _ _
theorem srt_asc (l : List Int) : (srt l).Pairwise (· ≤ ·) := by
  have h := List.pairwise_mergeSort (le := fun x y : Int => decide (x ≤ y)) (fun a b c h1 h2 => by simp only [decide_eq_true_eq] at *; omega) (fun a b => by simp only [Bool.or_eq_true, decide_eq_true_eq]; omega) l
  exact List.pairwise_iff_getElem.2 fun i j hi hj hij => by have h1 := List.pairwise_iff_getElem.1 h i j hi hj hij; simp only [decide_eq_true_eq] at h1; exact h1
theorem srt_len (l : List Int) : (srt l).length = l.length := (srt_perm l).length_eq
theorem asc_unique : ∀ {r s : List Int}, r.Perm s → r.Pairwise (· ≤ ·) → s.Pairwise (· ≤ ·) → r = s
  | [], s, hp, _, _ => (List.Perm.nil_eq hp)
  | x :: r, [], hp, _, _ => absurd hp.length_eq (by simp)
  | x :: r, y :: s, hp, hr, hs => by
    rw [List.pairwise_cons] at hr hs
    have hxy : x = y := by
      have h1 : x ∈ y :: s := hp.mem_iff.1 List.mem_cons_self
      have h2 : y ∈ x :: r := hp.mem_iff.2 List.mem_cons_self
      rcases List.mem_cons.1 h1 with e | e
      · exact e
      · rcases List.mem_cons.1 h2 with e2 | e2
        · exact e2.symm
        · have := hr.1 y e2; have := hs.1 x e; omega
    subst hxy
    rw [asc_unique (List.Perm.cons_inv hp) hr.2 hs.2]
theorem srt_unique {r l : List Int} (hp : r.Perm l) (hs : r.Pairwise (· ≤ ·)) : r = srt l := asc_unique (hp.trans (srt_perm l).symm) hs (srt_asc l)
theorem srt_rev (l : List Int) : srt l.reverse = srt l := srt_unique ((srt_perm _).trans (List.reverse_perm l)) (srt_asc _)
theorem WV.srt {l : List Int} (h : WV l) : WV (srt l) := fun x hx => h x ((srt_perm l).mem_iff.1 hx)
theorem WV.rev {l : List Int} (h : WV l) : WV l.reverse := fun x hx => h x (List.mem_reverse.1 hx)
def at0 (s : List Int) (i : Nat) : Int := s[i]?.getD 0
theorem at0_get {s : List Int} {i : Nat} (h : i < s.length) : s[i]? = some (at0 s i) := by rw [at0, List.getElem?_eq_getElem h]; rfl
theorem at0_mem {s : List Int} {i : Nat} (h : i < s.length) : at0 s i ∈ s := List.mem_of_getElem? (at0_get h)
theorem asc_le {s : List Int} (h : s.Pairwise (· ≤ ·)) {i j : Nat} (hij : i ≤ j) (hj : j < s.length) : at0 s i ≤ at0 s j := by
  rcases Nat.lt_or_ge i j with h1 | h1
  · have := List.pairwise_iff_getElem.1 h i j (by omega) hj h1
    rwa [at0, at0, List.getElem?_eq_getElem (by omega), List.getElem?_eq_getElem hj]
  · obtain rfl : i = j := by omega
    exact Int.le_refl _
/-- the fullest class: no element has more, none with as many is less -/
def Mo (f : Int → Nat) (L : List Int) (b : Int) : Prop := ∀ x ∈ L, f x < f b ∨ (f x = f b ∧ b ≤ x)
theorem Mo.unique {f : Int → Nat} {L : List Int} {a b : Int} (ha : a ∈ L) (hb : b ∈ L) (h : Mo f L a) (k : Mo f L b) : a = b := by
  have h1 := h b hb
  have h2 := k a ha
  omega
/-- over a sorted list, from nothing -/
def MoS (f : Int → Nat) (s : List Int) (k : Nat) (b m : Int) : Prop := (k = 0 ∧ b = 0 ∧ m = 0) ∨ (0 < k ∧ b ∈ s.take k ∧ m = (f b : Int) ∧ Mo f (s.take k) b)
theorem take_one {s : List Int} {k : Nat} (hk : k < s.length) : s.take (k + 1) = s.take k ++ [at0 s k] := by
  rw [List.take_add_one, at0_get hk]; rfl
theorem MoS.up {f : Int → Nat} {s : List Int} {k : Nat} {b m : Int} (h : MoS f s k b m) (hk : k < s.length) (h1 : m < (f (at0 s k) : Int)) : MoS f s (k + 1) (at0 s k) (f (at0 s k) : Int) := by
  refine .inr ⟨by omega, by rw [take_one hk]; exact List.mem_append_right _ (List.mem_singleton_self _), rfl, fun x hx => ?_⟩
  rw [take_one hk, List.mem_append, List.mem_singleton] at hx
  rcases hx with hx | rfl
  · rcases h with ⟨rfl, _, _⟩ | ⟨_, _, rfl, h2⟩
    · simp at hx
    · rcases h2 x hx with h3 | ⟨h3, _⟩ <;> exact .inl (by omega)
  · exact .inr ⟨rfl, Int.le_refl _⟩
theorem MoS.stay {f : Int → Nat} {s : List Int} {k : Nat} {b m : Int} (h : MoS f s k b m) (hs : s.Pairwise (· ≤ ·)) (hf : ∀ x ∈ s, 0 < f x) (hk : k < s.length) (h1 : ¬ m < (f (at0 s k) : Int)) : MoS f s (k + 1) b m := by
  rcases h with ⟨rfl, _, rfl⟩ | ⟨h0, hb, rfl, h2⟩
  · have := hf _ (at0_mem hk); omega
  · refine .inr ⟨by omega, by rw [take_one hk]; exact List.mem_append_left _ hb, rfl, fun x hx => ?_⟩
    rw [take_one hk, List.mem_append, List.mem_singleton] at hx
    rcases hx with hx | rfl
    · exact h2 x hx
    · obtain ⟨i, hi, rfl⟩ := List.mem_take_iff_getElem.1 hb
      have h3 : s[i] = at0 s i := by rw [at0, List.getElem?_eq_getElem (by omega)]; rfl
      have h4 := asc_le hs (show i ≤ k by omega) hk
      rw [h3] at h1 ⊢
      rcases Nat.lt_or_ge (f (at0 s k)) (f (at0 s i)) with h5 | h5
      · exact .inl h5
      · exact .inr ⟨by omega, h4⟩
/-- over any list, from one of its elements -/
def MoR (f : Int → Nat) (l : List Int) (k : Nat) (b : Int) : Prop := b ∈ l ∧ Mo f (l.take k) b
theorem MoR.up {f : Int → Nat} {l : List Int} {k : Nat} {b : Int} (h : MoR f l k b) (hk : k < l.length) (h1 : f b < f (at0 l k) ∨ (f (at0 l k) = f b ∧ at0 l k < b)) : MoR f l (k + 1) (at0 l k) := by
  refine ⟨at0_mem hk, fun x hx => ?_⟩
  rw [take_one hk, List.mem_append, List.mem_singleton] at hx
  rcases hx with hx | rfl
  · have := h.2 x hx; omega
  · exact .inr ⟨rfl, Int.le_refl _⟩
theorem MoR.stay {f : Int → Nat} {l : List Int} {k : Nat} {b : Int} (h : MoR f l k b) (hk : k < l.length) (h1 : ¬ (f b < f (at0 l k) ∨ (f (at0 l k) = f b ∧ at0 l k < b))) : MoR f l (k + 1) b := by
  refine ⟨h.1, fun x hx => ?_⟩
  rw [take_one hk, List.mem_append, List.mem_singleton] at hx
  rcases hx with hx | rfl
  · exact h.2 x hx
  · omega
/-- the mode -/
def ModeIs (l : List Int) (step b : Int) : Prop := b ∈ l ∧ Mo (fun x => cnt l x (x + step)) l b
theorem ModeIs.unique {l : List Int} {step a b : Int} (h : ModeIs l step a) (k : ModeIs l step b) : a = b := Mo.unique h.1 k.1 h.2 k.2
theorem MoS.mode {l : List Int} {step b m : Int} (hl : 0 < l.length) (h : MoS (fun x => cnt l x (x + step)) (srt l) l.length b m) : ModeIs l step b ∧ m = (cnt l b (b + step) : Int) := by
  rcases h with ⟨h0, _⟩ | ⟨_, h1, h2, h3⟩
  · omega
  · rw [List.take_of_length_le (by rw [srt_len]; exact Nat.le_refl _)] at h1 h3
    exact ⟨⟨(srt_perm l).mem_iff.1 h1, fun x hx => h3 x ((srt_perm l).mem_iff.2 hx)⟩, h2⟩
theorem MoR.mode {l : List Int} {step b : Int} (h : MoR (fun x => cnt l x (x + step)) l l.length b) : ModeIs l step b := by
  have := h.2
  rw [List.take_length] at this
  exact ⟨h.1, this⟩
theorem mode_pos {l : List Int} {step : Int} (hs : 1 ≤ step) : ∀ x ∈ srt l, 0 < cnt l x (x + step) := fun x hx => cnt_pos ((srt_perm l).mem_iff.1 hx) (Int.le_refl _) (by omega)
/-- twice the median -/
def twi (l : List Int) : Int := at0 (srt l) ((l.length - 1) / 2) + at0 (srt l) (l.length / 2)
theorem twi_rev (l : List Int) : twi l.reverse = twi l := by rw [twi, twi, srt_rev, List.length_reverse]
theorem twi_bd {l : List Int} (h : WV l) (h0 : 0 < l.length) : 2 ≤ twi l ∧ twi l ≤ 400000 := by
  have h1 := h.srt _ (at0_mem (s := srt l) (i := (l.length - 1) / 2) (by rw [srt_len]; omega))
  have h2 := h.srt _ (at0_mem (s := srt l) (i := l.length / 2) (by rw [srt_len]; omega))
  rw [twi]; omega
theorem countP_srt (p : Int → Bool) (l : List Int) : l.countP p = (srt l).countP p := (srt_perm l).symm.countP_eq p
theorem countP_first {p : Int → Bool} {s : List Int} {k : Nat} (h : ∀ i, k ≤ i → i < s.length → p (at0 s i) = false) : s.countP p ≤ k := by
  have e : s.countP p = (s.take k).countP p + (s.drop k).countP p := by rw [← List.countP_append, List.take_append_drop]
  have e2 : (s.drop k).countP p = 0 := by
    rw [List.countP_eq_zero]
    intro x hx
    obtain ⟨i, hi, rfl⟩ := List.mem_iff_getElem.1 hx
    rw [List.length_drop] at hi
    have := h (k + i) (by omega) (by omega)
    rw [at0, List.getElem?_eq_getElem (by omega), Option.getD_some] at this
    rw [List.getElem_drop, this]; simp
  have e3 : (s.take k).countP p ≤ (s.take k).length := List.countP_le_length
  rw [List.length_take] at e3
  omega
theorem countP_last {p : Int → Bool} {s : List Int} {k : Nat} (h : ∀ i, i < k → i < s.length → p (at0 s i) = false) : s.countP p ≤ s.length - k := by
  have e : s.countP p = (s.take k).countP p + (s.drop k).countP p := by rw [← List.countP_append, List.take_append_drop]
  have e2 : (s.take k).countP p = 0 := by
    rw [List.countP_eq_zero]
    intro x hx
    obtain ⟨i, hi, rfl⟩ := List.mem_iff_getElem.1 hx
    rw [List.length_take] at hi
    have := h i (by omega) (by omega)
    rw [at0, List.getElem?_eq_getElem (by omega), Option.getD_some] at this
    rw [List.getElem_take, this]; simp
  have e3 : (s.drop k).countP p ≤ (s.drop k).length := List.countP_le_length
  rw [List.length_drop] at e3
  omega
theorem countP_least {p : Int → Bool} {s : List Int} {k : Nat} (hk : k ≤ s.length) (h : ∀ i, i < k → p (at0 s i) = true) : k ≤ s.countP p := by
  have e : s.countP p = (s.take k).countP p + (s.drop k).countP p := by rw [← List.countP_append, List.take_append_drop]
  have e2 : (s.take k).countP p = (s.take k).length := by
    rw [List.countP_eq_length]
    intro x hx
    obtain ⟨i, hi, rfl⟩ := List.mem_iff_getElem.1 hx
    rw [List.length_take] at hi
    have := h i (by omega)
    rw [at0, List.getElem?_eq_getElem (by omega), Option.getD_some] at this
    rw [List.getElem_take]; exact this
  rw [List.length_take] at e2
  omega
theorem med_below (l : List Int) : 2 * l.countP (fun x => decide (2 * x < twi l)) ≤ l.length := by
  rcases Nat.eq_zero_or_pos l.length with h0 | h0
  · rw [List.length_eq_zero_iff.1 h0]; simp
  rw [countP_srt]
  have := countP_first (p := fun x => decide (2 * x < twi l)) (s := srt l) (k := l.length / 2) fun i h1 h2 => by
    have e1 := asc_le (srt_asc l) (i := l.length / 2) (j := i) h1 h2
    have e2 := asc_le (srt_asc l) (i := (l.length - 1) / 2) (j := l.length / 2) (by omega) (by rw [srt_len]; omega)
    exact decide_eq_false (by rw [twi]; omega)
  omega
theorem med_above (l : List Int) : 2 * l.countP (fun x => decide (twi l < 2 * x)) ≤ l.length := by
  rcases Nat.eq_zero_or_pos l.length with h0 | h0
  · rw [List.length_eq_zero_iff.1 h0]; simp
  rw [countP_srt]
  have := countP_last (p := fun x => decide (twi l < 2 * x)) (s := srt l) (k := (l.length - 1) / 2 + 1) fun i h1 h2 => by
    have e1 := asc_le (srt_asc l) (i := i) (j := (l.length - 1) / 2) (by omega) (by rw [srt_len]; omega)
    have e2 := asc_le (srt_asc l) (i := (l.length - 1) / 2) (j := l.length / 2) (by omega) (by rw [srt_len]; omega)
    exact decide_eq_false (by rw [twi]; omega)
  rw [srt_len] at this
  omega
/-- the magnitude of twice a number less another -/
def mg (x t : Int) : Int := if 2 * x < t then t - 2 * x else 2 * x - t
theorem mg_nn (x t : Int) : 0 ≤ mg x t := by unfold mg; split <;> omega
theorem mg_max (x t : Int) : max (2 * x - t) (t - 2 * x) = mg x t := by unfold mg; split <;> omega
theorem mg_bd {x t : Int} (h1 : 1 ≤ x ∧ x ≤ 200000) (h2 : -4000000 ≤ t ∧ t ≤ 4000000) : mg x t ≤ 5000000 := by unfold mg; split <;> omega
/-- the sum of the distances, twice -/
def sumM (l : List Int) (t : Int) : Int := (l.map fun x => mg x t).sum
theorem sumM_nil (t : Int) : sumM [] t = 0 := rfl
theorem sumM_snoc (l : List Int) (x t : Int) : sumM (l ++ [x]) t = sumM l t + mg x t := by simp [sumM]
theorem sumM_perm {l m : List Int} (h : l.Perm m) (t : Int) : sumM l t = sumM m t := by
  unfold sumM
  induction h with
  | nil => rfl
  | cons x _ ih => simp only [List.map_cons, List.sum_cons, ih]
  | swap x y l => simp only [List.map_cons, List.sum_cons]; omega
  | trans _ _ h1 h2 => exact h1.trans h2
theorem sumM_bd {t : Int} (h2 : -4000000 ≤ t ∧ t ≤ 4000000) : ∀ {l : List Int}, WV l → 0 ≤ sumM l t ∧ sumM l t ≤ 5000000 * l.length
  | [], _ => by simp [sumM]
  | x :: l, h => by
    have ih := sumM_bd h2 (l := l) fun y hy => h y (List.mem_cons_of_mem _ hy)
    have h3 := mg_nn x t
    have h4 := mg_bd (h x List.mem_cons_self) h2
    have e : sumM (x :: l) t = mg x t + sumM l t := by simp [sumM]
    rw [e, List.length_cons]; omega
theorem mg_pair {a b t y : Int} (h1 : 2 * a ≤ t) (h2 : t ≤ 2 * b) : mg a t + mg b t ≤ mg a y + mg b y := by unfold mg; split <;> split <;> split <;> split <;> omega
theorem sumM_two (s : List Int) (t y : Int) (h : ∀ i, i < s.length → mg (at0 s i) t + mg (at0 s (s.length - 1 - i)) t ≤ mg (at0 s i) y + mg (at0 s (s.length - 1 - i)) y) :
    ∀ k : Nat, k ≤ s.length → sumM (s.take k) t + sumM (s.reverse.take k) t ≤ sumM (s.take k) y + sumM (s.reverse.take k) y
  | 0, _ => by simp [sumM]
  | k + 1, hk => by
    have ih := sumM_two s t y h k (by omega)
    have h1 := h k (by omega)
    have e : at0 s.reverse k = at0 s (s.length - 1 - k) := by rw [at0, at0, List.getElem?_reverse (by omega)]
    rw [take_one (by omega), take_one (by rw [List.length_reverse]; omega), sumM_snoc, sumM_snoc, sumM_snoc, sumM_snoc, e]
    omega
/-- no whole number is nearer to all than the median -/
theorem dev_least (l : List Int) (y : Int) : sumM l (twi l) ≤ sumM l y := by
  rcases Nat.eq_zero_or_pos l.length with h0 | h0
  · rw [List.length_eq_zero_iff.1 h0]; simp [sumM]
  have h1 := sumM_two (srt l) (twi l) y (fun i hi => by
    rw [srt_len] at hi ⊢
    have e2 := asc_le (srt_asc l) (i := (l.length - 1) / 2) (j := l.length / 2) (by omega) (by rw [srt_len]; omega)
    by_cases hc : i ≤ (l.length - 1) / 2
    · have e1 := asc_le (srt_asc l) (i := i) (j := (l.length - 1) / 2) hc (by rw [srt_len]; omega)
      have e3 := asc_le (srt_asc l) (i := l.length / 2) (j := l.length - 1 - i) (by omega) (by rw [srt_len]; omega)
      exact mg_pair (by rw [twi]; omega) (by rw [twi]; omega)
    · have e1 := asc_le (srt_asc l) (i := l.length - 1 - i) (j := (l.length - 1) / 2) (by omega) (by rw [srt_len]; omega)
      have e3 := asc_le (srt_asc l) (i := l.length / 2) (j := i) (by omega) (by rw [srt_len]; omega)
      have := mg_pair (a := at0 (srt l) (l.length - 1 - i)) (b := at0 (srt l) i) (t := twi l) (y := y) (by rw [twi]; omega) (by rw [twi]; omega)
      omega) (srt l).length (Nat.le_refl _)
  rw [List.take_length, List.take_of_length_le (by rw [List.length_reverse]; exact Nat.le_refl _), sumM_perm (List.reverse_perm _) (twi l), sumM_perm (List.reverse_perm _) y, sumM_perm (srt_perm l) (twi l), sumM_perm (srt_perm l) y] at h1
  omega
end Go.Proofs.YteleohgalknkiaaGreatDoor

namespace Go.Proofs.YteleohgalknkiaaGreatDoor
open Go.RowKit Go.Proofs Go

def Wt (n : Int) : Prop := 1 ≤ n ∧ n ≤ 200000
set_option maxRecDepth 100000 in
theorem wis_any {n : Int} {b : Bool} (w : World) (hb : Tells b (Wt n)) :
    Calls Tryz.prog 109 #[.int .i64 n] w fun e w' => e = .returned (.bool b) ∧ w' = w := by
  by_cases h1 : 1 ≤ n
  · by_cases h2 : n ≤ 200000
    · obtain rfl : b = true := hb.t ⟨h1, h2⟩
      go_enter Tryz.func109, Tryz.ntmps109
      go_wp2
      go_ret
      exact ⟨by first | rfl | simp, rfl⟩
    · obtain rfl : b = false := hb.f (by unfold Wt; omega)
      have h2b : decide (n ≤ 200000) = false := decide_eq_false h2
      go_enter Tryz.func109, Tryz.ntmps109
      go_wp2
      go_ret
      exact ⟨by first | rfl | simp, rfl⟩
  · obtain rfl : b = false := hb.f (by unfold Wt; omega)
    have h1b : decide (1 ≤ n) = false := decide_eq_false h1
    go_enter Tryz.func109, Tryz.ntmps109
    go_wp2
    go_ret
    exact ⟨by first | rfl | simp, rfl⟩
set_option maxRecDepth 100000 in
theorem wchk1_any {n : Int} {b : Bool} (w : World) (hb : Tells b (Wt n)) :
    Calls Tryz.prog 144 #[.int .i64 n] w fun e w' => e = .returned (.bool (!b)) ∧ w' = w := by
  go_enter Tryz.func144, Tryz.ntmps144
  go_wp2_with fail
  refine (wis_any w hb).mono ?_
  rintro e w2 ⟨rfl, rfl⟩
  go_wp2
  go_ret
  exact ⟨by first | rfl | simp, rfl⟩
/-- what the look for a number that is no weight leaves -/
def RetW (w : World) (l : List Int) (e : Ending) (w' : World) : Prop := ∃ r : Int, e = .returned (.int .i64 r) ∧ ((0 ≤ r ∧ ¬ WV l) ∨ (r = -1 ∧ WV l)) ∧ Below w.heap.size w w'
set_option maxHeartbeats 1000000 in
set_option maxRecDepth 100000 in
theorem widx_any (A : Option Addr) (c : Nat) (l : List Int) (w : World) (H : IEs w A l) (hl : l.length ≤ 9223372036854775807) :
    Calls Tryz.prog 185 #[.slice A l.length c, (Value.func (Fn.func 144) #[] #[])] w (RetW w l) := by
  go_enter Tryz.func185, Tryz.ntmps185
  go_wp2
  go_loopg [8] l.length (fun k i wr => ∃ j : Nat, j + k = l.length ∧ i = .int .i64 (j : Int) ∧ Hid (∀ i x, i < j → l[i]? = some x → Wt x) ∧ Below w.heap.size w wr)
  case atStart => exact ⟨0, by omega, rfl, Lib.hid (fun i x h => absurd h (by omega)), Below.refl _ _⟩
  case round =>
    obtain ⟨j, hj, rfl, hok, hbw⟩ := hrel
    by_cases hj0 : j < l.length
    · have hx := Lib.hid (List.getElem?_eq_getElem hj0)
      obtain ⟨ad, rfl, hbk, c0⟩ := (H.ext hbw).at_ hx.out
      generalize l[j] = x at *
      by_cases hk : Wt x
      · have hnx := Lib.hid (show ∀ i y, i < j + 1 → l[i]? = some y → Wt y from fun i y hi hy => by
          by_cases hij : i < j
          · exact hok.out i y hij hy
          · obtain rfl : i = j := by omega
            rw [hx.out] at hy
            obtain rfl := Option.some.inj hy
            exact hk)
        have HK := yes hk
        clear hk
        go_wp2_with fail
        refine (wchk1_any (b := true) _ HK).mono ?_
        rintro e w2 ⟨rfl, rfl⟩
        go_wp2
        go_roundg (l.length - (j + 1))
        case measure => omega
        case rel => exact ⟨j + 1, by omega, by go_num, hnx, hbw⟩
      · have hf := Lib.hid (show ¬ WV l from fun h => hk (h x (List.mem_of_getElem? hx.out)))
        have HK := no hk
        clear hk
        go_wp2_with fail
        refine (wchk1_any (b := false) _ HK).mono ?_
        rintro e w2 ⟨rfl, rfl⟩
        go_wp2
        go_ret
        exact ⟨_, rfl, .inl ⟨by omega, hf.out⟩, hbw⟩
    · have hf := Lib.hid (show WV l from fun x hx => by
        obtain ⟨i, hi, e⟩ := List.mem_iff_getElem.1 hx
        exact hok.out i x (by omega) (by rw [List.getElem?_eq_getElem hi, e]))
      go_wp2
      go_ret
      exact ⟨_, rfl, .inr ⟨rfl, hf.out⟩, hbw⟩
set_option maxRecDepth 100000 in
theorem wcont_any {b : Bool} (A : Option Addr) (c : Nat) (l : List Int) (w : World) (H : IEs w A l) (hl : l.length ≤ 9223372036854775807) (hb : Tells b (WV l)) :
    Calls Tryz.prog 143 #[.slice A l.length c, (Value.func (Fn.func 144) #[] #[])] w (RetB w (!b)) := by
  have HB := Lib.hid hb
  clear hb
  go_enter Tryz.func143, Tryz.ntmps143
  go_wp2_with fail
  refine (widx_any A c l w H hl).mono ?_
  rintro e w2 ⟨r, rfl, hf, hb2⟩
  rcases hf with ⟨h0, h1⟩ | ⟨rfl, h1⟩
  · obtain rfl : b = false := HB.out.f h1
    clear h1
    have hd : decide (0 ≤ r) = true := decide_eq_true h0
    go_wp2
    go_ret
    exact ⟨by first | rfl | simp [h0], hb2⟩
  · obtain rfl : b = true := HB.out.t h1
    clear h1
    go_wp2
    go_ret
    exact ⟨by first | rfl | simp, hb2⟩
set_option maxRecDepth 100000 in
theorem wcheck_any {E : Int} (A : Option Addr) (c : Nat) (l : List Int) (w : World) (H : IEs w A l) (hl : l.length ≤ 9223372036854775807) (hE : Hid (chkE l = E)) :
    Calls Tryz.prog 93 #[.slice A l.length c] w (RetI w E) := by
  by_cases h1 : 64 < l.length
  · obtain rfl : E = 6 := by rw [← hE.out, chkE, if_pos h1]
    go_enter Tryz.func93, Tryz.ntmps93
    go_wp2
    go_ret
    exact ⟨by first | rfl | simp, Below.refl _ _⟩
  · by_cases h2 : WV l
    · obtain rfl : E = 0 := by rw [← hE.out, chkE, if_neg h1, if_pos h2]
      have HV := yes h2
      clear h2
      go_enter Tryz.func93, Tryz.ntmps93
      go_wp2_with fail
      refine (wcont_any A c l w H hl HV).mono ?_
      rintro e w2 ⟨rfl, hb⟩
      go_wp2
      go_ret
      exact ⟨by first | rfl | simp, hb⟩
    · obtain rfl : E = 1 := by rw [← hE.out, chkE, if_neg h1, if_neg h2]
      have HV := no h2
      clear h2
      go_enter Tryz.func93, Tryz.ntmps93
      go_wp2_with fail
      refine (wcont_any A c l w H hl HV).mono ?_
      rintro e w2 ⟨rfl, hb⟩
      go_wp2
      go_ret
      exact ⟨by first | rfl | simp, hb⟩
set_option maxRecDepth 100000 in
theorem wsome_any {E : Int} (A : Option Addr) (c : Nat) (l : List Int) (w : World) (H : IEs w A l) (hl : l.length ≤ 9223372036854775807) (hE : Hid (someE l = E)) :
    Calls Tryz.prog 96 #[.slice A l.length c] w (RetI w E) := by
  by_cases h1 : chkE l = 0
  · by_cases h2 : l.length = 0
    · obtain rfl : E = 7 := by rw [← hE.out, someE, if_pos h1, if_pos h2]
      have HC := Lib.hid h1
      have hz : decide (0 < l.length) = false := decide_eq_false (by omega)
      have hz1 : ¬ 0 < l.length := by omega
      have hz2 : ((l.length : Int) == 0) = true := beq_iff_eq.2 (by omega)
      clear h1 h2
      go_enter Tryz.func96, Tryz.ntmps96
      go_wp2_with fail
      refine (wcheck_any A c l w H hl HC).mono ?_
      rintro e w2 ⟨rfl, hb⟩
      go_wp2
      go_ret
      exact ⟨by first | rfl | simp, hb⟩
    · obtain rfl : E = 0 := by rw [← hE.out, someE, if_pos h1, if_neg h2]
      have HC := Lib.hid h1
      have h3 : 0 < l.length := by omega
      have hz2 : ((l.length : Int) == 0) = false := beq_eq_false_iff_ne.2 (by omega)
      clear h1
      go_enter Tryz.func96, Tryz.ntmps96
      go_wp2_with fail
      refine (wcheck_any A c l w H hl HC).mono ?_
      rintro e w2 ⟨rfl, hb⟩
      go_wp2
      go_ret
      exact ⟨by first | rfl | simp, hb⟩
  · have hE2 : chkE l = E := by rw [← hE.out, someE, if_neg h1]
    have h0 : ¬ E = 0 := by rw [← hE2]; exact h1
    have hn : (E != 0) = true := by rw [bne_iff_ne]; exact h0
    have HC := Lib.hid hE2
    clear h1 hE2
    go_enter Tryz.func96, Tryz.ntmps96
    go_wp2_with fail
    refine (wcheck_any A c l w H hl HC).mono ?_
    rintro e w2 ⟨rfl, hb⟩
    go_wp2
    go_ret
    exact ⟨by first | rfl | simp, hb⟩
set_option maxHeartbeats 1000000 in
set_option maxRecDepth 100000 in
theorem wwithin_any {a b k : Int} (A : Option Addr) (c : Nat) (l : List Int) (w : World) (H : IEs w A l) (hl : l.length ≤ 1000000) (hk : Hid ((cnt l a b : Int) = k)) :
    Calls Tryz.prog 94 #[.slice A l.length c, .int .i64 a, .int .i64 b] w (RetI w k) := by
  go_enter Tryz.func94, Tryz.ntmps94
  go_wp2
  go_loopg [7, 12] l.length (fun g n i wr => ∃ j : Nat, j + g = l.length ∧ n = .int .i64 ((cnt (l.take j) a b : Nat) : Int) ∧ i = .int .i64 (j : Int) ∧ Below w.heap.size w wr)
  case atStart => exact ⟨0, by omega, rfl, rfl, Below.refl _ _⟩
  case round =>
    obtain ⟨j, hj, rfl, rfl, hbw⟩ := hrel
    have hn := cnt_le (l.take j) a b
    rw [List.length_take] at hn
    replace hn : cnt (l.take j) a b ≤ 1000000 := by omega
    by_cases hj0 : j < l.length
    · have hx := Lib.hid (at0_get hj0)
      obtain ⟨ad, rfl, hbk, c0⟩ := (H.ext hbw).at_ hx.out
      have hsu := Lib.hid (show cnt (l.take (j + 1)) a b = cnt (l.take j) a b + (if a ≤ at0 l j ∧ at0 l j < b then 1 else 0) by rw [take_one hj0, cnt_snoc])
      generalize cnt (l.take j) a b = n at *
      generalize at0 l j = x at *
      by_cases h1 : a ≤ x
      · by_cases h2 : x < b
        · have hs2 := Lib.hid (hsu.out.trans (by rw [if_pos ⟨h1, h2⟩]))
          go_wp2
          go_roundg (l.length - (j + 1))
          case measure => omega
          case rel => exact ⟨j + 1, by omega, by rw [hs2.out]; go_num, by go_num, hbw⟩
        · have hs2 := Lib.hid (hsu.out.trans (by rw [if_neg (fun h => h2 h.2)]))
          have d2 : decide (x < b) = false := decide_eq_false h2
          go_wp2
          go_roundg (l.length - (j + 1))
          case measure => omega
          case rel => exact ⟨j + 1, by omega, by rw [hs2.out]; rfl, by go_num, hbw⟩
      · have hs2 := Lib.hid (hsu.out.trans (by rw [if_neg (fun h => h1 h.1)]))
        have d1 : decide (a ≤ x) = false := decide_eq_false h1
        go_wp2
        go_roundg (l.length - (j + 1))
        case measure => omega
        case rel => exact ⟨j + 1, by omega, by rw [hs2.out]; rfl, by go_num, hbw⟩
    · have hf := Lib.hid (show ((cnt (l.take j) a b : Nat) : Int) = k by rw [List.take_of_length_le (by omega)]; exact hk.out)
      generalize cnt (l.take j) a b = n at *
      go_wp2
      go_ret
      exact ⟨by first | rfl | (rw [hf.out]; rfl) | simp, hbw⟩
set_option maxHeartbeats 1000000 in
set_option maxRecDepth 100000 in
theorem rbetween_any {a b k : Int} (A : Option Addr) (c : Nat) (l : List Int) (w : World) (H : IEs w A l) (hl : l.length ≤ 1000000) (hk : Hid ((cnt l a b : Int) = k)) :
    Calls Tryz.prog 95 #[.slice A l.length c, .int .i64 a, .int .i64 b] w (RetI w k) := by
  go_enter Tryz.func95, Tryz.ntmps95
  go_wp2
  go_loopg [7, 8] l.length (fun g n i wr => ∃ j : Nat, j + g = l.length ∧ n = .int .i64 ((cnt (l.take j) a b : Nat) : Int) ∧ i = .int .i64 (j : Int) ∧ Below w.heap.size w wr)
  case atStart => exact ⟨0, by omega, rfl, rfl, Below.refl _ _⟩
  case round =>
    obtain ⟨j, hj, rfl, rfl, hbw⟩ := hrel
    have hn := cnt_le (l.take j) a b
    rw [List.length_take] at hn
    replace hn : cnt (l.take j) a b ≤ 1000000 := by omega
    by_cases hj0 : j < l.length
    · have hx := Lib.hid (at0_get hj0)
      obtain ⟨ad, rfl, hbk, c0⟩ := (H.ext hbw).at_ hx.out
      have hsu := Lib.hid (show cnt (l.take (j + 1)) a b = cnt (l.take j) a b + (if a ≤ at0 l j ∧ at0 l j < b then 1 else 0) by rw [take_one hj0, cnt_snoc])
      generalize cnt (l.take j) a b = n at *
      generalize at0 l j = x at *
      by_cases h1 : a ≤ x
      · by_cases h2 : x < b
        · have hs2 := Lib.hid (hsu.out.trans (by rw [if_pos ⟨h1, h2⟩]))
          go_wp2
          go_roundg (l.length - (j + 1))
          case measure => omega
          case rel => exact ⟨j + 1, by omega, by rw [hs2.out]; go_num, by go_num, hbw⟩
        · have hs2 := Lib.hid (hsu.out.trans (by rw [if_neg (fun h => h2 h.2)]))
          have d2 : decide (x < b) = false := decide_eq_false h2
          go_wp2
          go_roundg (l.length - (j + 1))
          case measure => omega
          case rel => exact ⟨j + 1, by omega, by rw [hs2.out]; rfl, by go_num, hbw⟩
      · have hs2 := Lib.hid (hsu.out.trans (by rw [if_neg (fun h => h1 h.1)]))
        have d1 : decide (a ≤ x) = false := decide_eq_false h1
        go_wp2
        go_roundg (l.length - (j + 1))
        case measure => omega
        case rel => exact ⟨j + 1, by omega, by rw [hs2.out]; rfl, by go_num, hbw⟩
    · have hf := Lib.hid (show ((cnt (l.take j) a b : Nat) : Int) = k by rw [List.take_of_length_le (by omega)]; exact hk.out)
      generalize cnt (l.take j) a b = n at *
      go_wp2
      go_ret
      exact ⟨by first | rfl | (rw [hf.out]; rfl) | simp, hbw⟩
set_option maxHeartbeats 1000000 in
set_option maxRecDepth 100000 in
theorem rcheck_any {E : Int} (A : Option Addr) (c : Nat) (l : List Int) (w : World) (H : IEs w A l) (hl : l.length ≤ 9223372036854775807) (hE : Hid (chkE l = E)) :
    Calls Tryz.prog 50 #[.slice A l.length c] w (RetI w E) := by
  by_cases h64 : 64 < l.length
  · obtain rfl : E = 6 := by rw [← hE.out, chkE, if_pos h64]
    go_enter Tryz.func50, Tryz.ntmps50
    go_wp2
    go_ret
    exact ⟨by first | rfl | simp, Below.refl _ _⟩
  · go_enter Tryz.func50, Tryz.ntmps50
    go_wp2
    go_loopg [3] l.length (fun k i wr => ∃ j : Nat, j + k = l.length ∧ i = .int .i64 (j : Int) ∧ Hid (∀ i x, i < j → l[i]? = some x → Wt x) ∧ Below w.heap.size w wr)
    case atStart => exact ⟨0, by omega, rfl, Lib.hid (fun i x h => absurd h (by omega)), Below.refl _ _⟩
    case round =>
      obtain ⟨j, hj, rfl, hok, hbw⟩ := hrel
      by_cases hj0 : j < l.length
      · have hx := Lib.hid (List.getElem?_eq_getElem hj0)
        obtain ⟨ad, rfl, hbk, c0⟩ := (H.ext hbw).at_ hx.out
        generalize l[j] = x at *
        by_cases h1 : x < 1
        · have hf : E = 1 := by
            rw [← hE.out, chkE, if_neg h64, if_neg (fun h => by have := h x (List.mem_of_getElem? hx.out); omega)]
          subst hf
          go_wp2
          go_ret
          exact ⟨by first | rfl | simp, hbw⟩
        · have d1 : decide (x < 1) = false := decide_eq_false h1
          by_cases h2 : 200000 < x
          · have hf : E = 1 := by
              rw [← hE.out, chkE, if_neg h64, if_neg (fun h => by have := h x (List.mem_of_getElem? hx.out); omega)]
            subst hf
            go_wp2
            go_ret
            exact ⟨by first | rfl | simp, hbw⟩
          · have d2 : decide (200000 < x) = false := decide_eq_false h2
            have hnx := Lib.hid (show ∀ i y, i < j + 1 → l[i]? = some y → Wt y from fun i y hi hy => by
              by_cases hij : i < j
              · exact hok.out i y hij hy
              · obtain rfl : i = j := by omega
                rw [hx.out] at hy
                obtain rfl := Option.some.inj hy
                exact ⟨by omega, by omega⟩)
            go_wp2
            go_roundg (l.length - (j + 1))
            case measure => omega
            case rel => exact ⟨j + 1, by omega, by go_num, hnx, hbw⟩
      · have hf : E = 0 := by
          rw [← hE.out, chkE, if_neg h64, if_pos (show WV l from fun x hx => by
            obtain ⟨i, hi, e⟩ := List.mem_iff_getElem.1 hx
            exact hok.out i x (by omega) (by rw [List.getElem?_eq_getElem hi, e]))]
        subst hf
        go_wp2
        go_ret
        exact ⟨by first | rfl | simp, hbw⟩
set_option maxRecDepth 100000 in
theorem rsome_any {E : Int} (A : Option Addr) (c : Nat) (l : List Int) (w : World) (H : IEs w A l) (hl : l.length ≤ 9223372036854775807) (hE : Hid (someE l = E)) :
    Calls Tryz.prog 99 #[.slice A l.length c] w (RetI w E) := by
  by_cases h1 : chkE l = 0
  · have HC := Lib.hid h1
    by_cases h2 : l.length = 0
    · obtain rfl : E = 7 := by rw [← hE.out, someE, if_pos h1, if_pos h2]
      have hz : decide (0 < l.length) = false := decide_eq_false (by omega)
      have hz1 : ¬ 0 < l.length := by omega
      have hz2 : ((l.length : Int) == 0) = true := beq_iff_eq.2 (by omega)
      clear h1 h2
      go_enter Tryz.func99, Tryz.ntmps99
      go_wp2_with fail
      refine (rcheck_any A c l w H hl HC).mono ?_
      rintro e w2 ⟨rfl, hb⟩
      go_wp2
      go_ret
      exact ⟨by first | rfl | simp, hb⟩
    · obtain rfl : E = 0 := by rw [← hE.out, someE, if_pos h1, if_neg h2]
      have h3 : 0 < l.length := by omega
      have hz2 : ((l.length : Int) == 0) = false := beq_eq_false_iff_ne.2 (by omega)
      clear h1
      go_enter Tryz.func99, Tryz.ntmps99
      go_wp2_with fail
      refine (rcheck_any A c l w H hl HC).mono ?_
      rintro e w2 ⟨rfl, hb⟩
      go_wp2
      go_ret
      exact ⟨by first | rfl | simp, hb⟩
  · have hE2 : chkE l = E := by rw [← hE.out, someE, if_neg h1]
    have h0 : ¬ E = 0 := by rw [← hE2]; exact h1
    have hn : (E != 0) = true := by rw [bne_iff_ne]; exact h0
    have HC := Lib.hid hE2
    clear h1 hE2
    go_enter Tryz.func99, Tryz.ntmps99
    go_wp2_with fail
    refine (rcheck_any A c l w H hl HC).mono ?_
    rintro e w2 ⟨rfl, hb⟩
    go_wp2
    go_ret
    exact ⟨by first | rfl | simp, hb⟩
end Go.Proofs.YteleohgalknkiaaGreatDoor

namespace Go.Proofs.YteleohgalknkiaaGreatDoor
open Go.RowKit Go.Proofs Go

theorem IOwn.lit (W : World) {B : Nat} (hB : B ≤ W.heap.size) (l : List Int) (cs : Array Value) (hcs : cs.toList = icells l) (hl : l.length ≤ 1000000) : IOwn (W.alloc (.cells cs 3)) B (some ⟨W.heap.size, 0, none⟩) l.length l := by
  have h1 : cs.size = l.length := by rw [← Array.length_toList, hcs, icells, List.length_map]
  refine ⟨by rw [icells, List.length_map, Nat.mul_one], .inr ⟨W.heap.size, l.length, cs, rfl, hB, heap_alloc_new W _, Nat.le_refl _, by unfold maxLen; omega, by omega, ?_⟩⟩
  rw [hcs, Nat.mul_one, List.take_of_length_le (by rw [icells, List.length_map]; exact Nat.le_refl _)]
/-- append(s, x...): s a row of the call's own, x any numbers -/
theorem op_pushes {P : Program} {o : Oper} {a : Act} {K : Act → World → Prop} {Q : Exit → Act → World → Prop} {t e : TypeId} (E : Elt P t e (.int .i64 0) 8) (w : World) (s x : Operand) (hop : o.op = Op.call { callee := Callee.builtin Builtin.append, args := #[s, x], argTypes := #[t, t] })
    {B : Nat} {A X : Option Addr} {n m c cx : Nat} {xs : List Value} {l : List Int} (hs : a.eval s = .slice A n c) (hx : a.eval x = .slice X m cx) (hown : Own w B e A n c xs) (HX : IEs w X l) (hm : m = l.length) (hb : n + m ≤ 1000000) (hB : B ≤ w.heap.size)
    (hK : ∀ A' c' w', Own w' B e A' (n + m) c' (xs ++ icells l) → Below B w w' → K (a.put o.dst (.slice A' (n + m) c')) w') : Oper.wp P o a w K Q := by
  subst hm
  obtain ⟨i, hi, hz, h1, h2⟩ := info_parts E.info
  by_cases h0 : l.length = 0
  · have hr : l = [] := List.eq_nil_of_length_eq_zero h0
    subst hr
    have hnc : ¬ c < n := by
      rcases hown.2 with ⟨hv, h2⟩ | ⟨g, cap, cur, hv, _, _, hnc, _⟩
      · omega
      · injection hv with _ _ hc
        omega
    have hrun : (Builtin.append_ #[t, t] o.type #[.slice A n c, .slice X 0 cx]).run P w = .ok (.slice A n c) w := by
      cases A <;> cases X <;> simp [hnc, Builtin.append_, run_underlying E.und, sizeOf, typeInfo, hi, Builtin.lenOf, Builtin.firstCells, loadCells, loadCellsFrom, storeCells]
    have hk := hK A c w (by rw [show icells [] = [] from rfl, List.append_nil]; exact hown) (Below.refl _ _)
    unfold Oper.wp
    simp [execOp, hop, resolve, invoke, builtin, hs, hx, hrun, Result.andThen]
    exact hk
  · obtain ⟨xd, rfl, hxb, hxc⟩ := HX (by omega)
    have hcells : ∀ j u, (icells l)[j]? = some u → w.cell? (xd.add j) = some u := by
      intro j u hu
      have hj : j < l.length := by have := (List.getElem?_eq_some_iff.1 hu).1; rwa [icells, List.length_map] at this
      rw [icells, List.getElem?_map, List.getElem?_eq_getElem hj] at hu
      obtain rfl := Option.some.inj hu
      exact hxc j _ (List.getElem?_eq_getElem hj)
    refine wp_append_own w s x t hop B e i (.int .i64 0) 1 8 E.und hi hz h1 h2 rfl (by decide) _ n xs hs hown xd l.length cx (icells l) hx (by rw [icells, List.length_map, Nat.mul_one]) hcells ?_ (by unfold maxLen; omega) (by omega) hB ?_
    · intro u hu
      obtain ⟨y, _, rfl⟩ := List.mem_map.1 hu
      rfl
    · intro v' w' h3 h4 h5
      obtain ⟨A', c', rfl⟩ : ∃ A' c', v' = .slice A' (n + l.length) c' := by
        rcases h3.2 with ⟨_, h0⟩ | ⟨g, cap, cur, hv, _⟩
        · omega
        · exact ⟨_, _, hv⟩
      exact hK A' c' w' h3 (below_of_grown h4 hB fun k hk => ((World.ownsRow.lt hown) k hk).1)
theorem wp_pushes {P : Program} {ops : Array Oper} {rest : List Oper} {o : Oper} {a : Act} {Q : Exit → Act → World → Prop} {t e : TypeId} (E : Elt P t e (.int .i64 0) 8) (w : World) (hg : o.guard = none) (s x : Operand) (hop : o.op = Op.call { callee := Callee.builtin Builtin.append, args := #[s, x], argTypes := #[t, t] })
    {B : Nat} {A X : Option Addr} {n m c cx : Nat} {xs : List Value} {l : List Int} (hs : a.eval s = .slice A n c) (hx : a.eval x = .slice X m cx) (hown : Own w B e A n c xs) (HX : IEs w X l) (hm : m = l.length) (hb : n + m ≤ 1000000) (hB : B ≤ w.heap.size)
    (hK : ∀ A' c' w', Own w' B e A' (n + m) c' (xs ++ icells l) → Below B w w' → wpList P ops Q rest (a.put o.dst (.slice A' (n + m) c')) w') : wpList P ops Q (o :: rest) a w :=
  wpList_plain hg fun _ hK' => op_pushes E w s x hop hs hx hown HX hm hb hB fun A' c' w' h1 h2 => hK' _ _ (hK A' c' w' h1 h2)
theorem IOwn.all {w : World} {B c n : Nat} {A : Option Addr} {l : List Int} (h : Own w B 3 A n c ([] ++ icells l)) (hn : n = l.length) : IOwn w B A c l := by
  subst hn; rw [List.nil_append] at h; exact h
/-- the slice l[k:k+m], as the model spells its address -/
theorem IEs.sub {w : World} {A : Option Addr} {l : List Int} (h : IEs w A l) {c k m : Nat} (hc : l.length ≤ c) (hk : k + m ≤ l.length) : IEs w (if c = k then A else A.map (·.add k)) ((l.drop k).take m) := fun h0 => by
  rw [List.length_take, List.length_drop] at h0
  obtain ⟨ad, rfl, hb, hx⟩ := h (by omega)
  rw [if_neg (by omega)]
  refine ⟨ad.add k, rfl, by rw [addr_add_block]; exact hb, fun i x hi => ?_⟩
  have hil := (List.getElem?_eq_some_iff.1 hi).1
  rw [List.length_take, List.length_drop] at hil
  rw [List.getElem?_take_of_lt (by omega), List.getElem?_drop] at hi
  rw [addr_add_add]
  exact hx _ _ hi
/-- a list of numbers and an error -/
def RetL (w : World) (L : List Int) (E : Int) (e : Ending) (w' : World) : Prop := ∃ A c, e = .returned (.tuple #[.slice A L.length c, .int .i64 E]) ∧ IEs w' A L ∧ Below w.heap.size w w'
/-- what Table returns -/
def BadT (low step n : Int) : Prop := low < 0 ∨ 200000 < low ∨ step < 1 ∨ 10000 < step ∨ n < 1 ∨ 64 < n
instance (low step n : Int) : Decidable (BadT low step n) := inferInstanceAs (Decidable (_ ∨ _))
def tabR (l : List Int) (low step n : Int) : List Int × Int := if chkE l = 0 then (if BadT low step n then ([], 2) else (tabF l low step n.toNat, 0)) else ([], chkE l)
theorem mul_bd {k s : Int} (h1 : 0 ≤ k) (h2 : k ≤ 65) (h3 : 1 ≤ s) (h4 : s ≤ 10000) : 0 ≤ k * s ∧ k * s ≤ 650000 := by
  refine ⟨Int.mul_nonneg h1 (by omega), ?_⟩
  have h5 := Int.mul_le_mul_of_nonneg_right h2 (show 0 ≤ s by omega)
  omega
set_option maxHeartbeats 4000000 in
set_option maxRecDepth 100000 in
theorem wtable_err {low step n E : Int} (A : Option Addr) (c : Nat) (l : List Int) (w : World) (H : IEs w A l) (hl : l.length ≤ 9223372036854775807) (hE : Hid (chkE l = E)) (hn : (E != 0) = true) :
    Calls Tryz.prog 32 #[.slice A l.length c, .int .i64 low, .int .i64 step, .int .i64 n] w (RetL w [] E) := by
  go_enter Tryz.func32, Tryz.ntmps32
  go_wp2_with fail
  refine (wcheck_any A c l w H hl hE).mono ?_
  rintro e w2 ⟨rfl, hb⟩
  go_wp2
  go_ret2
  exact ⟨none, 0, rfl, IEs.nil _ _, hb⟩
set_option maxHeartbeats 4000000 in
set_option maxRecDepth 100000 in
theorem wtable_bad {low step n : Int} (A : Option Addr) (c : Nat) (l : List Int) (w : World) (H : IEs w A l) (hl : l.length ≤ 9223372036854775807) (hE : Hid (chkE l = 0)) (hbad : BadT low step n) :
    Calls Tryz.prog 32 #[.slice A l.length c, .int .i64 low, .int .i64 step, .int .i64 n] w (RetL w [] 2) := by
  by_cases h0 : low < 0
  · clear hbad
    go_enter Tryz.func32, Tryz.ntmps32
    go_wp2_with fail
    refine (wcheck_any A c l w H hl hE).mono ?_
    rintro e w2 ⟨rfl, hb⟩
    go_wp2
    go_ret2
    exact ⟨none, 0, rfl, IEs.nil _ _, hb⟩
  have d0 : decide (low < 0) = false := decide_eq_false h0
  by_cases h1 : 200000 < low
  · clear hbad
    go_enter Tryz.func32, Tryz.ntmps32
    go_wp2_with fail
    refine (wcheck_any A c l w H hl hE).mono ?_
    rintro e w2 ⟨rfl, hb⟩
    go_wp2
    go_ret2
    exact ⟨none, 0, rfl, IEs.nil _ _, hb⟩
  have d1 : decide (200000 < low) = false := decide_eq_false h1
  by_cases h2 : step < 1
  · clear hbad
    go_enter Tryz.func32, Tryz.ntmps32
    go_wp2_with fail
    refine (wcheck_any A c l w H hl hE).mono ?_
    rintro e w2 ⟨rfl, hb⟩
    go_wp2
    go_ret2
    exact ⟨none, 0, rfl, IEs.nil _ _, hb⟩
  have d2 : decide (step < 1) = false := decide_eq_false h2
  by_cases h3 : 10000 < step
  · clear hbad
    go_enter Tryz.func32, Tryz.ntmps32
    go_wp2_with fail
    refine (wcheck_any A c l w H hl hE).mono ?_
    rintro e w2 ⟨rfl, hb⟩
    go_wp2
    go_ret2
    exact ⟨none, 0, rfl, IEs.nil _ _, hb⟩
  have d3 : decide (10000 < step) = false := decide_eq_false h3
  by_cases h4 : n < 1
  · clear hbad
    go_enter Tryz.func32, Tryz.ntmps32
    go_wp2_with fail
    refine (wcheck_any A c l w H hl hE).mono ?_
    rintro e w2 ⟨rfl, hb⟩
    go_wp2
    go_ret2
    exact ⟨none, 0, rfl, IEs.nil _ _, hb⟩
  have d4 : decide (n < 1) = false := decide_eq_false h4
  by_cases h5 : 64 < n
  · clear hbad
    go_enter Tryz.func32, Tryz.ntmps32
    go_wp2_with fail
    refine (wcheck_any A c l w H hl hE).mono ?_
    rintro e w2 ⟨rfl, hb⟩
    go_wp2
    go_ret2
    exact ⟨none, 0, rfl, IEs.nil _ _, hb⟩
  have d5 : decide (64 < n) = false := decide_eq_false h5
  exact absurd hbad (by unfold BadT; omega)
set_option maxHeartbeats 4000000 in
set_option maxRecDepth 100000 in
theorem wtable_go {low step n : Int} (A : Option Addr) (c : Nat) (l : List Int) (w : World) (H : IEs w A l) (hl : l.length ≤ 9223372036854775807) (hE : Hid (chkE l = 0)) (hok : ¬ BadT low step n) :
    Calls Tryz.prog 32 #[.slice A l.length c, .int .i64 low, .int .i64 step, .int .i64 n] w (RetL w (tabF l low step n.toNat) 0) := by
  have hV := Lib.hid (chkE_zero.1 hE.out)
  have hl2 : l.length ≤ 1000000 := by have := hV.out.1; omega
  unfold BadT at hok
  have d0 : decide (low < 0) = false := decide_eq_false (by omega)
  have d1 : decide (200000 < low) = false := decide_eq_false (by omega)
  have d2 : decide (step < 1) = false := decide_eq_false (by omega)
  have d3 : decide (10000 < step) = false := decide_eq_false (by omega)
  have d4 : decide (n < 1) = false := decide_eq_false (by omega)
  have d5 : decide (64 < n) = false := decide_eq_false (by omega)
  have l0 : 0 ≤ low := by omega
  have l1 : low ≤ 200000 := by omega
  have s0 : 1 ≤ step := by omega
  have s1 : step ≤ 10000 := by omega
  obtain ⟨m, rfl⟩ : ∃ m : Nat, n = (m : Int) := ⟨n.toNat, by omega⟩
  have m1 : m ≤ 64 := by omega
  rw [Int.toNat_natCast]
  clear hok
  go_enter Tryz.func32, Tryz.ntmps32
  go_wp2_with fail
  refine (wcheck_any A c l w H hl hE).mono ?_
  rintro e w2 ⟨rfl, hb⟩
  obtain ⟨k0, hk0⟩ : ∃ k, Hid ((cnt l 0 low : Int) = k) := ⟨_, Lib.hid rfl⟩
  go_wp2_with fail
  refine (wwithin_any A c l w2 (H.ext hb) hl2 hk0).mono ?_
  rintro e w3 ⟨rfl, hb3⟩
  replace hb := bel_trans hb hb3
  clear hb3
  have HL := IOwn.lit w3 (B := w.heap.size) hb.size [k0] #[.int .i64 k0] rfl (by simp)
  have hb4 := bel_trans hb (below_alloc w3 (.cells #[.int .i64 k0] 3))
  clear hb
  go_upto_block 3 with fail
  clear d0 d1 d2 d3 d4 d5
  have hl4 : w.heap.size ≤ (w3.alloc (.cells #[.int .i64 k0] 3)).heap.size := hb4.size
  generalize w3.alloc (.cells #[.int .i64 k0] 3) = w4 at *
  generalize w3.heap.size = g4 at *
  go_loopg [11, 45] m (fun g u i wr => ∃ (k : Nat) (A8 : Option Addr) (c8 : Nat), k + g = m ∧ u = .slice A8 (k + 1) c8 ∧ i = .int .i64 (k : Int) ∧ IOwn wr w.heap.size A8 c8 (tab l low step k) ∧ Below w.heap.size w wr)
  case atStart => exact ⟨0, _, _, by omega, rfl, rfl, by rw [tab, hk0.out]; exact HL, hb4⟩
  case round =>
    clear HL hb4 hl4
    obtain ⟨k, A8, c8, hk, rfl, rfl, HOWN, hbw⟩ := hrel
    by_cases hk9 : k < m
    · have hsu := Lib.hid (show tab l low step (k + 1) = tab l low step k ++ [(cnt l (low + (k : Int) * step) (low + ((k : Int) + 1) * step) : Int)] from rfl)
      have hlen := Lib.hid (tab_len l low step k)
      obtain ⟨P1, hP1⟩ : ∃ P, (k : Int) * step = P := ⟨_, rfl⟩
      obtain ⟨P2, hP2⟩ : ∃ P, ((k : Int) + 1) * step = P := ⟨_, rfl⟩
      have hq1 := mul_bd (k := (k : Int)) (by omega) (by omega) s0 s1
      have hq2 := mul_bd (k := (k : Int) + 1) (by omega) (by omega) s0 s1
      rw [hP1] at hq1 hsu
      rw [hP2] at hq2 hsu
      obtain ⟨x, hx⟩ : ∃ x, Hid ((cnt l (low + P1) (low + P2) : Int) = x) := ⟨_, Lib.hid rfl⟩
      have hs2 := Lib.hid (hsu.out.trans (by rw [hx.out]))
      obtain ⟨p1, p2⟩ := hq1
      obtain ⟨p3, p4⟩ := hq2
      generalize tab l low step k = L at *
      clear hsu
      go_wp2_with fail
      refine (wwithin_any A c l wr (H.ext hbw) hl2 hx).mono ?_
      rintro e w5 ⟨rfl, hb5⟩
      replace HOWN := HOWN.ext hb5
      replace hbw := bel_trans hbw hb5
      clear hb5
      have HO : Own w5 w.heap.size 3 A8 (k + 1) c8 (icells L) := by rw [← hlen.out]; exact HOWN
      go_wp2_with (at_builtin; refine wp_push EI _ rfl _ _ rfl rfl rfl HO (by rfl) (by omega) (by omega) hbw.size ?_)
      intro A9 c9 w7 HOWN2 hgr7 hb7 hlt7
      have HO2 := IOwn.snoc HOWN2 (by rw [hlen.out])
      replace hbw := hbw.trans hb7
      go_wp2
      go_roundg (m - (k + 1))
      case measure => omega
      case rel => exact ⟨k + 1, A9, c9, by omega, by go_num, by go_num, by rw [hs2.out]; exact HO2, hbw⟩
    · obtain rfl : k = m := by omega
      have hlen := Lib.hid (tab_len l low step k)
      obtain ⟨P1, hP1⟩ : ∃ P, (k : Int) * step = P := ⟨_, rfl⟩
      have hq1 := mul_bd (k := (k : Int)) (by omega) (by omega) s0 s1
      rw [hP1] at hq1
      obtain ⟨p1, p2⟩ := hq1
      obtain ⟨x, hx⟩ : ∃ x, Hid ((cnt l (low + P1) 200001 : Int) = x) := ⟨_, Lib.hid rfl⟩
      have hfin := Lib.hid (show tab l low step k ++ [x] = tabF l low step k by rw [tabF, hP1, ← hx.out])
      generalize tab l low step k = L at *
      go_wp2_with fail
      refine (wwithin_any A c l wr (H.ext hbw) hl2 hx).mono ?_
      rintro e w5 ⟨rfl, hb5⟩
      replace HOWN := HOWN.ext hb5
      replace hbw := bel_trans hbw hb5
      clear hb5
      have HO : Own w5 w.heap.size 3 A8 (k + 1) c8 (icells L) := by rw [← hlen.out]; exact HOWN
      go_wp2_with (at_builtin; refine wp_push EI _ rfl _ _ rfl rfl rfl HO (by rfl) (by omega) (by omega) hbw.size ?_)
      intro A9 c9 w7 HOWN2 hgr7 hb7 hlt7
      have HO2 := IOwn.snoc HOWN2 (by rw [hlen.out])
      replace hbw := hbw.trans hb7
      go_wp2
      go_ret2
      refine ⟨A9, c9, ?_, by rw [← hfin.out]; exact HO2.es, hbw⟩
      rw [← hfin.out, List.length_append, hlen.out]; rfl
theorem wtable_any {low step n E : Int} {L : List Int} (A : Option Addr) (c : Nat) (l : List Int) (w : World) (H : IEs w A l) (hl : l.length ≤ 9223372036854775807) (h : Hid (tabR l low step n = (L, E))) :
    Calls Tryz.prog 32 #[.slice A l.length c, .int .i64 low, .int .i64 step, .int .i64 n] w (RetL w L E) := by
  have h1 := h.out
  unfold tabR at h1
  by_cases h2 : chkE l = 0
  · rw [if_pos h2] at h1
    by_cases h3 : BadT low step n
    · rw [if_pos h3] at h1
      injection h1 with h4 h5
      subst h4 h5
      exact wtable_bad A c l w H hl (Lib.hid h2) h3
    · rw [if_neg h3] at h1
      injection h1 with h4 h5
      subst h4 h5
      exact wtable_go A c l w H hl (Lib.hid h2) h3
  · rw [if_neg h2] at h1
    injection h1 with h4 h5
    subst h4
    exact wtable_err A c l w H hl (Lib.hid h5) (by rw [bne_iff_ne, ← h5]; exact h2)
set_option maxHeartbeats 4000000 in
set_option maxRecDepth 100000 in
theorem rtable_err {low step n E : Int} (A : Option Addr) (c : Nat) (l : List Int) (w : World) (H : IEs w A l) (hl : l.length ≤ 9223372036854775807) (hE : Hid (chkE l = E)) (hn : (E != 0) = true) :
    Calls Tryz.prog 33 #[.slice A l.length c, .int .i64 low, .int .i64 step, .int .i64 n] w (RetL w [] E) := by
  go_enter Tryz.func33, Tryz.ntmps33
  go_wp2_with fail
  refine (rcheck_any A c l w H hl hE).mono ?_
  rintro e w2 ⟨rfl, hb⟩
  go_wp2
  go_ret2
  exact ⟨none, 0, rfl, IEs.nil _ _, hb⟩
set_option maxHeartbeats 4000000 in
set_option maxRecDepth 100000 in
theorem rtable_bad {low step n : Int} (A : Option Addr) (c : Nat) (l : List Int) (w : World) (H : IEs w A l) (hl : l.length ≤ 9223372036854775807) (hE : Hid (chkE l = 0)) (hbad : BadT low step n) :
    Calls Tryz.prog 33 #[.slice A l.length c, .int .i64 low, .int .i64 step, .int .i64 n] w (RetL w [] 2) := by
  by_cases h0 : low < 0
  · clear hbad
    go_enter Tryz.func33, Tryz.ntmps33
    go_wp2_with fail
    refine (rcheck_any A c l w H hl hE).mono ?_
    rintro e w2 ⟨rfl, hb⟩
    go_wp2
    go_ret2
    exact ⟨none, 0, rfl, IEs.nil _ _, hb⟩
  have d0 : decide (low < 0) = false := decide_eq_false h0
  by_cases h1 : 200000 < low
  · clear hbad
    go_enter Tryz.func33, Tryz.ntmps33
    go_wp2_with fail
    refine (rcheck_any A c l w H hl hE).mono ?_
    rintro e w2 ⟨rfl, hb⟩
    go_wp2
    go_ret2
    exact ⟨none, 0, rfl, IEs.nil _ _, hb⟩
  have d1 : decide (200000 < low) = false := decide_eq_false h1
  by_cases h2 : step < 1
  · clear hbad
    go_enter Tryz.func33, Tryz.ntmps33
    go_wp2_with fail
    refine (rcheck_any A c l w H hl hE).mono ?_
    rintro e w2 ⟨rfl, hb⟩
    go_wp2
    go_ret2
    exact ⟨none, 0, rfl, IEs.nil _ _, hb⟩
  have d2 : decide (step < 1) = false := decide_eq_false h2
  by_cases h3 : 10000 < step
  · clear hbad
    go_enter Tryz.func33, Tryz.ntmps33
    go_wp2_with fail
    refine (rcheck_any A c l w H hl hE).mono ?_
    rintro e w2 ⟨rfl, hb⟩
    go_wp2
    go_ret2
    exact ⟨none, 0, rfl, IEs.nil _ _, hb⟩
  have d3 : decide (10000 < step) = false := decide_eq_false h3
  by_cases h4 : n < 1
  · clear hbad
    go_enter Tryz.func33, Tryz.ntmps33
    go_wp2_with fail
    refine (rcheck_any A c l w H hl hE).mono ?_
    rintro e w2 ⟨rfl, hb⟩
    go_wp2
    go_ret2
    exact ⟨none, 0, rfl, IEs.nil _ _, hb⟩
  have d4 : decide (n < 1) = false := decide_eq_false h4
  by_cases h5 : 64 < n
  · clear hbad
    go_enter Tryz.func33, Tryz.ntmps33
    go_wp2_with fail
    refine (rcheck_any A c l w H hl hE).mono ?_
    rintro e w2 ⟨rfl, hb⟩
    go_wp2
    go_ret2
    exact ⟨none, 0, rfl, IEs.nil _ _, hb⟩
  have d5 : decide (64 < n) = false := decide_eq_false h5
  exact absurd hbad (by unfold BadT; omega)
set_option maxHeartbeats 4000000 in
set_option maxRecDepth 100000 in
theorem rtable_go {low step n : Int} (A : Option Addr) (c : Nat) (l : List Int) (w : World) (H : IEs w A l) (hl : l.length ≤ 9223372036854775807) (hE : Hid (chkE l = 0)) (hok : ¬ BadT low step n) :
    Calls Tryz.prog 33 #[.slice A l.length c, .int .i64 low, .int .i64 step, .int .i64 n] w (RetL w (tabF l low step n.toNat) 0) := by
  have hV := Lib.hid (chkE_zero.1 hE.out)
  have hl2 : l.length ≤ 1000000 := by have := hV.out.1; omega
  unfold BadT at hok
  have d0 : decide (low < 0) = false := decide_eq_false (by omega)
  have d1 : decide (200000 < low) = false := decide_eq_false (by omega)
  have d2 : decide (step < 1) = false := decide_eq_false (by omega)
  have d3 : decide (10000 < step) = false := decide_eq_false (by omega)
  have d4 : decide (n < 1) = false := decide_eq_false (by omega)
  have d5 : decide (64 < n) = false := decide_eq_false (by omega)
  have l0 : 0 ≤ low := by omega
  have l1 : low ≤ 200000 := by omega
  have s0 : 1 ≤ step := by omega
  have s1 : step ≤ 10000 := by omega
  obtain ⟨m, rfl⟩ : ∃ m : Nat, n = (m : Int) := ⟨n.toNat, by omega⟩
  have m1 : m ≤ 64 := by omega
  rw [Int.toNat_natCast]
  clear hok
  go_enter Tryz.func33, Tryz.ntmps33
  go_wp2_with fail
  refine (rcheck_any A c l w H hl hE).mono ?_
  rintro e w2 ⟨rfl, hb⟩
  obtain ⟨k0, hk0⟩ : ∃ k, Hid ((cnt l 0 low : Int) = k) := ⟨_, Lib.hid rfl⟩
  go_wp2_with fail
  refine (rbetween_any A c l w2 (H.ext hb) hl2 hk0).mono ?_
  rintro e w3 ⟨rfl, hb3⟩
  replace hb := bel_trans hb hb3
  clear hb3
  have HL := IOwn.lit w3 (B := w.heap.size) hb.size [k0] #[.int .i64 k0] rfl (by simp)
  have hb4 := bel_trans hb (below_alloc w3 (.cells #[.int .i64 k0] 3))
  clear hb
  go_upto_block 3 with fail
  clear d0 d1 d2 d3 d4 d5
  have hl4 : w.heap.size ≤ (w3.alloc (.cells #[.int .i64 k0] 3)).heap.size := hb4.size
  generalize w3.alloc (.cells #[.int .i64 k0] 3) = w4 at *
  generalize w3.heap.size = g4 at *
  go_loopg [11, 12] m (fun g u i wr => ∃ (k : Nat) (A8 : Option Addr) (c8 : Nat), k + g = m ∧ u = .slice A8 (k + 1) c8 ∧ i = .int .i64 (k : Int) ∧ IOwn wr w.heap.size A8 c8 (tab l low step k) ∧ Below w.heap.size w wr)
  case atStart => exact ⟨0, _, _, by omega, rfl, rfl, by rw [tab, hk0.out]; exact HL, hb4⟩
  case round =>
    clear HL hb4 hl4
    obtain ⟨k, A8, c8, hk, rfl, rfl, HOWN, hbw⟩ := hrel
    by_cases hk9 : k < m
    · have hsu := Lib.hid (show tab l low step (k + 1) = tab l low step k ++ [(cnt l (low + (k : Int) * step) (low + ((k : Int) + 1) * step) : Int)] from rfl)
      have hlen := Lib.hid (tab_len l low step k)
      obtain ⟨P1, hP1⟩ : ∃ P, (k : Int) * step = P := ⟨_, rfl⟩
      obtain ⟨P2, hP2⟩ : ∃ P, ((k : Int) + 1) * step = P := ⟨_, rfl⟩
      have hq1 := mul_bd (k := (k : Int)) (by omega) (by omega) s0 s1
      have hq2 := mul_bd (k := (k : Int) + 1) (by omega) (by omega) s0 s1
      rw [hP1] at hq1 hsu
      rw [hP2] at hq2 hsu
      obtain ⟨x, hx⟩ : ∃ x, Hid ((cnt l (low + P1) (low + P2) : Int) = x) := ⟨_, Lib.hid rfl⟩
      have hs2 := Lib.hid (hsu.out.trans (by rw [hx.out]))
      obtain ⟨p1, p2⟩ := hq1
      obtain ⟨p3, p4⟩ := hq2
      generalize tab l low step k = L at *
      clear hsu
      go_wp2_with fail
      refine (rbetween_any A c l wr (H.ext hbw) hl2 hx).mono ?_
      rintro e w5 ⟨rfl, hb5⟩
      replace HOWN := HOWN.ext hb5
      replace hbw := bel_trans hbw hb5
      clear hb5
      have HO : Own w5 w.heap.size 3 A8 (k + 1) c8 (icells L) := by rw [← hlen.out]; exact HOWN
      go_wp2_with (at_builtin; refine wp_push EI _ rfl _ _ rfl rfl rfl HO (by rfl) (by omega) (by omega) hbw.size ?_)
      intro A9 c9 w7 HOWN2 hgr7 hb7 hlt7
      have HO2 := IOwn.snoc HOWN2 (by rw [hlen.out])
      replace hbw := hbw.trans hb7
      go_wp2
      go_roundg (m - (k + 1))
      case measure => omega
      case rel => exact ⟨k + 1, A9, c9, by omega, by go_num, by go_num, by rw [hs2.out]; exact HO2, hbw⟩
    · obtain rfl : k = m := by omega
      have hlen := Lib.hid (tab_len l low step k)
      obtain ⟨P1, hP1⟩ : ∃ P, (k : Int) * step = P := ⟨_, rfl⟩
      have hq1 := mul_bd (k := (k : Int)) (by omega) (by omega) s0 s1
      rw [hP1] at hq1
      obtain ⟨p1, p2⟩ := hq1
      obtain ⟨x, hx⟩ : ∃ x, Hid ((cnt l (low + P1) 1000000000 : Int) = x) := ⟨_, Lib.hid rfl⟩
      have hfin := Lib.hid (show tab l low step k ++ [x] = tabF l low step k by rw [tabF, hP1, ← hx.out, cnt_top (c := 1000000000) (by decide) hV.out.2])
      generalize tab l low step k = L at *
      go_wp2_with fail
      refine (rbetween_any A c l wr (H.ext hbw) hl2 hx).mono ?_
      rintro e w5 ⟨rfl, hb5⟩
      replace HOWN := HOWN.ext hb5
      replace hbw := bel_trans hbw hb5
      clear hb5
      have HO : Own w5 w.heap.size 3 A8 (k + 1) c8 (icells L) := by rw [← hlen.out]; exact HOWN
      go_wp2_with (at_builtin; refine wp_push EI _ rfl _ _ rfl rfl rfl HO (by rfl) (by omega) (by omega) hbw.size ?_)
      intro A9 c9 w7 HOWN2 hgr7 hb7 hlt7
      have HO2 := IOwn.snoc HOWN2 (by rw [hlen.out])
      replace hbw := hbw.trans hb7
      go_wp2
      go_ret2
      refine ⟨A9, c9, ?_, by rw [← hfin.out]; exact HO2.es, hbw⟩
      rw [← hfin.out, List.length_append, hlen.out]; rfl
theorem rtable_any {low step n E : Int} {L : List Int} (A : Option Addr) (c : Nat) (l : List Int) (w : World) (H : IEs w A l) (hl : l.length ≤ 9223372036854775807) (h : Hid (tabR l low step n = (L, E))) :
    Calls Tryz.prog 33 #[.slice A l.length c, .int .i64 low, .int .i64 step, .int .i64 n] w (RetL w L E) := by
  have h1 := h.out
  unfold tabR at h1
  by_cases h2 : chkE l = 0
  · rw [if_pos h2] at h1
    by_cases h3 : BadT low step n
    · rw [if_pos h3] at h1
      injection h1 with h4 h5
      subst h4 h5
      exact rtable_bad A c l w H hl (Lib.hid h2) h3
    · rw [if_neg h3] at h1
      injection h1 with h4 h5
      subst h4 h5
      exact rtable_go A c l w H hl (Lib.hid h2) h3
  · rw [if_neg h2] at h1
    injection h1 with h4 h5
    subst h4
    exact rtable_err A c l w H hl (Lib.hid h5) (by rw [bne_iff_ne, ← h5]; exact h2)
end Go.Proofs.YteleohgalknkiaaGreatDoor

namespace Go.Proofs.YteleohgalknkiaaGreatDoor

def exch (o : List Int) (k : Nat) : List Int := (o.set k (at0 o (k - 1))).set (k - 1) (at0 o k)
theorem exch_len (o : List Int) (k : Nat) : (exch o k).length = o.length := by rw [exch, List.length_set, List.length_set]
theorem exch_perm {o : List Int} {k : Nat} (h0 : 0 < k) (h : k < o.length) : (exch o k).Perm o := by
  have e1 : at0 o (k - 1) = o[k - 1] := by rw [at0, List.getElem?_eq_getElem (by omega)]; rfl
  have e2 : at0 o k = o[k] := by rw [at0, List.getElem?_eq_getElem h]; rfl
  rw [exch, e1, e2]
  exact List.set_set_perm h (by omega)
theorem exch_at {o : List Int} {k j : Nat} (h0 : 0 < k) (h : k < o.length) : at0 (exch o k) j = if j = k - 1 then at0 o k else if j = k then at0 o (k - 1) else at0 o j := by
  by_cases h1 : j = k - 1
  · rw [if_pos h1, h1, at0, exch, List.getElem?_set_self (by rw [List.length_set]; omega)]; rfl
  · rw [if_neg h1]
    by_cases h2 : j = k
    · rw [if_pos h2, h2, at0, exch, List.getElem?_set_ne (by omega), List.getElem?_set_self h]; rfl
    · rw [if_neg h2, at0, exch, List.getElem?_set_ne (by omega), List.getElem?_set_ne (by omega)]; rfl
/-- the first i are in order -/
def Upto (o : List Int) (i : Nat) : Prop := ∀ a b, a < b → b < i → at0 o a ≤ at0 o b
/-- the first i + 1 are in order but for what stands at k -/
def Ins (o : List Int) (i k : Nat) : Prop := ∀ a b, a < b → b ≤ i → b ≠ k → at0 o a ≤ at0 o b
theorem Upto.one (o : List Int) : Upto o 1 := fun a b h1 h2 => by omega
theorem Upto.start {o : List Int} {i : Nat} (h : Upto o i) : Ins o i i := fun a b h1 h2 h3 => h a b h1 (by omega)
theorem Ins.zero {o : List Int} {i : Nat} (h : Ins o i 0) : Upto o (i + 1) := fun a b h1 h2 => h a b h1 (by omega) (by omega)
theorem Ins.stop {o : List Int} {i k : Nat} (h : Ins o i k) (h0 : 0 < k) (hle : ¬ at0 o k < at0 o (k - 1)) (hk : k ≤ i) : Upto o (i + 1) := fun a b h1 h2 => by
  by_cases hb : b = k
  · subst hb
    by_cases ha : a = b - 1
    · subst ha; omega
    · have := h a (b - 1) (by omega) (by omega) (by omega); omega
  · exact h a b h1 (by omega) hb
theorem Ins.step {o : List Int} {i k : Nat} (h : Ins o i k) (h0 : 0 < k) (hk : k < o.length) (hki : k ≤ i) (hlt : at0 o k < at0 o (k - 1)) : Ins (exch o k) i (k - 1) := fun a b h1 h2 h3 => by
  rw [exch_at h0 hk, exch_at h0 hk, if_neg h3]
  by_cases hb : b = k
  · rw [if_pos hb]
    by_cases ha : a = k - 1
    · rw [if_pos ha]; omega
    · rw [if_neg ha, if_neg (by omega)]; exact h a (k - 1) (by omega) (by omega) (by omega)
  · rw [if_neg hb]
    by_cases ha : a = k - 1
    · rw [if_pos ha]; exact h k b (by omega) h2 hb
    · rw [if_neg ha]
      by_cases ha2 : a = k
      · rw [if_pos ha2]; exact h (k - 1) b (by omega) h2 hb
      · rw [if_neg ha2]; exact h a b h1 h2 hb
theorem Upto.done {o l : List Int} (hp : o.Perm l) (h : Upto o l.length) : o = srt l := by
  refine srt_unique hp (List.pairwise_iff_getElem.2 fun i j hi hj hij => ?_)
  have := h i j hij (by rw [← hp.length_eq]; exact hj)
  rwa [at0, at0, List.getElem?_eq_getElem hi, List.getElem?_eq_getElem hj] at this
end Go.Proofs.YteleohgalknkiaaGreatDoor

namespace Go.Proofs.YteleohgalknkiaaGreatDoor
open Go.RowKit Go.Proofs Go

/-- a list of numbers -/
def RetLs (w : World) (L : List Int) (e : Ending) (w' : World) : Prop := ∃ A c, e = .returned (.slice A L.length c) ∧ IEs w' A L ∧ L.length ≤ c ∧ Below w.heap.size w w'
theorem icells_set (l : List Int) (j : Nat) (x : Int) : (icells l).set j (.int .i64 x) = icells (l.set j x) := by simp [icells, List.map_set]
theorem icells_at {l : List Int} {j : Nat} (h : j < l.length) : (icells l)[j]? = some (.int .i64 (at0 l j)) := by
  rw [icells, List.getElem?_map, at0_get h]; rfl
theorem Own.icell {w : World} {B T g n c j : Nat} {o : List Int} (h : Own w B T (some ⟨g, 0, none⟩) n c (icells o)) (hj : j < o.length) : w.cell? ⟨g, j, none⟩ = some (.int .i64 (at0 o j)) := by
  have hl := h.len
  rw [icells, List.length_map] at hl
  rw [World.ownsRow.cellAt h j (by omega)]
  exact icells_at hj
theorem Own.istored {w : World} {B T g n c j : Nat} {o : List Int} (h : Own w B T (some ⟨g, 0, none⟩) n c (icells o)) (x : Int) : Own (w.setCell ⟨g, j, none⟩ (.int .i64 x)) B T (some ⟨g, 0, none⟩) n c (icells (o.set j x)) := by
  rw [← icells_set]; exact (World.ownsRow.stored h j _).1
theorem Own.block {w : World} {B T n c : Nat} {A : Option Addr} {xs : List Value} (h : Own w B T A n c xs) (h0 : 0 < n) : ∃ g, A = some ⟨g, 0, none⟩ ∧ B ≤ g := by
  rcases h.2 with ⟨_, h2⟩ | ⟨g, cap, cur, hv, hb, _⟩
  · omega
  · injection hv with hA _ _
    exact ⟨g, hA, hb⟩
theorem Own.iown {w : World} {B n c : Nat} {A : Option Addr} {o : List Int} (h : Own w B 3 A n c (icells o)) (hn : n = o.length) : IOwn w B A c o := by subst hn; exact h
set_option maxHeartbeats 4000000 in
set_option maxRecDepth 100000 in
theorem rsorted_any (A : Option Addr) (c : Nat) (l : List Int) (w : World) (H : IEs w A l) (hl : l.length ≤ 1000000) :
    Calls Tryz.prog 100 #[.slice A l.length c] w (RetLs w (srt l)) := by
  have hb1 := below_alloc w (.cells #[] 3)
  have HL := IOwn.lit w (B := w.heap.size) (Nat.le_refl _) [] #[] rfl (by simp)
  have H1 := H.ext hb1
  go_enter Tryz.func100, Tryz.ntmps100
  go_wp2_with (at_builtin; refine wp_pushes EI _ rfl _ _ rfl rfl rfl HL H1 rfl (by omega) hb1.size ?_)
  intro A9 c9 w2 HO hb2
  have hbw := hb1.trans hb2
  replace HO : Own w2 w.heap.size 3 A9 l.length c9 (icells l) := HO
  clear hb1 HL H1 hb2
  have hp0 := Lib.hid (List.Perm.refl l)
  go_wp2
  go_loopg [4] l.length (fun g u wr => ∃ (i : Nat) (o : List Int), l.length ≤ i + g ∧ 1 ≤ i ∧ (i ≤ l.length ∨ i = 1) ∧ u = .int .i64 (i : Int) ∧ Hid (o.Perm l) ∧ Hid (Upto o i) ∧ Own wr w.heap.size 3 A9 l.length c9 (icells o) ∧ Below w.heap.size w wr)
  case atStart => exact ⟨1, l, by omega, by omega, .inr rfl, rfl, hp0, Lib.hid (Upto.one l), HO, hbw⟩
  case round =>
    clear HO hbw hp0
    obtain ⟨i, o, hi, hi1, hi2, rfl, hp, hu, HO, hbw⟩ := hrel
    by_cases hi0 : i < l.length
    · have hs0 := Lib.hid hu.out.start
      clear hu
      go_wp2
      go_loopg [5] i (fun g u wr => ∃ (k : Nat) (o : List Int), g = k ∧ k ≤ i ∧ u = .int .i64 (k : Int) ∧ Hid (o.Perm l) ∧ Hid (Ins o i k) ∧ Own wr w.heap.size 3 A9 l.length c9 (icells o) ∧ Below w.heap.size w wr)
      case atStart => exact ⟨i, o, rfl, Nat.le_refl _, rfl, hp, hs0, HO, hbw⟩
      case round =>
        clear HO hbw hp hs0
        obtain ⟨k, o, hgk, hki, rfl, hp, hs, HO, hbw⟩ := hrel
        by_cases hk0 : k = 0
        · subst hk0
          have hnx := Lib.hid hs.out.zero
          clear hs
          go_upto_region 6 with fail
          go_quiet (fail)
          go_wp2
          go_roundg (l.length - (i + 1))
          case measure => omega
          case rel => exact ⟨i + 1, o, by omega, by omega, .inl (by omega), by go_num, hp, hnx, drew_own HO _, drew_below hbw _⟩
        · obtain ⟨k, rfl⟩ : ∃ j, k = j + 1 := ⟨k - 1, by omega⟩
          obtain ⟨g9, rfl, hg9⟩ := HO.block (by omega)
          have hol := Lib.hid hp.out.length_eq
          have c1 := HO.icell (j := k + 1) (by rw [hol.out]; omega)
          have c0 := HO.icell (j := k) (by rw [hol.out]; omega)
          have f1 := HO.freeAt (k + 1)
          have f0 := HO.freeAt k
          have hkp : (0 : Int) < ((k + 1 : Nat) : Int) := by omega
          by_cases hlt : at0 o (k + 1) < at0 o k
          · have hd : decide (at0 o (k + 1) < at0 o k) = true := decide_eq_true hlt
            have hnp := Lib.hid ((exch_perm (o := o) (k := k + 1) (by omega) (by rw [hol.out]; omega)).trans hp.out)
            have hns := Lib.hid (hs.out.step (by omega) (by rw [hol.out]; omega) (by omega) hlt)
            have hexx : exch o (k + 1) = (o.set (k + 1) (at0 o k)).set k (at0 o (k + 1)) := rfl
            have hno : ∀ W : World, Own W w.heap.size 3 (some ⟨g9, 0, none⟩) l.length c9 (icells o) → Own ((W.setCell ⟨g9, k + 1, none⟩ (.int .i64 (at0 o k))).setCell ⟨g9, k, none⟩ (.int .i64 (at0 o (k + 1)))) w.heap.size 3 (some ⟨g9, 0, none⟩) l.length c9 (icells (exch o (k + 1))) := fun W h => by rw [hexx]; exact (h.istored _).istored _
            clear hexx
            generalize at0 o (k + 1) = x at *
            generalize at0 o k = y at *
            go_upto_region 6 with fail
            go_quiet (fail)
            have HOD : Own (wr.drewN nq) w.heap.size 3 (some ⟨g9, 0, none⟩) l.length c9 (icells o) := drew_own HO nq
            have hbd : Below w.heap.size w (wr.drewN nq) := drew_below hbw nq
            replace c1 : (wr.drewN nq).cell? ⟨g9, k + 1, none⟩ = some (.int .i64 x) := c1
            replace c0 : (wr.drewN nq).cell? ⟨g9, k, none⟩ = some (.int .i64 y) := c0
            replace f1 : (wr.drewN nq).frozen? ⟨g9, k + 1, none⟩ = false := f1
            replace f0 : (wr.drewN nq).frozen? ⟨g9, k, none⟩ = false := f0
            clear HO hbw
            generalize wr.drewN nq = W8 at *
            go_upto_region 8 with fail
            go_region
            have HON : Own ((W8.setCell ⟨g9, k + 1, none⟩ (.int .i64 y)).setCell ⟨g9, k, none⟩ (.int .i64 x)).drew w.heap.size 3 (some ⟨g9, 0, none⟩) l.length c9 (icells (exch o (k + 1))) := drew_own (hno W8 HOD) 1
            have hbn : Below w.heap.size w ((W8.setCell ⟨g9, k + 1, none⟩ (.int .i64 y)).setCell ⟨g9, k, none⟩ (.int .i64 x)).drew := drew_below ((hbd.setCell (p := ⟨g9, k + 1, none⟩) hg9 _).setCell (p := ⟨g9, k, none⟩) hg9 _) 1
            go_wp2
            go_roundg k
            case measure => omega
            case rel => exact ⟨k, exch o (k + 1), rfl, by omega, by go_num, hnp, hns, HON, hbn⟩
          · have hd : decide (at0 o (k + 1) < at0 o k) = false := decide_eq_false hlt
            have hnx := Lib.hid (hs.out.stop (by omega) hlt hki)
            clear hs hlt
            generalize at0 o (k + 1) = x at *
            generalize at0 o k = y at *
            go_upto_region 6 with fail
            go_quiet (fail)
            go_wp2
            go_roundg (l.length - (i + 1))
            case measure => omega
            case rel => exact ⟨i + 1, o, by omega, by omega, .inl (by omega), by go_num, hp, hnx, drew_own HO _, drew_below hbw _⟩
    · have hnx := Lib.hid (show o = srt l from Upto.done hp.out (fun a b h1 h2 => hu.out a b h1 (by omega)))
      have hol := Lib.hid hp.out.length_eq
      clear hu hp
      go_wp2
      go_ret
      refine ⟨A9, c9, by rw [← hnx.out, hol.out]; rfl, ?_, ?_, hbw⟩
      · rw [← hnx.out]; exact (Own.iown HO hol.out.symm).es
      · rw [← hnx.out]; exact (Own.iown HO hol.out.symm).cap
end Go.Proofs.YteleohgalknkiaaGreatDoor
