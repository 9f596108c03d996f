/- Plain: lists of weights: counts of ranges, sorted lists, the fullest class, the median, the deviation. No program. -/
import Derived.Test.YtolkijelldlmeaaGreatDoorHMath
namespace Go.Proofs.YtolkijelldlmeaaGreatDoor

/-- valid weights -/
def WV (l : List Int) : Prop := ∀ x ∈ l, 1 ≤ x ∧ x ≤ 200000
instance (l : List Int) : Decidable (WV l) := inferInstanceAs (Decidable (∀ x ∈ l, 1 ≤ x ∧ x ≤ 200000))
theorem WV.take {l : List Int} (h : WV l) (k : Nat) : WV (l.take k) := fun x hx => h x (List.mem_of_mem_take hx)
/-- the error of a list -/
def chkE (l : List Int) : Int := if 64 < l.length then 6 else if WV l then 0 else 1
def someE (l : List Int) : Int := if chkE l = 0 then (if l.length = 0 then 7 else 0) else chkE l
theorem chkE_zero {l : List Int} : chkE l = 0 ↔ l.length ≤ 64 ∧ WV l := by
  unfold chkE
  by_cases h : 64 < l.length
  · rw [if_pos h]; constructor
    · intro e; cases e
    · intro e; omega
  · rw [if_neg h]
    by_cases h2 : WV l
    · rw [if_pos h2]; exact ⟨fun _ => ⟨by omega, h2⟩, fun _ => rfl⟩
    · rw [if_neg h2]; exact ⟨fun e => absurd e (by decide), fun e => absurd e.2 h2⟩
theorem someE_zero {l : List Int} : someE l = 0 ↔ l.length ≤ 64 ∧ WV l ∧ 0 < l.length := by
  unfold someE
  by_cases h : chkE l = 0
  · rw [if_pos h]
    have := chkE_zero.1 h
    by_cases h2 : l.length = 0
    · rw [if_pos h2]; constructor
      · intro e; cases e
      · intro e; omega
    · rw [if_neg h2]; exact ⟨fun _ => ⟨this.1, this.2, by omega⟩, fun _ => rfl⟩
  · rw [if_neg h]; exact ⟨fun e => absurd e h, fun e => absurd (chkE_zero.2 ⟨e.1, e.2.1⟩) h⟩
/-- how many are at least a and below b -/
def cnt (l : List Int) (a b : Int) : Nat := l.countP fun x => decide (a ≤ x) && decide (x < b)
theorem cnt_le (l : List Int) (a b : Int) : cnt l a b ≤ l.length := List.countP_le_length
theorem cnt_cons (x : Int) (l : List Int) (a b : Int) : cnt (x :: l) a b = cnt l a b + (if a ≤ x ∧ x < b then 1 else 0) := by
  simp [cnt, List.countP_cons]
theorem cnt_snoc (l : List Int) (x : Int) (a b : Int) : cnt (l ++ [x]) a b = cnt l a b + (if a ≤ x ∧ x < b then 1 else 0) := by
  simp [cnt, List.countP_append, List.countP_cons]
theorem cnt_add {a b c : Int} (h1 : a ≤ b) (h2 : b ≤ c) : ∀ l : List Int, cnt l a b + cnt l b c = cnt l a c
  | [] => rfl
  | x :: l => by
    have ih := cnt_add h1 h2 l
    rw [cnt_cons, cnt_cons, cnt_cons]
    by_cases e1 : a ≤ x ∧ x < b
    · rw [if_pos e1, if_neg (by omega), if_pos (by omega)]; omega
    · rw [if_neg e1]
      by_cases e2 : b ≤ x ∧ x < c
      · rw [if_pos e2, if_pos (by omega)]; omega
      · rw [if_neg e2, if_neg (by omega)]; omega
theorem cnt_all {b : Int} (hb : 0 ≤ b) : ∀ {l : List Int}, WV l → cnt l 0 b + cnt l b 200001 = l.length
  | [], _ => rfl
  | x :: l, h => by
    have ih := cnt_all hb (l := l) fun y hy => h y (List.mem_cons_of_mem _ hy)
    have hx := h x List.mem_cons_self
    rw [cnt_cons, cnt_cons, List.length_cons]
    by_cases e1 : 0 ≤ x ∧ x < b
    · rw [if_pos e1, if_neg (by omega)]; omega
    · rw [if_neg e1, if_pos (by omega)]; omega
theorem cnt_top {b c : Int} (hc : 200001 ≤ c) : ∀ {l : List Int}, WV l → cnt l b c = cnt l b 200001
  | [], _ => rfl
  | x :: l, h => by
    have ih := cnt_top (b := b) hc (l := l) fun y hy => h y (List.mem_cons_of_mem _ hy)
    have hx := h x List.mem_cons_self
    rw [cnt_cons, cnt_cons, ih]
    by_cases e1 : b ≤ x
    · rw [if_pos ⟨e1, by omega⟩, if_pos ⟨e1, by omega⟩]
    · rw [if_neg (by omega), if_neg (by omega)]
theorem cnt_pos {l : List Int} {a b x : Int} (hx : x ∈ l) (h1 : a ≤ x) (h2 : x < b) : 0 < cnt l a b := by
  rw [cnt, List.countP_pos_iff]
  exact ⟨x, hx, by simp [h1, h2]⟩
theorem cnt_perm {l m : List Int} (h : l.Perm m) (a b : Int) : cnt l a b = cnt m a b := h.countP_eq _
/-- the table as far as class k -/
def tab (l : List Int) (low step : Int) : Nat → List Int
  | 0 => [(cnt l 0 low : Int)]
  | k + 1 => tab l low step k ++ [(cnt l (low + (k : Int) * step) (low + ((k : Int) + 1) * step) : Int)]
def tabF (l : List Int) (low step : Int) (n : Nat) : List Int := tab l low step n ++ [(cnt l (low + (n : Int) * step) 200001 : Int)]
theorem tab_len (l : List Int) (low step : Int) : ∀ k, (tab l low step k).length = k + 1
  | 0 => rfl
  | k + 1 => by rw [tab, List.length_append, tab_len l low step k]; rfl
theorem tab_sum (l : List Int) {low step : Int} (h1 : 0 ≤ low) (h2 : 0 ≤ step) : ∀ k : Nat, (tab l low step k).sum = cnt l 0 (low + (k : Int) * step)
  | 0 => by simp [tab]
  | k + 1 => by
    have h3 : 0 ≤ (k : Int) * step := Int.mul_nonneg (by omega) h2
    have h4 : ((k : Int) + 1) * step = (k : Int) * step + step := by rw [Int.add_mul, Int.one_mul]
    have h5 : (((k + 1 : Nat) : Int)) * step = (k : Int) * step + step := by rw [Int.natCast_add, Int.add_mul]; simp
    have h6 := cnt_add (a := 0) (b := low + (k : Int) * step) (c := low + ((k : Int) * step + step)) (by omega) (by omega) l
    rw [tab, List.sum_append, tab_sum l h1 h2 k, h4, h5]
    simp
    omega
theorem tabF_len (l : List Int) (low step : Int) (n : Nat) : (tabF l low step n).length = n + 2 := by rw [tabF, List.length_append, tab_len]; rfl
theorem tabF_sum {l : List Int} {low step : Int} (h1 : 0 ≤ low) (h2 : 0 ≤ step) (h : WV l) (n : Nat) : (tabF l low step n).sum = l.length := by
  have h3 : 0 ≤ (n : Int) * step := Int.mul_nonneg (by omega) h2
  have h4 := cnt_all (b := low + (n : Int) * step) (by omega) h
  rw [tabF, List.sum_append, tab_sum l h1 h2 n]
  simp
  omega
theorem mem_nn_tab {l : List Int} {low step : Int} : ∀ {k : Nat} {x : Int}, x ∈ tab l low step k → 0 ≤ x ∧ x ≤ l.length
  | 0, x, h => by
    rw [tab, List.mem_singleton] at h
    have := cnt_le l 0 low
    omega
  | k + 1, x, h => by
    rw [tab, List.mem_append, List.mem_singleton] at h
    rcases h with h | h
    · exact mem_nn_tab h
    · have := cnt_le l (low + (k : Int) * step) (low + ((k : Int) + 1) * step)
      omega
theorem mem_nn_tabF {l : List Int} {low step : Int} {n : Nat} {x : Int} (h : x ∈ tabF l low step n) : 0 ≤ x ∧ x ≤ l.length := by
  rw [tabF, List.mem_append, List.mem_singleton] at h
  rcases h with h | h
  · exact mem_nn_tab h
  · have := cnt_le l (low + (n : Int) * step) 200001
    omega
/-- the sorted list -/
def srt (l : List Int) : List Int := l.mergeSort fun x y => decide (x ≤ y)
theorem srt_perm (l : List Int) : (srt l).Perm l := List.mergeSort_perm _ _
theorem srt_asc (l : List Int) : (srt l).Pairwise (· ≤ ·) := by
  have h := List.pairwise_mergeSort (le := fun x y : Int => decide (x ≤ y)) (fun a b c h1 h2 => by simp only [decide_eq_true_eq] at *; omega) (fun a b => by simp only [Bool.or_eq_true, decide_eq_true_eq]; omega) l
  exact List.pairwise_iff_getElem.2 fun i j hi hj hij => by have h1 := List.pairwise_iff_getElem.1 h i j hi hj hij; simp only [decide_eq_true_eq] at h1; exact h1
theorem srt_len (l : List Int) : (srt l).length = l.length := (srt_perm l).length_eq
theorem asc_unique : ∀ {r s : List Int}, r.Perm s → r.Pairwise (· ≤ ·) → s.Pairwise (· ≤ ·) → r = s
  | [], s, hp, _, _ => (List.Perm.nil_eq hp)
  | x :: r, [], hp, _, _ => absurd hp.length_eq (by simp)
  | x :: r, y :: s, hp, hr, hs => by
    rw [List.pairwise_cons] at hr hs
    have hxy : x = y := by
      have h1 : x ∈ y :: s := hp.mem_iff.1 List.mem_cons_self
      have h2 : y ∈ x :: r := hp.mem_iff.2 List.mem_cons_self
      rcases List.mem_cons.1 h1 with e | e
      · exact e
      · rcases List.mem_cons.1 h2 with e2 | e2
        · exact e2.symm
        · have := hr.1 y e2; have := hs.1 x e; omega
    subst hxy
    rw [asc_unique (List.Perm.cons_inv hp) hr.2 hs.2]
theorem srt_unique {r l : List Int} (hp : r.Perm l) (hs : r.Pairwise (· ≤ ·)) : r = srt l := asc_unique (hp.trans (srt_perm l).symm) hs (srt_asc l)
theorem srt_rev (l : List Int) : srt l.reverse = srt l := srt_unique ((srt_perm _).trans (List.reverse_perm l)) (srt_asc _)
theorem WV.srt {l : List Int} (h : WV l) : WV (srt l) := fun x hx => h x ((srt_perm l).mem_iff.1 hx)
theorem WV.rev {l : List Int} (h : WV l) : WV l.reverse := fun x hx => h x (List.mem_reverse.1 hx)
def at0 (s : List Int) (i : Nat) : Int := s[i]?.getD 0
theorem at0_get {s : List Int} {i : Nat} (h : i < s.length) : s[i]? = some (at0 s i) := by rw [at0, List.getElem?_eq_getElem h]; rfl
theorem at0_mem {s : List Int} {i : Nat} (h : i < s.length) : at0 s i ∈ s := List.mem_of_getElem? (at0_get h)
theorem asc_le {s : List Int} (h : s.Pairwise (· ≤ ·)) {i j : Nat} (hij : i ≤ j) (hj : j < s.length) : at0 s i ≤ at0 s j := by
  rcases Nat.lt_or_ge i j with h1 | h1
  · have := List.pairwise_iff_getElem.1 h i j (by omega) hj h1
    rwa [at0, at0, List.getElem?_eq_getElem (by omega), List.getElem?_eq_getElem hj]
  · obtain rfl : i = j := by omega
    exact Int.le_refl _
/-- the fullest class: no element has more, none with as many is less -/
def Mo (f : Int → Nat) (L : List Int) (b : Int) : Prop := ∀ x ∈ L, f x < f b ∨ (f x = f b ∧ b ≤ x)
theorem Mo.unique {f : Int → Nat} {L : List Int} {a b : Int} (ha : a ∈ L) (hb : b ∈ L) (h : Mo f L a) (k : Mo f L b) : a = b := by
  have h1 := h b hb
  have h2 := k a ha
  omega
/-- over a sorted list, from nothing -/
def MoS (f : Int → Nat) (s : List Int) (k : Nat) (b m : Int) : Prop := (k = 0 ∧ b = 0 ∧ m = 0) ∨ (0 < k ∧ b ∈ s.take k ∧ m = (f b : Int) ∧ Mo f (s.take k) b)
theorem take_one {s : List Int} {k : Nat} (hk : k < s.length) : s.take (k + 1) = s.take k ++ [at0 s k] := by
  rw [List.take_add_one, at0_get hk]; rfl
theorem MoS.up {f : Int → Nat} {s : List Int} {k : Nat} {b m : Int} (h : MoS f s k b m) (hk : k < s.length) (h1 : m < (f (at0 s k) : Int)) : MoS f s (k + 1) (at0 s k) (f (at0 s k) : Int) := by
  refine .inr ⟨by omega, by rw [take_one hk]; exact List.mem_append_right _ (List.mem_singleton_self _), rfl, fun x hx => ?_⟩
  rw [take_one hk, List.mem_append, List.mem_singleton] at hx
  rcases hx with hx | rfl
  · rcases h with ⟨rfl, _, _⟩ | ⟨_, _, rfl, h2⟩
    · simp at hx
    · rcases h2 x hx with h3 | ⟨h3, _⟩ <;> exact .inl (by omega)
  · exact .inr ⟨rfl, Int.le_refl _⟩
theorem MoS.stay {f : Int → Nat} {s : List Int} {k : Nat} {b m : Int} (h : MoS f s k b m) (hs : s.Pairwise (· ≤ ·)) (hf : ∀ x ∈ s, 0 < f x) (hk : k < s.length) (h1 : ¬ m < (f (at0 s k) : Int)) : MoS f s (k + 1) b m := by
  rcases h with ⟨rfl, _, rfl⟩ | ⟨h0, hb, rfl, h2⟩
  · have := hf _ (at0_mem hk); omega
  · refine .inr ⟨by omega, by rw [take_one hk]; exact List.mem_append_left _ hb, rfl, fun x hx => ?_⟩
    rw [take_one hk, List.mem_append, List.mem_singleton] at hx
    rcases hx with hx | rfl
    · exact h2 x hx
    · obtain ⟨i, hi, rfl⟩ := List.mem_take_iff_getElem.1 hb
      have h3 : s[i] = at0 s i := by rw [at0, List.getElem?_eq_getElem (by omega)]; rfl
      have h4 := asc_le hs (show i ≤ k by omega) hk
      rw [h3] at h1 ⊢
      rcases Nat.lt_or_ge (f (at0 s k)) (f (at0 s i)) with h5 | h5
      · exact .inl h5
      · exact .inr ⟨by omega, h4⟩
/-- over any list, from one of its elements -/
def MoR (f : Int → Nat) (l : List Int) (k : Nat) (b : Int) : Prop := b ∈ l ∧ Mo f (l.take k) b
theorem MoR.up {f : Int → Nat} {l : List Int} {k : Nat} {b : Int} (h : MoR f l k b) (hk : k < l.length) (h1 : f b < f (at0 l k) ∨ (f (at0 l k) = f b ∧ at0 l k < b)) : MoR f l (k + 1) (at0 l k) := by
  refine ⟨at0_mem hk, fun x hx => ?_⟩
  rw [take_one hk, List.mem_append, List.mem_singleton] at hx
  rcases hx with hx | rfl
  · have := h.2 x hx; omega
  · exact .inr ⟨rfl, Int.le_refl _⟩
theorem MoR.stay {f : Int → Nat} {l : List Int} {k : Nat} {b : Int} (h : MoR f l k b) (hk : k < l.length) (h1 : ¬ (f b < f (at0 l k) ∨ (f (at0 l k) = f b ∧ at0 l k < b))) : MoR f l (k + 1) b := by
  refine ⟨h.1, fun x hx => ?_⟩
  rw [take_one hk, List.mem_append, List.mem_singleton] at hx
  rcases hx with hx | rfl
  · exact h.2 x hx
  · omega
/-- the mode -/
def ModeIs (l : List Int) (step b : Int) : Prop := b ∈ l ∧ Mo (fun x => cnt l x (x + step)) l b
theorem ModeIs.unique {l : List Int} {step a b : Int} (h : ModeIs l step a) (k : ModeIs l step b) : a = b := Mo.unique h.1 k.1 h.2 k.2
theorem MoS.mode {l : List Int} {step b m : Int} (hl : 0 < l.length) (h : MoS (fun x => cnt l x (x + step)) (srt l) l.length b m) : ModeIs l step b ∧ m = (cnt l b (b + step) : Int) := by
  rcases h with ⟨h0, _⟩ | ⟨_, h1, h2, h3⟩
  · omega
  · rw [List.take_of_length_le (by rw [srt_len]; exact Nat.le_refl _)] at h1 h3
    exact ⟨⟨(srt_perm l).mem_iff.1 h1, fun x hx => h3 x ((srt_perm l).mem_iff.2 hx)⟩, h2⟩
theorem MoR.mode {l : List Int} {step b : Int} (h : MoR (fun x => cnt l x (x + step)) l l.length b) : ModeIs l step b := by
  have := h.2
  rw [List.take_length] at this
  exact ⟨h.1, this⟩
theorem mode_pos {l : List Int} {step : Int} (hs : 1 ≤ step) : ∀ x ∈ srt l, 0 < cnt l x (x + step) := fun x hx => cnt_pos ((srt_perm l).mem_iff.1 hx) (Int.le_refl _) (by omega)
/-- twice the median -/
def twi (l : List Int) : Int := at0 (srt l) ((l.length - 1) / 2) + at0 (srt l) (l.length / 2)
theorem twi_rev (l : List Int) : twi l.reverse = twi l := by rw [twi, twi, srt_rev, List.length_reverse]
theorem twi_bd {l : List Int} (h : WV l) (h0 : 0 < l.length) : 2 ≤ twi l ∧ twi l ≤ 400000 := by
  have h1 := h.srt _ (at0_mem (s := srt l) (i := (l.length - 1) / 2) (by rw [srt_len]; omega))
  have h2 := h.srt _ (at0_mem (s := srt l) (i := l.length / 2) (by rw [srt_len]; omega))
  rw [twi]; omega
theorem countP_srt (p : Int → Bool) (l : List Int) : l.countP p = (srt l).countP p := (srt_perm l).symm.countP_eq p
theorem countP_first {p : Int → Bool} {s : List Int} {k : Nat} (h : ∀ i, k ≤ i → i < s.length → p (at0 s i) = false) : s.countP p ≤ k := by
  have e : s.countP p = (s.take k).countP p + (s.drop k).countP p := by rw [← List.countP_append, List.take_append_drop]
  have e2 : (s.drop k).countP p = 0 := by
    rw [List.countP_eq_zero]
    intro x hx
    obtain ⟨i, hi, rfl⟩ := List.mem_iff_getElem.1 hx
    rw [List.length_drop] at hi
    have := h (k + i) (by omega) (by omega)
    rw [at0, List.getElem?_eq_getElem (by omega), Option.getD_some] at this
    rw [List.getElem_drop, this]; simp
  have e3 : (s.take k).countP p ≤ (s.take k).length := List.countP_le_length
  rw [List.length_take] at e3
  omega
theorem countP_last {p : Int → Bool} {s : List Int} {k : Nat} (h : ∀ i, i < k → i < s.length → p (at0 s i) = false) : s.countP p ≤ s.length - k := by
  have e : s.countP p = (s.take k).countP p + (s.drop k).countP p := by rw [← List.countP_append, List.take_append_drop]
  have e2 : (s.take k).countP p = 0 := by
    rw [List.countP_eq_zero]
    intro x hx
    obtain ⟨i, hi, rfl⟩ := List.mem_iff_getElem.1 hx
    rw [List.length_take] at hi
    have := h i (by omega) (by omega)
    rw [at0, List.getElem?_eq_getElem (by omega), Option.getD_some] at this
    rw [List.getElem_take, this]; simp
  have e3 : (s.drop k).countP p ≤ (s.drop k).length := List.countP_le_length
  rw [List.length_drop] at e3
  omega
theorem countP_least {p : Int → Bool} {s : List Int} {k : Nat} (hk : k ≤ s.length) (h : ∀ i, i < k → p (at0 s i) = true) : k ≤ s.countP p := by
  have e : s.countP p = (s.take k).countP p + (s.drop k).countP p := by rw [← List.countP_append, List.take_append_drop]
  have e2 : (s.take k).countP p = (s.take k).length := by
    rw [List.countP_eq_length]
    intro x hx
    obtain ⟨i, hi, rfl⟩ := List.mem_iff_getElem.1 hx
    rw [List.length_take] at hi
    have := h i (by omega)
    rw [at0, List.getElem?_eq_getElem (by omega), Option.getD_some] at this
    rw [List.getElem_take]; exact this
  rw [List.length_take] at e2
  omega
theorem med_below (l : List Int) : 2 * l.countP (fun x => decide (2 * x < twi l)) ≤ l.length := by
  rcases Nat.eq_zero_or_pos l.length with h0 | h0
  · rw [List.length_eq_zero_iff.1 h0]; simp
  rw [countP_srt]
  have := countP_first (p := fun x => decide (2 * x < twi l)) (s := srt l) (k := l.length / 2) fun i h1 h2 => by
    have e1 := asc_le (srt_asc l) (i := l.length / 2) (j := i) h1 h2
    have e2 := asc_le (srt_asc l) (i := (l.length - 1) / 2) (j := l.length / 2) (by omega) (by rw [srt_len]; omega)
    exact decide_eq_false (by rw [twi]; omega)
  omega
theorem med_above (l : List Int) : 2 * l.countP (fun x => decide (twi l < 2 * x)) ≤ l.length := by
  rcases Nat.eq_zero_or_pos l.length with h0 | h0
  · rw [List.length_eq_zero_iff.1 h0]; simp
  rw [countP_srt]
  have := countP_last (p := fun x => decide (twi l < 2 * x)) (s := srt l) (k := (l.length - 1) / 2 + 1) fun i h1 h2 => by
    have e1 := asc_le (srt_asc l) (i := i) (j := (l.length - 1) / 2) (by omega) (by rw [srt_len]; omega)
    have e2 := asc_le (srt_asc l) (i := (l.length - 1) / 2) (j := l.length / 2) (by omega) (by rw [srt_len]; omega)
    exact decide_eq_false (by rw [twi]; omega)
  rw [srt_len] at this
  omega
/-- the magnitude of twice a number less another -/
def mg (x t : Int) : Int := if 2 * x < t then t - 2 * x else 2 * x - t
theorem mg_nn (x t : Int) : 0 ≤ mg x t := by unfold mg; split <;> omega
theorem mg_max (x t : Int) : max (2 * x - t) (t - 2 * x) = mg x t := by unfold mg; split <;> omega
theorem mg_bd {x t : Int} (h1 : 1 ≤ x ∧ x ≤ 200000) (h2 : -4000000 ≤ t ∧ t ≤ 4000000) : mg x t ≤ 5000000 := by unfold mg; split <;> omega
/-- the sum of the distances, twice -/
def sumM (l : List Int) (t : Int) : Int := (l.map fun x => mg x t).sum
theorem sumM_nil (t : Int) : sumM [] t = 0 := rfl
theorem sumM_snoc (l : List Int) (x t : Int) : sumM (l ++ [x]) t = sumM l t + mg x t := by simp [sumM]
theorem sumM_perm {l m : List Int} (h : l.Perm m) (t : Int) : sumM l t = sumM m t := by
  unfold sumM
  induction h with
  | nil => rfl
  | cons x _ ih => simp only [List.map_cons, List.sum_cons, ih]
  | swap x y l => simp only [List.map_cons, List.sum_cons]; omega
  | trans _ _ h1 h2 => exact h1.trans h2
theorem sumM_bd {t : Int} (h2 : -4000000 ≤ t ∧ t ≤ 4000000) : ∀ {l : List Int}, WV l → 0 ≤ sumM l t ∧ sumM l t ≤ 5000000 * l.length
  | [], _ => by simp [sumM]
  | x :: l, h => by
    have ih := sumM_bd h2 (l := l) fun y hy => h y (List.mem_cons_of_mem _ hy)
    have h3 := mg_nn x t
    have h4 := mg_bd (h x List.mem_cons_self) h2
    have e : sumM (x :: l) t = mg x t + sumM l t := by simp [sumM]
    rw [e, List.length_cons]; omega
theorem mg_pair {a b t y : Int} (h1 : 2 * a ≤ t) (h2 : t ≤ 2 * b) : mg a t + mg b t ≤ mg a y + mg b y := by unfold mg; split <;> split <;> split <;> split <;> omega
theorem sumM_two (s : List Int) (t y : Int) (h : ∀ i, i < s.length → mg (at0 s i) t + mg (at0 s (s.length - 1 - i)) t ≤ mg (at0 s i) y + mg (at0 s (s.length - 1 - i)) y) :
    ∀ k : Nat, k ≤ s.length → sumM (s.take k) t + sumM (s.reverse.take k) t ≤ sumM (s.take k) y + sumM (s.reverse.take k) y
  | 0, _ => by simp [sumM]
  | k + 1, hk => by
    have ih := sumM_two s t y h k (by omega)
    have h1 := h k (by omega)
    have e : at0 s.reverse k = at0 s (s.length - 1 - k) := by rw [at0, at0, List.getElem?_reverse (by omega)]
    rw [take_one (by omega), take_one (by rw [List.length_reverse]; omega), sumM_snoc, sumM_snoc, sumM_snoc, sumM_snoc, e]
    omega
/-- no whole number is nearer to all than the median -/
theorem dev_least (l : List Int) (y : Int) : sumM l (twi l) ≤ sumM l y := by
  rcases Nat.eq_zero_or_pos l.length with h0 | h0
  · rw [List.length_eq_zero_iff.1 h0]; simp [sumM]
  have h1 := sumM_two (srt l) (twi l) y (fun i hi => by
    rw [srt_len] at hi ⊢
    have e2 := asc_le (srt_asc l) (i := (l.length - 1) / 2) (j := l.length / 2) (by omega) (by rw [srt_len]; omega)
    by_cases hc : i ≤ (l.length - 1) / 2
    · have e1 := asc_le (srt_asc l) (i := i) (j := (l.length - 1) / 2) hc (by rw [srt_len]; omega)
      have e3 := asc_le (srt_asc l) (i := l.length / 2) (j := l.length - 1 - i) (by omega) (by rw [srt_len]; omega)
      exact mg_pair (by rw [twi]; omega) (by rw [twi]; omega)
    · have e1 := asc_le (srt_asc l) (i := l.length - 1 - i) (j := (l.length - 1) / 2) (by omega) (by rw [srt_len]; omega)
      have e3 := asc_le (srt_asc l) (i := l.length / 2) (j := i) (by omega) (by rw [srt_len]; omega)
      have := mg_pair (a := at0 (srt l) (l.length - 1 - i)) (b := at0 (srt l) i) (t := twi l) (y := y) (by rw [twi]; omega) (by rw [twi]; omega)
      omega) (srt l).length (Nat.le_refl _)
  rw [List.take_length, List.take_of_length_le (by rw [List.length_reverse]; exact Nat.le_refl _), sumM_perm (List.reverse_perm _) (twi l), sumM_perm (List.reverse_perm _) y, sumM_perm (srt_perm l) (twi l), sumM_perm (srt_perm l) y] at h1
  omega
end Go.Proofs.YtolkijelldlmeaaGreatDoor
