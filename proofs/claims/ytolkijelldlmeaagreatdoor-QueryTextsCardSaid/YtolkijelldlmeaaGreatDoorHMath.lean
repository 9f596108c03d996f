/- Plain: lists of entries (type, number), when they are a hoard's, their sums. No program. -/
import Derived.Test.YtolkijelldlmeaaGreatDoorMath
namespace Go.Proofs.YtolkijelldlmeaaGreatDoor

/-- entry i of a list is in range, and greater than the one before -/
def OkAt (lo hi : Int) (l : List (Int × Int)) (i : Nat) : Prop :=
  ∀ x, l[i]? = some x → (1 ≤ x.1 ∧ x.1 ≤ 99) ∧ (lo ≤ x.2 ∧ x.2 ≤ hi) ∧ ∀ j y, i = j + 1 → l[j]? = some y → y.1 < x.1
def Listed (lo hi : Int) (l : List (Int × Int)) : Prop := ∀ i, OkAt lo hi l i
/-- years within their limits -/
def YV (f t : Int) : Prop := f ≤ t ∧ (-9999 ≤ f ∧ f ≤ 9999) ∧ (-9999 ≤ t ∧ t ≤ 9999)
/-- a valid hoard -/
def HV (id : Int) (l : List (Int × Int)) (f t : Int) : Prop := (1 ≤ id ∧ id ≤ 99) ∧ (1 ≤ l.length ∧ l.length ≤ 32) ∧ Listed 1 999 l ∧ YV f t
/-- the number of a type; the number of all -/
def numE : List (Int × Int) → Int → Int
  | [], _ => 0
  | x :: l, t => (if x.1 = t then x.2 else 0) + numE l t
def totE : List (Int × Int) → Int
  | [] => 0
  | x :: l => x.2 + totE l
theorem numE_append (l m : List (Int × Int)) (t : Int) : numE (l ++ m) t = numE l t + numE m t := by
  induction l with
  | nil => simp [numE]
  | cons x l ih => rw [List.cons_append, numE, numE, ih]; omega
theorem totE_append (l m : List (Int × Int)) : totE (l ++ m) = totE l + totE m := by
  induction l with
  | nil => simp [totE]
  | cons x l ih => rw [List.cons_append, totE, totE, ih]; omega
theorem take_succ {l : List (Int × Int)} {k : Nat} {x : Int × Int} (h : l[k]? = some x) : l.take (k + 1) = l.take k ++ [x] := by
  obtain ⟨hk, rfl⟩ := List.getElem?_eq_some_iff.1 h
  exact List.take_succ_eq_append_getElem hk
theorem numE_succ {l : List (Int × Int)} {k : Nat} {x : Int × Int} (h : l[k]? = some x) (t : Int) : numE (l.take (k + 1)) t = numE (l.take k) t + (if x.1 = t then x.2 else 0) := by
  rw [take_succ h, numE_append]; simp [numE]
theorem totE_succ {l : List (Int × Int)} {k : Nat} {x : Int × Int} (h : l[k]? = some x) : totE (l.take (k + 1)) = totE (l.take k) + x.2 := by
  rw [take_succ h, totE_append]; simp [totE]
theorem Listed.at_ {lo hi : Int} {l : List (Int × Int)} (h : Listed lo hi l) {i : Nat} {x : Int × Int} (hx : l[i]? = some x) : (1 ≤ x.1 ∧ x.1 ≤ 99) ∧ (lo ≤ x.2 ∧ x.2 ≤ hi) :=
  ⟨(h i x hx).1, (h i x hx).2.1⟩
theorem Listed.mem {lo hi : Int} {l : List (Int × Int)} (h : Listed lo hi l) {x : Int × Int} (hx : x ∈ l) : (1 ≤ x.1 ∧ x.1 ≤ 99) ∧ (lo ≤ x.2 ∧ x.2 ≤ hi) := by
  obtain ⟨i, hi, rfl⟩ := List.getElem_of_mem hx
  exact h.at_ (List.getElem?_eq_getElem hi)
theorem Listed.tail {lo hi : Int} {x : Int × Int} {l : List (Int × Int)} (h : Listed lo hi (x :: l)) : Listed lo hi l := fun i y hy => by
  obtain ⟨a, b, c⟩ := h (i + 1) y (by simpa using hy)
  exact ⟨a, b, fun j z hj hz => c (j + 1) z (by omega) (by simpa using hz)⟩
theorem Listed.head_lt {lo hi : Int} {x : Int × Int} : ∀ {l : List (Int × Int)}, Listed lo hi (x :: l) → ∀ y ∈ l, x.1 < y.1
  | [], _, _, h => by cases h
  | z :: l, h, y, hy => by
    have h1 : x.1 < z.1 := (h 1 z rfl).2.2 0 x rfl rfl
    rcases List.mem_cons.1 hy with rfl | hy
    · exact h1
    · have := Listed.head_lt h.tail y hy
      omega
theorem Listed.num_zero {l : List (Int × Int)} {t : Int} (h : ∀ x ∈ l, x.1 ≠ t) : numE l t = 0 := by
  induction l with
  | nil => rfl
  | cons x l ih =>
    rw [numE, if_neg (h x List.mem_cons_self), ih fun y hy => h y (List.mem_cons_of_mem _ hy)]; rfl
theorem Listed.num {lo hi : Int} {t : Int} {x : Int × Int} : ∀ {l : List (Int × Int)}, Listed lo hi l → x ∈ l → x.1 = t → numE l t = x.2
  | [], _, hx, _ => by cases hx
  | y :: l, h, hx, ht => by
    have hl := h.head_lt
    rcases List.mem_cons.1 hx with rfl | hx
    · rw [numE, if_pos ht, Listed.num_zero fun z hz => by have := hl z hz; omega]; omega
    · have h1 := hl x hx
      rw [numE, if_neg (by omega), Listed.num h.tail hx ht]; omega
theorem num_bd {lo hi : Int} {l : List (Int × Int)} (hlo : 0 ≤ lo) (h : ∀ x ∈ l, lo ≤ x.2 ∧ x.2 ≤ hi) (t : Int) : 0 ≤ numE l t ∧ numE l t ≤ hi * l.length := by
  induction l with
  | nil => simp [numE]
  | cons x l ih =>
    obtain ⟨a, b⟩ := ih fun y hy => h y (List.mem_cons_of_mem _ hy)
    obtain ⟨c, d⟩ := h x List.mem_cons_self
    rw [numE, List.length_cons, Int.natCast_add, Int.mul_add]
    split <;> omega
theorem tot_bd {lo hi : Int} {l : List (Int × Int)} (hlo : 0 ≤ lo) (h : ∀ x ∈ l, lo ≤ x.2 ∧ x.2 ≤ hi) : 0 ≤ totE l ∧ totE l ≤ hi * l.length := by
  induction l with
  | nil => simp [totE]
  | cons x l ih =>
    obtain ⟨a, b⟩ := ih fun y hy => h y (List.mem_cons_of_mem _ hy)
    obtain ⟨c, d⟩ := h x List.mem_cons_self
    rw [totE, List.length_cons, Int.natCast_add, Int.mul_add]
    omega
theorem HV.tot {id : Int} {l : List (Int × Int)} {f t : Int} (h : HV id l f t) (k : Nat) : 0 ≤ totE (l.take k) ∧ totE (l.take k) ≤ 32000 := by
  have hm : ∀ x ∈ l.take k, 1 ≤ x.2 ∧ x.2 ≤ 999 := fun x hx => (h.2.2.1.mem (List.mem_of_mem_take hx)).2
  have h1 := tot_bd (by omega) hm
  have h2 := h.2.1.2
  have h3 : (l.take k).length ≤ 32 := Nat.le_trans (List.length_take_le' k l) h2
  omega
theorem HV.num {id : Int} {l : List (Int × Int)} {f t : Int} (h : HV id l f t) (k : Nat) (s : Int) : 0 ≤ numE (l.take k) s ∧ numE (l.take k) s ≤ 32000 := by
  have hm : ∀ x ∈ l.take k, 1 ≤ x.2 ∧ x.2 ≤ 999 := fun x hx => (h.2.2.1.mem (List.mem_of_mem_take hx)).2
  have h1 := num_bd (by omega) hm s
  have h2 := h.2.1.2
  have h3 : (l.take k).length ≤ 32 := Nat.le_trans (List.length_take_le' k l) h2
  omega
/-- the number of a type where the list is a hoard's: of the first entry with that type -/
def valE (l : List (Int × Int)) (t : Int) : Option Int := (l.find? fun x => decide (x.1 = t)).map (·.2)
theorem val_some {l : List (Int × Int)} {t v : Int} (h : valE l t = some v) : ∃ x ∈ l, x.1 = t ∧ x.2 = v := by
  unfold valE at h
  cases hf : l.find? fun x => decide (x.1 = t) with
  | none => rw [hf] at h; cases h
  | some x =>
    rw [hf] at h
    have h2 : x.2 = v := by simpa using h
    exact ⟨x, List.mem_of_find?_eq_some hf, by have := List.find?_some hf; simpa using this, h2⟩
theorem val_none {l : List (Int × Int)} {t : Int} (h : valE l t = none) : ∀ x ∈ l, x.1 ≠ t := by
  unfold valE at h
  cases hf : l.find? fun x => decide (x.1 = t) with
  | none => intro x hx; have := List.find?_eq_none.1 hf x hx; simpa using this
  | some x => rw [hf] at h; cases h
theorem val_num {lo hi : Int} {l : List (Int × Int)} (h : Listed lo hi l) (t : Int) : (valE l t).getD 0 = numE l t := by
  cases hv : valE l t with
  | none => rw [Listed.num_zero (val_none hv)]; rfl
  | some v =>
    obtain ⟨x, hx, h1, h2⟩ := val_some hv
    rw [h.num hx h1, h2]; rfl
theorem val_first {l : List (Int × Int)} {t : Int} {k : Nat} {x : Int × Int} (hx : l[k]? = some x) (ht : x.1 = t) (hno : ∀ j y, j < k → l[j]? = some y → y.1 ≠ t) : valE l t = some x.2 := by
  have hk := (List.getElem?_eq_some_iff.1 hx).1
  have hd : l = l.take k ++ x :: l.drop (k + 1) := by
    rw [← (List.getElem?_eq_some_iff.1 hx).2, List.getElem_cons_drop, List.take_append_drop]
  have hn : (l.take k).find? (fun x => decide (x.1 = t)) = none := by
    rw [List.find?_eq_none]
    intro y hy
    obtain ⟨j, hj, rfl⟩ := List.getElem_of_mem hy
    rw [List.length_take] at hj
    rw [List.getElem_take]
    simpa using hno j _ (by omega) (List.getElem?_eq_getElem (by omega))
  have hf : l.find? (fun x => decide (x.1 = t)) = some x := by
    conv => lhs; rw [hd]
    rw [List.find?_append, hn, List.find?_cons_of_pos (by simpa using ht)]
    rfl
  unfold valE
  rw [hf]; rfl
theorem val_no {l : List (Int × Int)} {t : Int} (hno : ∀ j y, j < l.length → l[j]? = some y → y.1 ≠ t) : valE l t = none := by
  unfold valE
  rw [List.find?_eq_none.2]
  · rfl
  · intro y hy
    obtain ⟨j, hj, rfl⟩ := List.getElem_of_mem hy
    simpa using hno j _ hj (List.getElem?_eq_getElem hj)
end Go.Proofs.YtolkijelldlmeaaGreatDoor
