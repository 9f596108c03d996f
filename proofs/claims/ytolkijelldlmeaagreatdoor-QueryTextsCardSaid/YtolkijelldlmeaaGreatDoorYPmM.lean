/- What the parser's loops keep; words of numbers. Plain Lean. -/
import Derived.Test.YtolkijelldlmeaaGreatDoorMath
import Derived.Test.YtolkijelldlmeaaGreatDoorPMath
import Derived.Test.YtolkijelldlmeaaGreatDoorDz0
namespace Go.Proofs.YtolkijelldlmeaaGreatDoor
open Go.RowKit Go.Proofs Go

/-- a term: kind, field, sign, value, kids -/
inductive Tm where
  | mk (k f o v : Int) (ks : List Tm)
namespace Tm
def kind : Tm → Int | .mk k _ _ _ _ => k
def field : Tm → Int | .mk _ f _ _ _ => f
def op : Tm → Int | .mk _ _ o _ _ => o
def val : Tm → Int | .mk _ _ _ v _ => v
def kids : Tm → List Tm | .mk _ _ _ _ ks => ks
mutual
def size : Tm → Nat | .mk _ _ _ _ ks => 1 + sizeL ks
def sizeL : List Tm → Nat
  | [] => 0
  | t :: ts => size t + sizeL ts
end
mutual
def depth : Tm → Nat | .mk _ _ _ _ ks => 1 + depthL ks
def depthL : List Tm → Nat
  | [] => 0
  | t :: ts => max (depth t) (depthL ts)
end
/-- what the kind demands of the term itself -/
def shape (k f o v : Int) (ks : List Tm) : Prop :=
  (k = 1 ∧ 1 ≤ f ∧ f ≤ 7 ∧ 1 ≤ o ∧ o ≤ 6 ∧ 0 ≤ v ∧ v ≤ 999999 ∧ ks = []) ∨
  ((k = 2 ∨ k = 3) ∧ f = 0 ∧ o = 0 ∧ v = 0 ∧ 2 ≤ ks.length ∧ ∀ t ∈ ks, t.kind ≠ k) ∨
  (k = 4 ∧ f = 0 ∧ o = 0 ∧ v = 0 ∧ ks.length = 1)
mutual
def wf : Tm → Prop | .mk k f o v ks => shape k f o v ks ∧ wfL ks
def wfL : List Tm → Prop
  | [] => True
  | t :: ts => wf t ∧ wfL ts
end
mutual
def plain : Tm → Prop | .mk k _ _ _ ks => k ≠ 4 ∧ plainL ks
def plainL : List Tm → Prop
  | [] => True
  | t :: ts => plain t ∧ plainL ts
end
theorem sizeL_mem {t : Tm} : ∀ {ks : List Tm}, t ∈ ks → size t ≤ sizeL ks
  | [], h => by cases h
  | u :: us, h => by
    rw [sizeL]
    rcases List.mem_cons.1 h with rfl | h
    · omega
    · have := sizeL_mem h; omega
theorem depthL_mem {t : Tm} : ∀ {ks : List Tm}, t ∈ ks → depth t ≤ depthL ks
  | [], h => by cases h
  | u :: us, h => by
    rw [depthL]
    rcases List.mem_cons.1 h with rfl | h
    · omega
    · have := depthL_mem h; omega
theorem depthL_le {n : Nat} : ∀ {ks : List Tm}, depthL ks ≤ n ↔ ∀ t ∈ ks, depth t ≤ n
  | [] => by simp [depthL]
  | u :: us => by
    rw [depthL, Nat.max_le, depthL_le (ks := us)]
    simp
theorem wfL_iff : ∀ {ks : List Tm}, wfL ks ↔ ∀ t ∈ ks, wf t
  | [] => by simp [wfL]
  | u :: us => by rw [wfL, wfL_iff (ks := us)]; simp
theorem plainL_iff : ∀ {ks : List Tm}, plainL ks ↔ ∀ t ∈ ks, plain t
  | [] => by simp [plainL]
  | u :: us => by rw [plainL, plainL_iff (ks := us)]; simp
theorem size_pos (t : Tm) : 1 ≤ size t := by cases t; rw [size]; omega
theorem depth_pos (t : Tm) : 1 ≤ depth t := by cases t; rw [depth]; omega
theorem sizeL_append : ∀ (a b : List Tm), sizeL (a ++ b) = sizeL a + sizeL b
  | [], b => by simp [sizeL]
  | t :: a, b => by rw [List.cons_append, sizeL, sizeL, sizeL_append a b]; omega
theorem sizeL_len : ∀ (a : List Tm), a.length ≤ sizeL a
  | [] => by simp
  | t :: a => by rw [sizeL, List.length_cons]; have := sizeL_len a; have := size_pos t; omega
/-- induction over the kids -/
theorem ind {P : Tm → Prop} (h : ∀ k f o v ks, (∀ t ∈ ks, P t) → P (.mk k f o v ks)) : ∀ t, P t := by
  have key : ∀ n t, size t ≤ n → P t := by
    intro n
    induction n with
    | zero => intro t ht; have := size_pos t; omega
    | succ n ih =>
      rintro ⟨k, f, o, v, ks⟩ ht
      rw [size] at ht
      exact h k f o v ks fun t hm => ih t (by have := sizeL_mem hm; omega)
  exact fun t => key _ t (Nat.le_refl _)

/-- kids of the kind give way to theirs -/
def flat (k : Int) : List Tm → List Tm
  | [] => []
  | t :: ts => (if t.kind = k then t.kids else [t]) ++ flat k ts
/-- the term of a list: its only kid, or a term of this kind -/
def joined (k : Int) (ks : List Tm) : Tm := match ks with
  | [t] => t
  | ks => .mk k 0 0 0 (flat k ks)
theorem joined_two {k : Int} {ks : List Tm} (h : 2 ≤ ks.length) : joined k ks = .mk k 0 0 0 (flat k ks) := by
  match ks, h with
  | _ :: _ :: _, _ => rfl
theorem flat_append (k : Int) : ∀ (a b : List Tm), flat k (a ++ b) = flat k a ++ flat k b
  | [], b => rfl
  | t :: a, b => by rw [List.cons_append, flat, flat, flat_append k a b, List.append_assoc]
/-- the opposite sign -/
def opp (o : Int) : Int := if o = 1 then 2 else if o = 2 then 1 else if o = 3 then 6 else if o = 4 then 5 else if o = 5 then 4 else if o = 6 then 3 else 0
/-- the kind, or the other one of the two lists -/
def turn (b : Bool) (k : Int) : Int := if b then 5 - k else k
mutual
/-- the term without not; b: the opposite's -/
def norm : Tm → Bool → Tm
  | .mk k f o v ks, b => if k = 4 then normH ks (!b) else if k = 1 then .mk k f (if b then opp o else o) v ks else joined (turn b k) (normL ks b)
def normH : List Tm → Bool → Tm
  | [], _ => .mk 0 0 0 0 []
  | t :: _, b => norm t b
def normL : List Tm → Bool → List Tm
  | [], _ => []
  | t :: ts, b => norm t b :: normL ts b
end
theorem normL_map (b : Bool) : ∀ ks : List Tm, normL ks b = ks.map fun t => norm t b
  | [] => rfl
  | t :: ts => by rw [normL, normL_map b ts, List.map_cons]
theorem normL_len (b : Bool) (ks : List Tm) : (normL ks b).length = ks.length := by rw [normL_map, List.length_map]
theorem norm_cmp {f o v : Int} {ks : List Tm} (b : Bool) : norm (.mk 1 f o v ks) b = .mk 1 f (if b then opp o else o) v ks := by
  rw [norm, if_neg (by decide), if_pos rfl]
theorem norm_not {f o v : Int} {t : Tm} (b : Bool) : norm (.mk 4 f o v [t]) b = norm t (!b) := by
  rw [norm, if_pos rfl, normH]
theorem norm_list {k f o v : Int} {ks : List Tm} (b : Bool) (hk : k = 2 ∨ k = 3) (h : 2 ≤ ks.length) : norm (.mk k f o v ks) b = .mk (turn b k) 0 0 0 (flat (turn b k) (normL ks b)) := by
  rw [norm, if_neg (by omega), if_neg (by omega), joined_two (by rw [normL_len]; exact h)]
theorem turn_kind {k : Int} (b : Bool) (hk : k = 2 ∨ k = 3) : turn b k = 2 ∨ turn b k = 3 := by
  unfold turn; cases b <;> simp <;> omega
theorem flat_len {k : Int} (hk : k = 2 ∨ k = 3) : ∀ {ks : List Tm}, (∀ t ∈ ks, wf t) → ks.length ≤ (flat k ks).length
  | [], _ => by simp
  | t :: ts, h => by
    have h1 := flat_len hk (ks := ts) fun u hu => h u (List.mem_cons_of_mem _ hu)
    rw [flat, List.length_append, List.length_cons]
    by_cases ht : t.kind = k
    · rw [if_pos ht]
      obtain ⟨k', f, o, v, us⟩ := t
      have h2 := (h _ List.mem_cons_self)
      rw [wf] at h2
      have ht : k' = k := ht
      have : 1 ≤ us.length := by
        rcases h2.1 with ⟨h, _⟩ | ⟨_, _, _, _, h, _⟩ | ⟨h, _⟩
        · omega
        · omega
        · omega
      show _ ≤ us.length + _
      omega
    · rw [if_neg ht]; simp; omega
theorem mem_flat {k : Int} {u : Tm} : ∀ {ks : List Tm}, u ∈ flat k ks ↔ ∃ t ∈ ks, (t.kind = k ∧ u ∈ t.kids) ∨ (t.kind ≠ k ∧ u = t)
  | [] => by simp [flat]
  | t :: ts => by
    rw [flat, List.mem_append, mem_flat (ks := ts)]
    by_cases ht : t.kind = k
    · rw [if_pos ht]; simp [ht]
    · rw [if_neg ht]; simp [ht]
theorem kids_wf {t u : Tm} (h : wf t) (hu : u ∈ t.kids) : wf u := by
  obtain ⟨k, f, o, v, ks⟩ := t
  rw [wf] at h
  exact wfL_iff.1 h.2 u hu
theorem kids_plain {t u : Tm} (h : plain t) (hu : u ∈ t.kids) : plain u := by
  obtain ⟨k, f, o, v, ks⟩ := t
  rw [plain] at h
  exact plainL_iff.1 h.2 u hu
theorem kids_kind {t u : Tm} (h : wf t) (hk : t.kind = 2 ∨ t.kind = 3) (hu : u ∈ t.kids) : u.kind ≠ t.kind := by
  obtain ⟨k, f, o, v, ks⟩ := t
  rw [wf] at h
  have hk : k = 2 ∨ k = 3 := hk
  rcases h.1 with ⟨h, _⟩ | ⟨_, _, _, _, _, h⟩ | ⟨h, _⟩
  · omega
  · exact h u hu
  · omega
/-- the form without not is well formed and has none -/
theorem norm_ok : ∀ t : Tm, wf t → ∀ b, wf (norm t b) ∧ plain (norm t b) := by
  refine ind fun k f o v ks ih h b => ?_
  have hw := h
  rw [wf] at h
  rcases h.1 with ⟨rfl, h1, h2, h3, h4, h5, h6, rfl⟩ | ⟨hk, rfl, rfl, rfl, h2, h3⟩ | ⟨rfl, rfl, rfl, rfl, h2⟩
  · rw [norm_cmp, wf, plain]
    refine ⟨⟨.inl ⟨rfl, h1, h2, ?_, ?_, h5, h6, rfl⟩, trivial⟩, by decide, trivial⟩
    · cases b
      · exact h3
      · show 1 ≤ opp o
        unfold opp; repeat' split
        all_goals omega
    · cases b
      · exact h4
      · show opp o ≤ 6
        unfold opp; repeat' split
        all_goals omega
  · rw [norm_list b hk h2]
    have hwk := wfL_iff.1 h.2
    have hN : ∀ t ∈ normL ks b, wf t ∧ plain t := by
      rw [normL_map]
      intro t ht
      obtain ⟨u, hu, rfl⟩ := List.mem_map.1 ht
      exact ih u hu (hwk u hu) b
    have hT := turn_kind b hk
    rw [wf, plain]
    refine ⟨⟨.inr (.inl ⟨hT, rfl, rfl, rfl, ?_, ?_⟩), wfL_iff.2 ?_⟩, by omega, plainL_iff.2 ?_⟩
    · have := flat_len (k := turn b k) hT (ks := normL ks b) fun t ht => (hN t ht).1
      rw [normL_len] at this
      omega
    · intro u hu
      obtain ⟨t, ht, ⟨e, hut⟩ | ⟨e, rfl⟩⟩ := mem_flat.1 hu
      · rw [← e]; exact kids_kind (hN t ht).1 (by rw [e]; exact hT) hut
      · exact e
    · intro u hu
      obtain ⟨t, ht, ⟨_, hut⟩ | ⟨_, rfl⟩⟩ := mem_flat.1 hu
      · exact kids_wf (hN t ht).1 hut
      · exact (hN u ht).1
    · intro u hu
      obtain ⟨t, ht, ⟨_, hut⟩ | ⟨_, rfl⟩⟩ := mem_flat.1 hu
      · exact kids_plain (hN t ht).2 hut
      · exact (hN u ht).2
  · match ks, h2 with
    | [t], _ =>
      rw [norm_not]
      exact ih t List.mem_cons_self (wfL_iff.1 h.2 t List.mem_cons_self) _
theorem sizeL_flat (k : Int) : ∀ ks : List Tm, sizeL (flat k ks) ≤ sizeL ks
  | [] => by simp [flat]
  | t :: ts => by
    rw [flat, sizeL_append, sizeL]
    have h := sizeL_flat k ts
    obtain ⟨k', f, o, v, us⟩ := t
    split
    · rw [size]; show sizeL us + _ ≤ _; omega
    · rw [sizeL, sizeL]; omega
theorem sizeL_norm (b : Bool) : ∀ {ks : List Tm}, (∀ t ∈ ks, size (norm t b) ≤ size t) → sizeL (normL ks b) ≤ sizeL ks
  | [], _ => by simp [normL]
  | t :: ts, h => by
    rw [normL, sizeL, sizeL]
    have h1 := h t List.mem_cons_self
    have h2 := sizeL_norm b (ks := ts) fun u hu => h u (List.mem_cons_of_mem _ hu)
    omega
theorem norm_size : ∀ t : Tm, wf t → ∀ b, size (norm t b) ≤ size t ∧ depth (norm t b) ≤ depth t := by
  refine ind fun k f o v ks ih h b => ?_
  rw [wf] at h
  rcases h.1 with ⟨rfl, _, _, _, _, _, _, rfl⟩ | ⟨hk, rfl, rfl, rfl, h2, h3⟩ | ⟨rfl, rfl, rfl, rfl, h2⟩
  · rw [norm_cmp, size, size, depth, depth]
    exact ⟨Nat.le_refl _, Nat.le_refl _⟩
  · rw [norm_list b hk h2, size, size, depth, depth]
    have hwk := wfL_iff.1 h.2
    refine ⟨?_, ?_⟩
    · have h4 := sizeL_flat (turn b k) (normL ks b)
      have h5 := sizeL_norm b (ks := ks) fun t ht => (ih t ht (hwk t ht) b).1
      omega
    · have : depthL (flat (turn b k) (normL ks b)) ≤ depthL ks := by
        rw [depthL_le]
        intro u hu
        obtain ⟨t, ht, hc⟩ := mem_flat.1 hu
        rw [normL_map] at ht
        obtain ⟨x, hx, rfl⟩ := List.mem_map.1 ht
        have h4 := (ih x hx (hwk x hx) b).2
        have h5 := depthL_mem hx
        rcases hc with ⟨_, hut⟩ | ⟨_, rfl⟩
        · have h6 : depth u ≤ depth (norm x b) := by
            generalize norm x b = y at *
            obtain ⟨k', f, o, v, us⟩ := y
            rw [depth]
            have := depthL_mem (show u ∈ us from hut)
            omega
          omega
        · omega
      omega
  · match ks, h2 with
    | [t], _ =>
      rw [norm_not, size, depth, sizeL, depthL, sizeL, depthL]
      have := ih t List.mem_cons_self (wfL_iff.1 h.2 t List.mem_cons_self) (!b)
      omega
theorem turn_turn (b c : Bool) (k : Int) : turn c (turn b k) = turn (b ^^ c) k := by
  cases b <;> cases c <;> simp [turn] <;> omega
theorem opp_opp {o : Int} (h1 : 1 ≤ o) (h2 : o ≤ 6) : opp (opp o) = o := by
  obtain rfl | rfl | rfl | rfl | rfl | rfl : o = 1 ∨ o = 2 ∨ o = 3 ∨ o = 4 ∨ o = 5 ∨ o = 6 := by omega
  all_goals rfl
/-- flattened ahead or behind: the same -/
theorem flat_norm {k : Int} (c : Bool) (hk : k = 2 ∨ k = 3) : ∀ {ks : List Tm}, (∀ t ∈ ks, wf t) → flat (turn c k) (normL (flat k ks) c) = flat (turn c k) (normL ks c)
  | [], _ => rfl
  | t :: ts, h => by
    have h1 := flat_norm c hk (ks := ts) fun u hu => h u (List.mem_cons_of_mem _ hu)
    have hL : ∀ a b : List Tm, normL (a ++ b) c = normL a c ++ normL b c := fun a b => by rw [normL_map, normL_map, normL_map, List.map_append]
    rw [flat, hL, flat_append, h1, normL, flat]
    congr 1
    by_cases ht : t.kind = k
    · rw [if_pos ht]
      obtain ⟨k', f, o, v, us⟩ := t
      have ht : k' = k := ht
      subst ht
      have hw := h _ List.mem_cons_self
      rw [wf] at hw
      have h2 : 2 ≤ us.length := by
        rcases hw.1 with ⟨h, _⟩ | ⟨_, _, _, _, h, _⟩ | ⟨h, _⟩
        · omega
        · exact h
        · omega
      rw [norm_list c hk h2]
      rw [if_pos (by rfl)]; rfl
    · rw [if_neg ht, normL, normL, flat, flat, List.append_nil]
/-- the form of the form -/
theorem norm_norm : ∀ t : Tm, wf t → ∀ b c, norm (norm t b) c = norm t (b ^^ c) := by
  refine ind fun k f o v ks ih h b c => ?_
  rw [wf] at h
  rcases h.1 with ⟨rfl, h1, h2, h3, h4, _, _, rfl⟩ | ⟨hk, rfl, rfl, rfl, h2, h3⟩ | ⟨rfl, rfl, rfl, rfl, h2⟩
  · rw [norm_cmp, norm_cmp, norm_cmp]
    cases b <;> cases c <;> simp [opp_opp h3 h4]
  · have hwk := wfL_iff.1 h.2
    have hT := turn_kind b hk
    have hN : ∀ t ∈ normL ks b, wf t := by
      rw [normL_map]
      intro t ht
      obtain ⟨u, hu, rfl⟩ := List.mem_map.1 ht
      exact (norm_ok u (hwk u hu) b).1
    have hl := flat_len hT hN
    rw [normL_len] at hl
    rw [norm_list b hk h2, norm_list c hT (by omega), norm_list _ hk h2, turn_turn, ← turn_turn b c, flat_norm c hT hN]
    congr 2
    rw [normL_map, normL_map, normL_map, List.map_map]
    exact List.map_congr_left fun t ht => ih t ht (hwk t ht) b c
  · match ks, h2 with
    | [t], _ =>
      rw [norm_not, norm_not, ih t List.mem_cons_self (wfL_iff.1 h.2 t List.mem_cons_self)]
      cases b <;> cases c <;> rfl

/-- a comparison -/
def cmpH (n o v : Int) : Bool := if o = 1 then decide (n = v) else if o = 2 then decide (n ≠ v) else if o = 3 then decide (n < v) else if o = 4 then decide (n ≤ v) else if o = 5 then decide (n > v) else decide (n ≥ v)
theorem cmpH_opp {n o v : Int} (h1 : 1 ≤ o) (h2 : o ≤ 6) : cmpH n (opp o) v = !cmpH n o v := by
  obtain rfl | rfl | rfl | rfl | rfl | rfl : o = 1 ∨ o = 2 ∨ o = 3 ∨ o = 4 ∨ o = 5 ∨ o = 6 := by omega
  all_goals
    simp only [cmpH, opp]
    simp
    try (rw [Bool.eq_iff_iff]; simp; try omega)
mutual
/-- a specimen (its fields g) satisfies the term -/
def holds (g : Int → Int) : Tm → Bool
  | .mk k f o v ks => if k = 2 then allL g ks else if k = 3 then anyL g ks else if k = 4 then !holdsH g ks else cmpH (g f) o v
def holdsH (g : Int → Int) : List Tm → Bool
  | [] => false
  | t :: _ => holds g t
def allL (g : Int → Int) : List Tm → Bool
  | [] => true
  | t :: ts => holds g t && allL g ts
def anyL (g : Int → Int) : List Tm → Bool
  | [] => false
  | t :: ts => holds g t || anyL g ts
end
section
variable {g : Int → Int}
theorem allL_all : ∀ ks : List Tm, allL g ks = ks.all (holds g)
  | [] => rfl
  | t :: ts => by rw [allL, allL_all ts, List.all_cons]
theorem anyL_any : ∀ ks : List Tm, anyL g ks = ks.any (holds g)
  | [] => rfl
  | t :: ts => by rw [anyL, anyL_any ts, List.any_cons]
theorem holds_and {f o v : Int} {ks : List Tm} : holds g (.mk 2 f o v ks) = ks.all (holds g) := by rw [holds, if_pos rfl, allL_all]
theorem holds_or {f o v : Int} {ks : List Tm} : holds g (.mk 3 f o v ks) = ks.any (holds g) := by rw [holds, if_neg (by decide), if_pos rfl, anyL_any]
theorem holds_not {f o v : Int} {t : Tm} : holds g (.mk 4 f o v [t]) = !holds g t := by rw [holds, if_neg (by decide), if_neg (by decide), if_pos rfl, holdsH]
theorem holds_cmp {f o v : Int} {ks : List Tm} : holds g (.mk 1 f o v ks) = cmpH (g f) o v := by rw [holds, if_neg (by decide), if_neg (by decide), if_neg (by decide)]
theorem flat_all : ∀ ks : List Tm, (flat 2 ks).all (holds g) = ks.all (holds g)
  | [] => rfl
  | t :: ts => by
    rw [flat, List.all_append, flat_all ts, List.all_cons]
    congr 1
    obtain ⟨k, f, o, v, us⟩ := t
    by_cases hk : k = 2
    · subst hk; rw [if_pos (by rfl), holds_and]; rfl
    · rw [if_neg (by exact hk)]; simp
theorem flat_any : ∀ ks : List Tm, (flat 3 ks).any (holds g) = ks.any (holds g)
  | [] => rfl
  | t :: ts => by
    rw [flat, List.any_append, flat_any ts, List.any_cons]
    congr 1
    obtain ⟨k, f, o, v, us⟩ := t
    by_cases hk : k = 3
    · subst hk; rw [if_pos (by rfl), holds_or]; rfl
    · rw [if_neg (by exact hk)]; simp
theorem joined_and (ks : List Tm) : holds g (joined 2 ks) = ks.all (holds g) := by
  match ks with
  | [] => show holds g (.mk 2 0 0 0 []) = _; rw [holds_and]
  | [t] => simp [joined]
  | a :: b :: l => rw [joined_two (by simp), holds_and, flat_all]
theorem joined_or (ks : List Tm) : holds g (joined 3 ks) = ks.any (holds g) := by
  match ks with
  | [] => show holds g (.mk 3 0 0 0 []) = _; rw [holds_or]
  | [t] => simp [joined]
  | a :: b :: l => rw [joined_two (by simp), holds_or, flat_any]
/-- the form without not: satisfied by the same ones, or by the others -/
theorem norm_holds : ∀ t : Tm, wf t → ∀ b, holds g (norm t b) = (holds g t ^^ b) := by
  refine ind fun k f o v ks ih h b => ?_
  rw [wf] at h
  have hwk := wfL_iff.1 h.2
  rcases h.1 with ⟨rfl, h1, h2, h3, h4, _, _, rfl⟩ | ⟨hk, rfl, rfl, rfl, h2, h3⟩ | ⟨rfl, rfl, rfl, rfl, h2⟩
  · rw [norm_cmp, holds_cmp, holds_cmp]
    cases b
    · simp
    · simp [cmpH_opp h3 h4]
  · rw [norm_list b hk h2]
    have hA : ∀ c, (normL ks c).all (holds g) = ks.all fun t => (holds g t ^^ c) := fun c => by
      rw [normL_map, List.all_map, Bool.eq_iff_iff, List.all_eq_true, List.all_eq_true]
      exact ⟨fun H t ht => by rw [← ih t ht (hwk t ht) c]; exact H t ht, fun H t ht => by show holds g (norm t c) = true; rw [ih t ht (hwk t ht) c]; exact H t ht⟩
    have hO : ∀ c, (normL ks c).any (holds g) = ks.any fun t => (holds g t ^^ c) := fun c => by
      rw [normL_map, List.any_map, Bool.eq_iff_iff, List.any_eq_true, List.any_eq_true]
      exact ⟨fun ⟨t, ht, H⟩ => ⟨t, ht, by rw [← ih t ht (hwk t ht) c]; exact H⟩, fun ⟨t, ht, H⟩ => ⟨t, ht, by show holds g (norm t c) = true; rw [ih t ht (hwk t ht) c]; exact H⟩⟩
    rcases hk with rfl | rfl <;> cases b
    · show holds g (.mk 2 0 0 0 (flat 2 (normL ks false))) = _
      rw [holds_and, holds_and, flat_all, hA]; simp
    · show holds g (.mk 3 0 0 0 (flat 3 (normL ks true))) = _
      rw [holds_or, holds_and, flat_any, hO]; simp [List.not_all_eq_any_not]
    · show holds g (.mk 3 0 0 0 (flat 3 (normL ks false))) = _
      rw [holds_or, holds_or, flat_any, hO]; simp
    · show holds g (.mk 2 0 0 0 (flat 2 (normL ks true))) = _
      rw [holds_and, holds_or, flat_all, hA]; simp [List.not_any_eq_all_not]
  · match ks, h2 with
    | [t], _ =>
      rw [norm_not, holds_not, ih t List.mem_cons_self (hwk t List.mem_cons_self)]
      cases b <;> simp
end
/-- well formed, and not too deep -/
def Vd (t : Tm) (n : Nat) : Prop := wf t ∧ depth t ≤ n
theorem Vd_zero (t : Tm) : ¬ Vd t 0 := fun h => by have := depth_pos t; have := h.2; omega
theorem Vd_mk {k f o v : Int} {ks : List Tm} {n : Nat} : Vd (.mk k f o v ks) (n + 1) ↔ shape k f o v ks ∧ ∀ t ∈ ks, Vd t n := by
  rw [Vd, wf, depth, wfL_iff]
  constructor
  · rintro ⟨⟨h1, h2⟩, h3⟩
    exact ⟨h1, fun t ht => ⟨h2 t ht, depthL_le.1 (by omega) t ht⟩⟩
  · rintro ⟨h1, h2⟩
    refine ⟨⟨h1, fun t ht => (h2 t ht).1⟩, ?_⟩
    have := depthL_le.2 fun t ht => (h2 t ht).2
    omega
/-- a valid term -/
def Ok (t : Tm) : Prop := wf t ∧ size t ≤ 40 ∧ depth t ≤ 8
theorem Ok.norm {t : Tm} (h : Ok t) (b : Bool) : Ok (norm t b) := by
  have h1 := norm_ok t h.1 b
  have h2 := norm_size t h.1 b
  exact ⟨h1.1, by have := h.2.1; omega, by have := h.2.2; omega⟩
/-- what counting up to a limit gives -/
def cnt (t : Tm) (b : Nat) : Nat := min (size t) (b + 1)
def cntL (ks : List Tm) (b : Nat) : Nat := min (1 + sizeL ks) (b + 1)
theorem cnt_mk {k f o v : Int} {ks : List Tm} {b : Nat} : cnt (.mk k f o v ks) b = cntL ks b := by rw [cnt, cntL, size]
theorem cntL_nil (b : Nat) : cntL [] b = 1 := by rw [cntL, sizeL]; omega
theorem cntL_snoc {ks : List Tm} {t : Tm} {b : Nat} (h : cntL ks b ≤ b) : cntL (ks ++ [t]) b = cntL ks b + cnt t (b - cntL ks b) := by
  unfold cntL cnt at *
  rw [sizeL_append, sizeL, sizeL]
  omega
theorem cntL_stop {ks us : List Tm} {b : Nat} (h : ¬ cntL ks b ≤ b) : cntL (ks ++ us) b = cntL ks b := by
  unfold cntL at *
  rw [sizeL_append]
  omega
theorem cnt_le {t : Tm} {b : Nat} : cnt t b ≤ b ↔ size t ≤ b := by unfold cnt; omega
end Tm
end Go.Proofs.YtolkijelldlmeaaGreatDoor

namespace Go.Proofs.YtolkijelldlmeaaGreatDoor
open Go.RowKit Go.Proofs Go

abbrev Tok := List UInt8
namespace Tm
def wNot : Tok := [110, 111, 116]
def wAnd : Tok := [97, 110, 100]
def wOr : Tok := [111, 114]
def wL : Tok := [40]
def wR : Tok := [41]
/-- the fields' names, from 1 on -/
def fieldL : List Tok := [[105, 100], [111, 98, 118], [114, 101, 118], [111, 98, 118, 115, 116, 97, 116, 101], [114, 101, 118, 115, 116, 97, 116, 101], [97, 120, 105, 115], [119, 101, 105, 103, 104, 116]]
/-- the signs, from 1 on -/
def signL : List Tok := [[61], [33, 61], [60], [60, 61], [62], [62, 61]]
/-- the place of a word in a list, from 1 on; 0: not there -/
def place (l : List Tok) (w : Tok) : Nat := if w ∈ l then l.idxOf w + 1 else 0
def nth (l : List Tok) (i : Int) : Tok := (l[i.toNat - 1]?).getD []
theorem place_field {f : Int} (h1 : 1 ≤ f) (h2 : f ≤ 7) : place fieldL (nth fieldL f) = f.toNat := by
  obtain rfl | rfl | rfl | rfl | rfl | rfl | rfl : f = 1 ∨ f = 2 ∨ f = 3 ∨ f = 4 ∨ f = 5 ∨ f = 6 ∨ f = 7 := by omega
  all_goals decide
theorem place_sign {o : Int} (h1 : 1 ≤ o) (h2 : o ≤ 6) : place signL (nth signL o) = o.toNat := by
  obtain rfl | rfl | rfl | rfl | rfl | rfl : o = 1 ∨ o = 2 ∨ o = 3 ∨ o = 4 ∨ o = 5 ∨ o = 6 := by omega
  all_goals decide
theorem field_ne {f : Int} (h1 : 1 ≤ f) (h2 : f ≤ 7) : nth fieldL f ≠ wNot ∧ nth fieldL f ≠ wL := by
  obtain rfl | rfl | rfl | rfl | rfl | rfl | rfl : f = 1 ∨ f = 2 ∨ f = 3 ∨ f = 4 ∨ f = 5 ∨ f = 6 ∨ f = 7 := by omega
  all_goals decide
/-- the number whose decimal text a word is; -1: none -/
def numF (w : Tok) : Int := if numeral w = true ∧ dval 0 w ≤ 999999 then (dval 0 w : Int) else -1
theorem numF_dec {n : Nat} (h : n ≤ 999999) : numF (Lib.decDigits n) = (n : Int) := by
  rw [numF, dval_dec, if_pos ⟨numeral_dec n, h⟩]
theorem numF_neg {w : Tok} : numF w < 0 ↔ ¬ (numeral w = true ∧ dval 0 w ≤ 999999) := by
  rw [numF]; split <;> simp_all <;> omega
/-- the grammar, with fuel: a part; the items of a list; a list (b: of sums, else of parts) -/
def word (b : Bool) : Tok := if b then wOr else wAnd
def kindL (b : Bool) : Int := if b then 3 else 2
/-- a comparison's tokens -/
def cmpF (a : Tok) : List Tok → Option (Tm × List Tok)
  | b :: c :: r => if place fieldL a = 0 ∨ place signL b = 0 ∨ numF c < 0 then none else some (.mk 1 (place fieldL a) (place signL b) (numF c) [], r)
  | _ => none
/-- the closing sign -/
def closeF : Option (Tm × List Tok) → Option (Tm × List Tok)
  | some (t, b :: r) => if b = wR then some (t, r) else none
  | _ => none
/-- what lies behind an item -/
def moreF (b : Bool) (t : Tm) (r : List Tok) (f : List Tok → Option (List Tm × List Tok)) : Option (List Tm × List Tok) := match r with
  | [] => some ([t], [])
  | a :: r' => if a = word b then (f r').map fun x => (t :: x.1, x.2) else some ([t], a :: r')
mutual
def partF : Nat → List Tok → Option (Tm × List Tok)
  | 0, _ => none
  | _ + 1, [] => none
  | n + 1, a :: l =>
    if a = wNot then (partF n l).map fun x => (.mk 4 0 0 0 [x.1], x.2)
    else if a = wL then closeF (listF n true l)
    else cmpF a l
def itemsF : Nat → Bool → List Tok → Option (List Tm × List Tok)
  | 0, _, _ => none
  | n + 1, b, w => (if b then listF n false w else partF n w).bind fun x => moreF b x.1 x.2 (itemsF n b)
def listF : Nat → Bool → List Tok → Option (Tm × List Tok)
  | 0, _, _ => none
  | n + 1, b, w => (itemsF n b w).map fun x => (joined (kindL b) x.1, x.2)
end
/-- the tokens of a term's text -/
def par (c : Bool) (l : List Tok) : List Tok := if c then wL :: (l ++ [wR]) else l
mutual
def toks : Tm → List Tok
  | .mk k f o v ks => if k = 2 then toksA ks else if k = 3 then toksO ks else if k = 4 then wNot :: toksN ks else [nth fieldL f, nth signL o, Lib.decDigits v.toNat]
def toksN : List Tm → List Tok
  | [] => []
  | t :: _ => par (decide (t.kind = 2 ∨ t.kind = 3)) (toks t)
def toksA : List Tm → List Tok
  | [] => []
  | t :: ts => match ts with
    | [] => par (decide (t.kind = 3)) (toks t)
    | _ :: _ => par (decide (t.kind = 3)) (toks t) ++ wAnd :: toksA ts
def toksO : List Tm → List Tok
  | [] => []
  | t :: ts => match ts with
    | [] => toks t
    | _ :: _ => toks t ++ wOr :: toksO ts
end
/-- no longer than a list of these words goes on -/
def Ends (b : Bool) (r : List Tok) : Prop := ∀ a r', r = a :: r' → a ≠ wAnd ∧ (b = true → a ≠ wOr)
theorem Ends.nil (b : Bool) : Ends b [] := fun a r' h => by cases h
theorem Ends.rp (b : Bool) (r : List Tok) : Ends b (wR :: r) := fun a r' h => by
  injection h with h1 h2
  subst h1
  exact ⟨by decide, fun _ => by decide⟩
theorem Ends.or (r : List Tok) : Ends false (wOr :: r) := fun a r' h => by
  injection h with h1 h2
  subst h1
  exact ⟨by decide, fun h => by cases h⟩
theorem Ends.mono {b : Bool} {r : List Tok} (h : Ends b r) : Ends false r := fun a r' e => ⟨(h a r' e).1, fun h => by cases h⟩
/-- from some fuel on -/
def From {α : Type} (f : Nat → Option α) (x : α) : Prop := ∃ N, ∀ n, N ≤ n → f n = some x
theorem From.step {α : Type} {f g : Nat → Option α} {x : α} (h : From f x) (hg : ∀ n, f n = some x → g (n + 1) = some x) : From g x := by
  obtain ⟨N, h⟩ := h
  refine ⟨N + 1, fun n hn => ?_⟩
  obtain ⟨m, rfl⟩ : ∃ m, n = m + 1 := ⟨n - 1, by omega⟩
  exact hg m (h m (by omega))
theorem From.map {α β : Type} {f : Nat → Option α} {g : Nat → Option β} {x : α} {y : β} (h : From f x) (hg : ∀ n, f n = some x → g (n + 1) = some y) : From g y := by
  obtain ⟨N, h⟩ := h
  refine ⟨N + 1, fun n hn => ?_⟩
  obtain ⟨m, rfl⟩ : ∃ m, n = m + 1 := ⟨n - 1, by omega⟩
  exact hg m (h m (by omega))
theorem From.map2 {α β γ : Type} {f : Nat → Option α} {f2 : Nat → Option β} {g : Nat → Option γ} {x : α} {x2 : β} {y : γ} (h : From f x) (h2 : From f2 x2) (hg : ∀ n, f n = some x → f2 n = some x2 → g (n + 1) = some y) : From g y := by
  obtain ⟨N, h⟩ := h
  obtain ⟨M, h2⟩ := h2
  refine ⟨max N M + 1, fun n hn => ?_⟩
  obtain ⟨m, rfl⟩ : ∃ m, n = m + 1 := ⟨n - 1, by omega⟩
  exact hg m (h m (by omega)) (h2 m (by omega))
/-- an item of a list -/
def item (b : Bool) (n : Nat) (w : List Tok) : Option (Tm × List Tok) := if b then listF n false w else partF n w
theorem itemsF_succ (n : Nat) (b : Bool) (w : List Tok) : itemsF (n + 1) b w = (item b n w).bind fun x => moreF b x.1 x.2 (itemsF n b) := by rw [itemsF]; rfl
theorem items_last {b : Bool} {w r : List Tok} {t : Tm} (h : From (fun n => item b n w) (t, r)) (hr : ∀ a r', r = a :: r' → a ≠ word b) : From (fun n => itemsF n b w) ([t], r) := by
  refine h.map fun n hn => ?_
  show itemsF (n + 1) b w = _
  have hn : item b n w = some (t, r) := hn
  rw [itemsF_succ, hn]
  show moreF b t r (itemsF n b) = _
  cases r with
  | nil => rfl
  | cons a r' => rw [moreF, if_neg (hr a r' rfl)]
theorem items_more {b : Bool} {w r r2 : List Tok} {t : Tm} {ts : List Tm} (h : From (fun n => item b n w) (t, word b :: r)) (h2 : From (fun n => itemsF n b r) (ts, r2)) : From (fun n => itemsF n b w) (t :: ts, r2) := by
  refine h.map2 h2 fun n hn hn2 => ?_
  show itemsF (n + 1) b w = _
  have hn : item b n w = some (t, word b :: r) := hn
  have hn2 : itemsF n b r = some (ts, r2) := hn2
  rw [itemsF_succ, hn]
  show moreF b t (word b :: r) (itemsF n b) = _
  rw [moreF, if_pos rfl, hn2]; rfl
theorem list_of {b : Bool} {w r : List Tok} {ts : List Tm} (h : From (fun n => itemsF n b w) (ts, r)) : From (fun n => listF n b w) (joined (kindL b) ts, r) := by
  refine h.map fun n hn => ?_
  show listF (n + 1) b w = _
  have hn : itemsF n b w = some (ts, r) := hn
  rw [listF, hn]; rfl
theorem part_par {w r : List Tok} {t : Tm} (h : From (fun n => listF n true (w ++ wR :: r)) (t, wR :: r)) : From (fun n => partF n (wL :: (w ++ [wR]) ++ r)) (t, r) := by
  refine h.map fun n hn => ?_
  have hn : listF n true (w ++ wR :: r) = some (t, wR :: r) := hn
  show partF (n + 1) (wL :: ((w ++ [wR]) ++ r)) = _
  rw [partF, if_neg (by decide), if_pos rfl, List.append_assoc]
  show closeF (listF n true (w ++ (wR :: r))) = _
  rw [hn, closeF, if_pos rfl]
/-- lists that need no flattening -/
theorem flat_id {k : Int} : ∀ {ks : List Tm}, (∀ t ∈ ks, t.kind ≠ k) → flat k ks = ks
  | [], _ => rfl
  | t :: ts, h => by
    rw [flat, if_neg (h t List.mem_cons_self), flat_id fun u hu => h u (List.mem_cons_of_mem _ hu)]
    rfl
section
/-- the text of a term is read as the term -/
theorem read_all : ∀ t : Tm, wf t → (t.kind = 1 ∨ t.kind = 4 → ∀ r, From (fun n => partF n (toks t ++ r)) (t, r)) ∧ (t.kind ≠ 3 → ∀ r, Ends false r → From (fun n => listF n false (toks t ++ r)) (t, r)) ∧ (∀ r, Ends true r → From (fun n => listF n true (toks t ++ r)) (t, r)) := by
  refine ind fun k f o v ks ih h => ?_
  have hw := h
  rw [wf] at h
  have hwk := wfL_iff.1 h.2
  -- from parts to lists, from sums to queries
  have up1 : ∀ t : Tm, ∀ r, Ends false r → From (fun n => partF n (toks t ++ r)) (t, r) → From (fun n => listF n false (toks t ++ r)) (t, r) := fun t r hr hp => by
    have := list_of (b := false) (items_last (b := false) hp fun a r' e => (hr a r' e).1)
    exact this
  have up2 : ∀ t : Tm, ∀ r, Ends true r → From (fun n => listF n false (toks t ++ r)) (t, r) → From (fun n => listF n true (toks t ++ r)) (t, r) := fun t r hr hp => by
    have := list_of (b := true) (items_last (b := true) hp fun a r' e => (hr a r' e).2 rfl)
    exact this
  rcases h.1 with ⟨rfl, h1, h2, h3, h4, h5, h6, rfl⟩ | ⟨hk, rfl, rfl, rfl, h2, h3⟩ | ⟨rfl, rfl, rfl, rfl, h2⟩
  · have hp : ∀ r, From (fun n => partF n (toks (.mk 1 f o v []) ++ r)) (.mk 1 f o v [], r) := fun r => by
      refine ⟨1, fun n hn => ?_⟩
      obtain ⟨n, rfl⟩ : ∃ m, n = m + 1 := ⟨n - 1, by omega⟩
      rw [toks, if_neg (by decide), if_neg (by decide), if_neg (by decide)]
      show partF (n + 1) (nth fieldL f :: nth signL o :: Lib.decDigits v.toNat :: r) = _
      have hf := field_ne h1 h2
      rw [partF, if_neg hf.1, if_neg hf.2]
      have hv := numF_dec (n := v.toNat) (by omega)
      rw [cmpF, place_field h1 h2, place_sign h3 h4, hv, Int.toNat_of_nonneg (show 0 ≤ f by omega), Int.toNat_of_nonneg (show 0 ≤ o by omega), Int.toNat_of_nonneg h5, if_neg]
      rintro (h | h | h) <;> omega
    exact ⟨fun _ => hp, fun _ r hr => up1 _ r hr (hp r), fun r hr => up2 _ r hr (up1 _ r hr.mono (hp r))⟩
  · -- a kid of an and, as a part
    rcases hk with rfl | rfl
    · have hitem : ∀ t ∈ ks, ∀ r, From (fun n => partF n (par (decide (t.kind = 3)) (toks t) ++ r)) (t, r) := fun t ht r => by
        have hsh : t.kind = 1 ∨ t.kind = 3 ∨ t.kind = 4 := by
          have h5 := h3 t ht
          have h6 := hwk t ht
          obtain ⟨k, f, o, v, us⟩ := t
          rw [wf] at h6
          show k = 1 ∨ k = 3 ∨ k = 4
          have h5 : k ≠ 2 := h5
          rcases h6.1 with ⟨h, _⟩ | ⟨h, _⟩ | ⟨h, _⟩ <;> omega
        by_cases h3k : t.kind = 3
        · rw [show par (decide (t.kind = 3)) (toks t) = wL :: (toks t ++ [wR]) by rw [par, decide_eq_true h3k, if_pos rfl]]
          exact part_par ((ih t ht (hwk t ht)).2.2 (wR :: r) (Ends.rp _ _))
        · rw [show par (decide (t.kind = 3)) (toks t) = toks t by rw [par, decide_eq_false h3k, if_neg (by decide)]]
          exact (ih t ht (hwk t ht)).1 (by omega) r
      have hitems : ∀ us : List Tm, us ≠ [] → (∀ t ∈ us, t ∈ ks) → ∀ r, Ends false r → From (fun n => itemsF n false (toksA us ++ r)) (us, r) := by
        intro us
        induction us with
        | nil => intro h; exact absurd rfl h
        | cons t ts ihu =>
          intro _ hs r hr
          cases ts with
          | nil =>
            rw [toksA]
            exact items_last (b := false) (hitem t (hs t List.mem_cons_self) r) fun a r' e => (hr a r' e).1
          | cons t2 ts =>
            rw [toksA, List.append_assoc]
            exact items_more (b := false) (hitem t (hs t List.mem_cons_self) (wAnd :: (toksA (t2 :: ts) ++ r))) (ihu (by simp) (fun u hu => hs u (List.mem_cons_of_mem _ hu)) r hr)
      have hA : ∀ r, Ends false r → From (fun n => listF n false (toks (.mk 2 0 0 0 ks) ++ r)) (.mk 2 0 0 0 ks, r) := fun r hr => by
        rw [toks, if_pos rfl]
        have := list_of (hitems ks (by intro e; rw [e] at h2; simp at h2) (fun t ht => ht) r hr)
        rw [show kindL false = 2 from rfl, joined_two h2, flat_id h3] at this
        exact this
      exact ⟨fun h => absurd h (by show ¬ ((2 : Int) = 1 ∨ (2 : Int) = 4); omega), fun _ r hr => hA r hr, fun r hr => up2 _ r hr (hA r hr.mono)⟩
    · have hitem : ∀ t ∈ ks, ∀ r, Ends false r → From (fun n => listF n false (toks t ++ r)) (t, r) := fun t ht r hr => (ih t ht (hwk t ht)).2.1 (h3 t ht) r hr
      have hitems : ∀ us : List Tm, us ≠ [] → (∀ t ∈ us, t ∈ ks) → ∀ r, Ends true r → From (fun n => itemsF n true (toksO us ++ r)) (us, r) := by
        intro us
        induction us with
        | nil => intro h; exact absurd rfl h
        | cons t ts ihu =>
          intro _ hs r hr
          cases ts with
          | nil =>
            rw [toksO]
            exact items_last (b := true) (hitem t (hs t List.mem_cons_self) r hr.mono) fun a r' e => (hr a r' e).2 rfl
          | cons t2 ts =>
            rw [toksO, List.append_assoc]
            exact items_more (b := true) (hitem t (hs t List.mem_cons_self) (wOr :: (toksO (t2 :: ts) ++ r)) (Ends.or _)) (ihu (by simp) (fun u hu => hs u (List.mem_cons_of_mem _ hu)) r hr)
      refine ⟨fun h => absurd h (by show ¬ ((3 : Int) = 1 ∨ (3 : Int) = 4); omega), fun h => absurd rfl h, fun r hr => ?_⟩
      rw [toks, if_neg (by decide), if_pos rfl]
      have := list_of (hitems ks (by intro e; rw [e] at h2; simp at h2) (fun t ht => ht) r hr)
      rw [show kindL true = 3 from rfl, joined_two h2, flat_id h3] at this
      exact this
  · match ks, h2 with
    | [t], _ =>
      have hwt := hwk t List.mem_cons_self
      have hI := ih t List.mem_cons_self hwt
      have hin : ∀ r, From (fun n => partF n (par (decide (t.kind = 2 ∨ t.kind = 3)) (toks t) ++ r)) (t, r) := fun r => by
        by_cases h23 : t.kind = 2 ∨ t.kind = 3
        · rw [show par (decide (t.kind = 2 ∨ t.kind = 3)) (toks t) = wL :: (toks t ++ [wR]) by rw [par, decide_eq_true h23, if_pos rfl]]
          exact part_par (hI.2.2 (wR :: r) (Ends.rp _ _))
        · rw [show par (decide (t.kind = 2 ∨ t.kind = 3)) (toks t) = toks t by rw [par, decide_eq_false h23, if_neg (by decide)]]
          refine hI.1 ?_ r
          obtain ⟨k, f, o, v, us⟩ := t
          rw [wf] at hwt
          have h23 : ¬ (k = 2 ∨ k = 3) := h23
          show k = 1 ∨ k = 4
          rcases hwt.1 with ⟨h, _⟩ | ⟨h, _⟩ | ⟨h, _⟩ <;> omega
      have hp : ∀ r, From (fun n => partF n (toks (.mk 4 0 0 0 [t]) ++ r)) (.mk 4 0 0 0 [t], r) := fun r => by
        rw [toks, if_neg (by decide), if_neg (by decide), if_pos rfl, toksN]
        refine (hin r).map fun n hn => ?_
        have hn : partF n (par (decide (t.kind = 2 ∨ t.kind = 3)) (toks t) ++ r) = some (t, r) := hn
        show partF (n + 1) (wNot :: (par (decide (t.kind = 2 ∨ t.kind = 3)) (toks t) ++ r)) = _
        rw [partF, if_pos rfl, hn]; rfl
      exact ⟨fun _ => hp, fun _ r hr => up1 _ r hr (hp r), fun r hr => up2 _ r hr (up1 _ r hr.mono (hp r))⟩
theorem read_toks {t : Tm} (h : wf t) : From (fun n => listF n true (toks t)) (t, []) := by
  have := (read_all t h).2.2 [] (Ends.nil _)
  rwa [List.append_nil] at this
end
end Tm
end Go.Proofs.YtolkijelldlmeaaGreatDoor

namespace Go.Proofs.YtolkijelldlmeaaGreatDoor
open Go.RowKit Go.Proofs Go

namespace Tm
/-- part of a word -/
def isW (c : UInt8) : Bool := (decide (97 ≤ c) && decide (c ≤ 122)) || (decide (65 ≤ c) && decide (c ≤ 90)) || (decide (48 ≤ c) && decide (c ≤ 57))
theorem dropWhile_len (p : UInt8 → Bool) : ∀ l : List UInt8, (l.dropWhile p).length ≤ l.length
  | [] => by simp
  | c :: l => by
    rw [List.dropWhile_cons]
    split
    · have := dropWhile_len p l; rw [List.length_cons]; omega
    · exact Nat.le_refl _
/-- the words and signs of a string; none: there is something else -/
def tokR : List UInt8 → Option (List Tok)
  | [] => some []
  | c :: l =>
    if c = 32 then tokR l
    else if isW c then (tokR (l.dropWhile isW)).map fun x => (c :: l.takeWhile isW) :: x
    else if (c = 33 ∨ c = 60 ∨ c = 62) ∧ l.head? = some 61 then (tokR (l.drop 1)).map fun x => [c, 61] :: x
    else if c = 61 ∨ c = 60 ∨ c = 62 ∨ c = 40 ∨ c = 41 then (tokR l).map fun x => [c] :: x
    else none
termination_by l => l.length
decreasing_by
  · simp
  · have := dropWhile_len isW l; simp; omega
  · simp; omega
  · simp
theorem tokR_nil : tokR [] = some [] := by rw [tokR]
theorem tokR_space (l : List UInt8) : tokR (32 :: l) = tokR l := by rw [tokR, if_pos rfl]
theorem tokR_word (c : UInt8) (l : List UInt8) (h : isW c = true) : tokR (c :: l) = (tokR (l.dropWhile isW)).map fun x => (c :: l.takeWhile isW) :: x := by
  rw [tokR, if_neg (by rintro rfl; exact absurd h (by decide)), if_pos h]
theorem tokR_two (c : UInt8) (l : List UInt8) (h : c = 33 ∨ c = 60 ∨ c = 62) : tokR (c :: 61 :: l) = (tokR l).map fun x => [c, 61] :: x := by
  rw [tokR, if_neg, if_neg, if_pos ⟨h, rfl⟩]
  · rfl
  · rcases h with rfl | rfl | rfl <;> decide
  · rcases h with rfl | rfl | rfl <;> decide
theorem tokR_one (c : UInt8) (l : List UInt8) (h : c = 61 ∨ c = 40 ∨ c = 41 ∨ ((c = 60 ∨ c = 62) ∧ l.head? ≠ some 61)) : tokR (c :: l) = (tokR l).map fun x => [c] :: x := by
  rw [tokR, if_neg, if_neg, if_neg, if_pos]
  · rcases h with rfl | rfl | rfl | ⟨h, _⟩
    · exact .inl rfl
    · exact .inr (.inr (.inr (.inl rfl)))
    · exact .inr (.inr (.inr (.inr rfl)))
    · rcases h with rfl | rfl
      · exact .inr (.inl rfl)
      · exact .inr (.inr (.inl rfl))
  · rcases h with rfl | rfl | rfl | ⟨h, h2⟩
    · rintro ⟨h, _⟩; revert h; decide
    · rintro ⟨h, _⟩; revert h; decide
    · rintro ⟨h, _⟩; revert h; decide
    · rintro ⟨_, h3⟩; exact h2 h3
  · rcases h with rfl | rfl | rfl | ⟨rfl | rfl, _⟩ <;> decide
  · rcases h with rfl | rfl | rfl | ⟨rfl | rfl, _⟩ <;> decide
/-- a word ends here -/
def Cut (r : List UInt8) : Prop := ∀ c l, r = c :: l → isW c = false
theorem Cut.nil : Cut [] := fun c l h => by cases h
theorem Cut.of {c : UInt8} {l : List UInt8} (h : isW c = false) : Cut (c :: l) := fun c' l' e => by injection e with e1 _; rw [← e1]; exact h
theorem take_word {r : List UInt8} (h : Cut r) : ∀ {u : List UInt8}, (∀ c ∈ u, isW c = true) → (u ++ r).takeWhile isW = u ∧ (u ++ r).dropWhile isW = r
  | [], _ => by
    cases r with
    | nil => exact ⟨rfl, rfl⟩
    | cons c l =>
      have := h c l rfl
      simp [this]
  | c :: u, hu => by
    have h1 := hu c List.mem_cons_self
    have h2 := take_word h (u := u) fun d hd => hu d (List.mem_cons_of_mem _ hd)
    simp [h1, h2]
theorem tokR_words {u r : List UInt8} (h : Cut r) (h0 : u ≠ []) (hu : ∀ c ∈ u, isW c = true) : tokR (u ++ r) = (tokR r).map fun x => u :: x := by
  cases u with
  | nil => exact absurd rfl h0
  | cons c u =>
    have h1 := take_word h (u := u) fun d hd => hu d (List.mem_cons_of_mem _ hd)
    rw [List.cons_append, tokR_word _ _ (hu c List.mem_cons_self), h1.1, h1.2]
/-- the text of a term -/
def parB (c : Bool) (l : List UInt8) : List UInt8 := if c then 40 :: (l ++ [41]) else l
mutual
def text : Tm → List UInt8
  | .mk k f o v ks => if k = 2 then textA ks else if k = 3 then textO ks else if k = 4 then wNot ++ 32 :: textN ks else nth fieldL f ++ 32 :: (nth signL o ++ 32 :: Lib.decDigits v.toNat)
def textN : List Tm → List UInt8
  | [] => []
  | t :: _ => parB (decide (t.kind = 2 ∨ t.kind = 3)) (text t)
def textA : List Tm → List UInt8
  | [] => []
  | t :: ts => match ts with
    | [] => parB (decide (t.kind = 3)) (text t)
    | _ :: _ => parB (decide (t.kind = 3)) (text t) ++ 32 :: (wAnd ++ 32 :: textA ts)
def textO : List Tm → List UInt8
  | [] => []
  | t :: ts => match ts with
    | [] => text t
    | _ :: _ => text t ++ 32 :: (wOr ++ 32 :: textO ts)
end
/-- a string's tokens lie ahead of those of what follows -/
def Tk (u : List UInt8) (w : List Tok) : Prop := ∀ r, Cut r → tokR (u ++ r) = (tokR r).map fun x => w ++ x
theorem map_map' (o : Option (List Tok)) (a b : List Tok) : (o.map fun x => b ++ x).map (fun x => a ++ x) = o.map fun x => (a ++ b) ++ x := by
  cases o with
  | none => rfl
  | some x => show some (a ++ (b ++ x)) = some ((a ++ b) ++ x); rw [List.append_assoc]
theorem Tk.par {u : List UInt8} {w : List Tok} (h : Tk u w) (c : Bool) : Tk (parB c u) (par c w) := fun r hr => by
  cases c with
  | false => exact h r hr
  | true =>
    show tokR (40 :: ((u ++ [41]) ++ r)) = _
    rw [tokR_one _ _ (.inr (.inl rfl)), List.append_assoc]
    have h1 := h (41 :: r) (Cut.of (by decide))
    rw [show u ++ ([41] ++ r) = u ++ 41 :: r from rfl, h1, tokR_one _ _ (.inr (.inr (.inl rfl)))]
    cases tokR r with
    | none => rfl
    | some x => show some (wL :: (w ++ (wR :: x))) = some (wL :: (w ++ [wR]) ++ x); simp
theorem Tk.words {u : List UInt8} (h0 : u ≠ []) (hu : ∀ c ∈ u, isW c = true) : Tk u [u] := fun r hr => by
  rw [tokR_words hr h0 hu]; rfl
theorem Tk.sp {u u2 : List UInt8} {w w2 : List Tok} (h : Tk u w) (h2 : Tk u2 w2) : Tk (u ++ 32 :: u2) (w ++ w2) := fun r hr => by
  rw [List.append_assoc]
  show tokR (u ++ 32 :: (u2 ++ r)) = _
  rw [h _ (Cut.of (by decide)), tokR_space, h2 r hr, map_map']
theorem field_w {f : Int} (h1 : 1 ≤ f) (h2 : f ≤ 7) : nth fieldL f ≠ [] ∧ ∀ c ∈ nth fieldL f, isW c = true := by
  obtain rfl | rfl | rfl | rfl | rfl | rfl | rfl : f = 1 ∨ f = 2 ∨ f = 3 ∨ f = 4 ∨ f = 5 ∨ f = 6 ∨ f = 7 := by omega
  all_goals decide
theorem sign_tk {o : Int} (h1 : 1 ≤ o) (h2 : o ≤ 6) {u2 : List UInt8} {w2 : List Tok} (h : Tk u2 w2) : Tk (nth signL o ++ 32 :: u2) (nth signL o :: w2) := fun r hr => by
  have hh := h r hr
  have key : ∀ s : Tok, (∀ l : List UInt8, tokR (s ++ 32 :: l) = (tokR l).map fun x => s :: x) → tokR ((s ++ 32 :: u2) ++ r) = (tokR r).map fun x => (s :: w2) ++ x := fun s hs => by
    rw [List.append_assoc]
    show tokR (s ++ 32 :: (u2 ++ r)) = _
    rw [hs, hh]
    cases tokR r <;> rfl
  apply key
  intro l
  obtain rfl | rfl | rfl | rfl | rfl | rfl : o = 1 ∨ o = 2 ∨ o = 3 ∨ o = 4 ∨ o = 5 ∨ o = 6 := by omega
  · show tokR (61 :: 32 :: l) = _; rw [tokR_one _ _ (.inl rfl), tokR_space]; rfl
  · show tokR (33 :: 61 :: 32 :: l) = _; rw [tokR_two _ _ (.inl rfl), tokR_space]; rfl
  · show tokR (60 :: 32 :: l) = _; rw [tokR_one _ _ (.inr (.inr (.inr ⟨.inl rfl, by simp⟩))), tokR_space]; rfl
  · show tokR (60 :: 61 :: 32 :: l) = _; rw [tokR_two _ _ (.inr (.inl rfl)), tokR_space]; rfl
  · show tokR (62 :: 32 :: l) = _; rw [tokR_one _ _ (.inr (.inr (.inr ⟨.inr rfl, by simp⟩))), tokR_space]; rfl
  · show tokR (62 :: 61 :: 32 :: l) = _; rw [tokR_two _ _ (.inr (.inr rfl)), tokR_space]; rfl
theorem dec_w (n : Nat) : Lib.decDigits n ≠ [] ∧ ∀ c ∈ Lib.decDigits n, isW c = true := by
  refine ⟨fun h => by have := dec_len_pos n; rw [h] at this; simp at this, fun c hc => ?_⟩
  rw [Lib.decDigits_eq] at hc
  obtain ⟨i, _, rfl⟩ := List.mem_map.1 hc
  have h : ∀ d, d < 10 → isW (UInt8.ofNat (48 + d)) = true := by
    intro d hd
    obtain rfl | rfl | rfl | rfl | rfl | rfl | rfl | rfl | rfl | rfl : d = 0 ∨ d = 1 ∨ d = 2 ∨ d = 3 ∨ d = 4 ∨ d = 5 ∨ d = 6 ∨ d = 7 ∨ d = 8 ∨ d = 9 := by omega
    all_goals decide
  exact h _ (Nat.mod_lt _ (by decide))
theorem text_2 {f o v : Int} {ks : List Tm} : text (.mk 2 f o v ks) = textA ks := by rw [text, if_pos rfl]
theorem text_3 {f o v : Int} {ks : List Tm} : text (.mk 3 f o v ks) = textO ks := by rw [text, if_neg (by decide), if_pos rfl]
theorem text_4 {f o v : Int} {ks : List Tm} : text (.mk 4 f o v ks) = wNot ++ 32 :: textN ks := by rw [text, if_neg (by decide), if_neg (by decide), if_pos rfl]
theorem text_1 {f o v : Int} {ks : List Tm} : text (.mk 1 f o v ks) = nth fieldL f ++ 32 :: (nth signL o ++ 32 :: Lib.decDigits v.toNat) := by rw [text, if_neg (by decide), if_neg (by decide), if_neg (by decide)]
theorem toks_2 {f o v : Int} {ks : List Tm} : toks (.mk 2 f o v ks) = toksA ks := by rw [toks, if_pos rfl]
theorem toks_3 {f o v : Int} {ks : List Tm} : toks (.mk 3 f o v ks) = toksO ks := by rw [toks, if_neg (by decide), if_pos rfl]
theorem toks_4 {f o v : Int} {ks : List Tm} : toks (.mk 4 f o v ks) = wNot :: toksN ks := by rw [toks, if_neg (by decide), if_neg (by decide), if_pos rfl]
theorem toks_1 {f o v : Int} {ks : List Tm} : toks (.mk 1 f o v ks) = [nth fieldL f, nth signL o, Lib.decDigits v.toNat] := by rw [toks, if_neg (by decide), if_neg (by decide), if_neg (by decide)]
/-- the text's tokens are the term's -/
theorem text_toks : ∀ t : Tm, wf t → Tk (text t) (toks t) := by
  refine ind fun k f o v ks ih h => ?_
  rw [wf] at h
  have hwk := wfL_iff.1 h.2
  have hand : Tk wAnd [wAnd] := Tk.words (by decide) (by decide)
  have hor : Tk wOr [wOr] := Tk.words (by decide) (by decide)
  rcases h.1 with ⟨rfl, h1, h2, h3, h4, h5, h6, rfl⟩ | ⟨hk, rfl, rfl, rfl, h2, h3⟩ | ⟨rfl, rfl, rfl, rfl, h2⟩
  · rw [text_1, toks_1]
    exact (Tk.words (field_w h1 h2).1 (field_w h1 h2).2).sp (sign_tk h3 h4 (Tk.words (dec_w _).1 (dec_w _).2))
  · rcases hk with rfl | rfl
    · rw [text_2, toks_2]
      have key : ∀ us : List Tm, us ≠ [] → (∀ t ∈ us, t ∈ ks) → Tk (textA us) (toksA us) := by
        intro us
        induction us with
        | nil => intro h; exact absurd rfl h
        | cons t ts ihu =>
          intro _ hs
          have ht := hs t List.mem_cons_self
          cases ts with
          | nil => rw [textA, toksA]; exact (ih t ht (hwk t ht)).par _
          | cons t2 ts =>
            rw [textA, toksA]
            exact ((ih t ht (hwk t ht)).par _).sp (hand.sp (ihu (by simp) fun u hu => hs u (List.mem_cons_of_mem _ hu)))
      exact key ks (by intro e; rw [e] at h2; simp at h2) fun t ht => ht
    · rw [text_3, toks_3]
      have key : ∀ us : List Tm, us ≠ [] → (∀ t ∈ us, t ∈ ks) → Tk (textO us) (toksO us) := by
        intro us
        induction us with
        | nil => intro h; exact absurd rfl h
        | cons t ts ihu =>
          intro _ hs
          have ht := hs t List.mem_cons_self
          cases ts with
          | nil => rw [textO, toksO]; exact ih t ht (hwk t ht)
          | cons t2 ts =>
            rw [textO, toksO]
            exact (ih t ht (hwk t ht)).sp (hor.sp (ihu (by simp) fun u hu => hs u (List.mem_cons_of_mem _ hu)))
      exact key ks (by intro e; rw [e] at h2; simp at h2) fun t ht => ht
  · match ks, h2 with
    | [t], _ =>
      have ht := List.mem_cons_self (a := t) (l := [])
      rw [text_4, toks_4, textN, toksN]
      have hn : Tk wNot [wNot] := Tk.words (by decide) (by decide)
      exact hn.sp ((ih t ht (hwk t ht)).par _)
theorem tokR_text {t : Tm} (h : wf t) : tokR (text t) = some (toks t) := by
  have := text_toks t h [] Cut.nil
  rw [List.append_nil, tokR_nil] at this
  rw [this]; simp
end Tm
end Go.Proofs.YtolkijelldlmeaaGreatDoor

namespace Go.Proofs.YtolkijelldlmeaaGreatDoor
open Go.RowKit Go.Proofs Go

namespace Tm
theorem cmpF_eats {a : Tok} {l r : List Tok} {t : Tm} (h : cmpF a l = some (t, r)) : r.length < l.length := by
  match l, h with
  | b :: c :: r', h =>
    rw [cmpF] at h
    split at h
    · cases h
    · injection h with h
      injection h with _ h
      subst h
      simp; omega
theorem closeF_eats {x : Option (Tm × List Tok)} {t : Tm} {r : List Tok} {k : Nat} (h : closeF x = some (t, r)) (hk : ∀ u s, x = some (u, s) → s.length < k) : r.length < k := by
  match x, h, hk with
  | some (u, b :: s), h, hk =>
    rw [closeF] at h
    split at h
    · injection h with h
      injection h with _ h
      subst h
      have := hk u (b :: s) rfl
      simp at this; omega
    · cases h
/-- each reading takes a token at least -/
theorem eats : ∀ n, (∀ w t r, partF n w = some (t, r) → r.length < w.length) ∧ (∀ b w ts r, itemsF n b w = some (ts, r) → r.length < w.length) ∧ (∀ b w t r, listF n b w = some (t, r) → r.length < w.length) := by
  intro n
  induction n with
  | zero => exact ⟨fun w t r h => (by rw [partF] at h; cases h), fun b w ts r h => (by rw [itemsF] at h; cases h), fun b w t r h => (by rw [listF] at h; cases h)⟩
  | succ n ih =>
    obtain ⟨ihp, ihi, ihl⟩ := ih
    refine ⟨fun w t r h => ?_, fun b w ts r h => ?_, fun b w t r h => ?_⟩
    · cases w with
      | nil => rw [partF] at h; cases h
      | cons a l =>
        rw [partF] at h
        split at h
        · obtain ⟨⟨u, s⟩, h1, h2⟩ := Option.map_eq_some_iff.1 h
          injection h2 with _ h2
          have h2 : s = r := h2
          subst h2
          have := ihp l u s h1
          simp; omega
        · split at h
          · have := closeF_eats h (k := l.length) fun u s e => ihl true l u s e
            simp; omega
          · have := cmpF_eats h
            simp; omega
    · rw [itemsF_succ] at h
      obtain ⟨⟨u, s⟩, h1, h2⟩ := Option.bind_eq_some_iff.1 h
      have hs : s.length < w.length := by
        unfold item at h1
        split at h1
        · exact ihl false w u s h1
        · exact ihp w u s h1
      have h2 : moreF b u s (itemsF n b) = some (ts, r) := h2
      cases s with
      | nil =>
        rw [moreF] at h2
        injection h2 with h2
        injection h2 with _ h2
        subst h2
        exact hs
      | cons a s' =>
        rw [moreF] at h2
        split at h2
        · obtain ⟨⟨us, s2⟩, h3, h4⟩ := Option.map_eq_some_iff.1 h2
          injection h4 with _ h4
          have h4 : s2 = r := h4
          subst h4
          have := ihi b s' us s2 h3
          simp at hs; omega
        · injection h2 with h2
          injection h2 with _ h2
          subst h2
          exact hs
    · rw [listF] at h
      obtain ⟨⟨us, s⟩, h1, h2⟩ := Option.map_eq_some_iff.1 h
      injection h2 with _ h2
      have h2 : s = r := h2
      subst h2
      exact ihi b w us s h1
theorem item_eats {n : Nat} {b : Bool} {w r : List Tok} {t : Tm} (h : item b n w = some (t, r)) : r.length < w.length := by
  unfold item at h
  split at h
  · exact (eats n).2.2 false w t r h
  · exact (eats n).1 w t r h
def fI (b : Bool) : Nat := if b then 4 else 2
def fL (b : Bool) : Nat := if b then 5 else 3
/-- with enough fuel, more of it changes nothing -/
theorem steady : ∀ n, (∀ w : List Tok, 6 * w.length + 1 ≤ n → partF (n + 1) w = partF n w) ∧ (∀ b (w : List Tok), 6 * w.length + fI b ≤ n → itemsF (n + 1) b w = itemsF n b w) ∧ (∀ b (w : List Tok), 6 * w.length + fL b ≤ n → listF (n + 1) b w = listF n b w) := by
  intro n
  induction n with
  | zero => exact ⟨fun w h => by omega, fun b w h => by cases b <;> simp [fI] at h, fun b w h => by cases b <;> simp [fL] at h⟩
  | succ n ih =>
    obtain ⟨ihp, ihi, ihl⟩ := ih
    refine ⟨fun w h => ?_, fun b w h => ?_, fun b w h => ?_⟩
    · cases w with
      | nil => rw [partF, partF]
      | cons a l =>
        rw [List.length_cons] at h
        rw [partF, partF, ihp l (by omega), ihl true l (by simp [fL]; omega)]
    · rw [itemsF_succ, itemsF_succ]
      have h1 : item b (n + 1) w = item b n w := by
        unfold item
        cases b with
        | true => exact ihl false w (by simp [fI, fL] at *; omega)
        | false => exact ihp w (by simp [fI] at h; omega)
      rw [h1]
      cases hx : item b n w with
      | none => rfl
      | some x =>
        obtain ⟨t, r⟩ := x
        have hr := item_eats hx
        show moreF b t r (itemsF (n + 1) b) = moreF b t r (itemsF n b)
        cases r with
        | nil => rfl
        | cons a r' =>
          rw [moreF, moreF, ihi b r' (by rw [List.length_cons] at hr; omega)]
    · rw [listF, listF, ihi b w (by cases b <;> simp [fI, fL] at * <;> omega)]
theorem steady_part {w : List Tok} {n : Nat} (h : 6 * w.length + 1 ≤ n) : partF n w = partF (6 * w.length + 1) w := by
  obtain ⟨k, rfl⟩ : ∃ k, n = 6 * w.length + 1 + k := ⟨n - (6 * w.length + 1), by omega⟩
  clear h
  induction k with
  | zero => rfl
  | succ k ih => rw [← Nat.add_assoc, (steady _).1 w (by omega), ih]
theorem steady_items {b : Bool} {w : List Tok} {n : Nat} (h : 6 * w.length + fI b ≤ n) : itemsF n b w = itemsF (6 * w.length + fI b) b w := by
  obtain ⟨k, rfl⟩ : ∃ k, n = 6 * w.length + fI b + k := ⟨n - (6 * w.length + fI b), by omega⟩
  clear h
  induction k with
  | zero => rfl
  | succ k ih => rw [← Nat.add_assoc, (steady _).2.1 b w (by omega), ih]
theorem steady_list {b : Bool} {w : List Tok} {n : Nat} (h : 6 * w.length + fL b ≤ n) : listF n b w = listF (6 * w.length + fL b) b w := by
  obtain ⟨k, rfl⟩ : ∃ k, n = 6 * w.length + fL b + k := ⟨n - (6 * w.length + fL b), by omega⟩
  clear h
  induction k with
  | zero => rfl
  | succ k ih => rw [← Nat.add_assoc, (steady _).2.2 b w (by omega), ih]
/-- what a part, the items of a list, a list of tokens are read as -/
def partT (w : List Tok) : Option (Tm × List Tok) := partF (6 * w.length + 1) w
def itemsT (b : Bool) (w : List Tok) : Option (List Tm × List Tok) := itemsF (6 * w.length + fI b) b w
def listT (b : Bool) (w : List Tok) : Option (Tm × List Tok) := listF (6 * w.length + fL b) b w
def itemT (b : Bool) (w : List Tok) : Option (Tm × List Tok) := if b then listT false w else partT w
theorem partT_nil : partT [] = none := rfl
theorem partT_cons (a : Tok) (l : List Tok) : partT (a :: l) = if a = wNot then (partT l).map fun x => (.mk 4 0 0 0 [x.1], x.2) else if a = wL then closeF (listT true l) else cmpF a l := by
  unfold partT listT
  rw [show 6 * (a :: l).length + 1 = (6 * l.length + 6) + 1 by rw [List.length_cons]; omega, partF, steady_part (n := 6 * l.length + 6) (by omega), steady_list (b := true) (n := 6 * l.length + 6) (by simp [fL])]
theorem listT_eq (b : Bool) (w : List Tok) : listT b w = (itemsT b w).map fun x => (joined (kindL b) x.1, x.2) := by
  unfold listT itemsT
  rw [show 6 * w.length + fL b = (6 * w.length + fI b) + 1 by cases b <;> simp [fL, fI], listF]
theorem itemT_eq {b : Bool} {w : List Tok} {n : Nat} (h : 6 * w.length + (if b then 3 else 1) ≤ n) : item b n w = itemT b w := by
  unfold item itemT listT partT
  cases b with
  | true => exact steady_list (b := false) (by simp [fL] at *; omega)
  | false => exact steady_part (by simp at h; omega)
theorem itemT_eats {b : Bool} {w r : List Tok} {t : Tm} (h : itemT b w = some (t, r)) : r.length < w.length := by
  rw [← itemT_eq (b := b) (w := w) (Nat.le_refl _)] at h
  exact item_eats h
theorem itemsT_eq (b : Bool) (w : List Tok) : itemsT b w = (itemT b w).bind fun x => moreF b x.1 x.2 (itemsT b) := by
  unfold itemsT
  rw [show 6 * w.length + fI b = (6 * w.length + (if b then 3 else 1)) + 1 by cases b <;> simp [fI], itemsF_succ, itemT_eq (Nat.le_refl _)]
  cases hx : itemT b w with
  | none => rfl
  | some x =>
    obtain ⟨t, r⟩ := x
    have hr := itemT_eats hx
    show moreF b t r _ = moreF b t r _
    cases r with
    | nil => rfl
    | cons a r' =>
      rw [moreF, moreF, steady_items (b := b) (w := r') (by rw [List.length_cons] at hr; cases b <;> simp [fI] <;> omega)]
theorem listT_of {b : Bool} {w : List Tok} {x : Tm × List Tok} (h : From (fun n => listF n b w) x) : listT b w = some x := by
  obtain ⟨N, h⟩ := h
  have : listF (max N (6 * w.length + fL b)) b w = some x := h (max N (6 * w.length + fL b)) (by omega)
  rw [steady_list (b := b) (w := w) (by omega)] at this
  exact this
/-- the term of a query's tokens -/
def readT (w : List Tok) : Option Tm := match listT true w with
  | some (t, []) => some t
  | _ => none
section
theorem readT_toks {t : Tm} (h : wf t) : readT (toks t) = some t := by rw [readT, listT_of (read_toks h)]
/-- a term in parentheses is a part -/
theorem part_in {t : Tm} (h : wf t) (r : List Tok) : From (fun n => partF n (wL :: (toks t ++ [wR]) ++ r)) (t, r) := part_par ((read_all t h).2.2 (wR :: r) (Ends.rp _ _))
theorem read_not {t : Tm} (h : wf t) : readT (wNot :: (wL :: (toks t ++ [wR]))) = some (.mk 4 0 0 0 [t]) := by
  have h1 : From (fun n => partF n (wNot :: (wL :: (toks t ++ [wR])))) (.mk 4 0 0 0 [t], []) := (part_in h []).map fun n hn => by
    have hn : partF n (wL :: (toks t ++ [wR]) ++ []) = some (t, []) := hn
    rw [List.append_nil] at hn
    show partF (n + 1) (wNot :: (wL :: (toks t ++ [wR]))) = _
    rw [partF, if_pos rfl, hn]; rfl
  have h2 := list_of (b := false) (items_last (b := false) h1 fun a r' e => by cases e)
  have h3 := list_of (b := true) (items_last (b := true) h2 fun a r' e => by cases e)
  rw [readT, listT_of h3]; rfl
theorem read_and {t u : Tm} (h : wf t) (hu : wf u) : readT (wL :: (toks t ++ [wR]) ++ wAnd :: (wL :: (toks u ++ [wR]))) = some (joined 2 [t, u]) := by
  have h1 := part_in h (wAnd :: (wL :: (toks u ++ [wR])))
  have h2 := part_in hu []
  rw [List.append_nil] at h2
  have h3 := items_more (b := false) h1 (items_last (b := false) h2 fun a r' e => by cases e)
  have h4 := list_of (b := true) (items_last (b := true) (list_of h3) fun a r' e => by cases e)
  rw [readT, listT_of h4]; rfl
theorem items_or {u : Tm} (hu : wf u) : ∃ us, From (fun n => itemsF n true (toks u)) (us, []) ∧ us ≠ [] ∧ ∀ g : Int → Int, us.any (holds g) = holds g u := by
  by_cases h3 : u.kind = 3
  · obtain ⟨k, f, o, v, ks⟩ := u
    have h3 : k = 3 := h3
    subst h3
    have hw := hu
    rw [wf] at hu
    have hwk := wfL_iff.1 hu.2
    rcases hu.1 with ⟨h, _⟩ | ⟨_, rfl, rfl, rfl, h2, hk⟩ | ⟨h, _⟩
    · omega
    · have hitem : ∀ t ∈ ks, ∀ r, Ends false r → From (fun n => listF n false (toks t ++ r)) (t, r) := fun t ht r hr => (read_all t (hwk t ht)).2.1 (hk t ht) r hr
      have hitems : ∀ us : List Tm, us ≠ [] → (∀ t ∈ us, t ∈ ks) → ∀ r, Ends true r → From (fun n => itemsF n true (toksO us ++ r)) (us, r) := by
        intro us
        induction us with
        | nil => intro h; exact absurd rfl h
        | cons t ts ihu =>
          intro _ hs r hr
          cases ts with
          | nil =>
            rw [toksO]
            exact items_last (b := true) (hitem t (hs t List.mem_cons_self) r hr.mono) fun a r' e => (hr a r' e).2 rfl
          | cons t2 ts =>
            rw [toksO, List.append_assoc]
            exact items_more (b := true) (hitem t (hs t List.mem_cons_self) (wOr :: (toksO (t2 :: ts) ++ r)) (Ends.or _)) (ihu (by simp) (fun u hu => hs u (List.mem_cons_of_mem _ hu)) r hr)
      have hne : ks ≠ [] := by intro e; rw [e] at h2; simp at h2
      refine ⟨ks, ?_, hne, fun g => by rw [holds_or]⟩
      have := hitems ks hne (fun t ht => ht) [] (Ends.nil _)
      rw [List.append_nil] at this
      rw [toks_3]
      exact this
    · omega
  · have h1 := (read_all u hu).2.1 h3 [] (Ends.nil _)
    rw [List.append_nil] at h1
    exact ⟨[u], items_last (b := true) h1 fun a r' e => (by cases e), by simp, fun g => by simp⟩
theorem read_or {t u : Tm} (h : wf t) (hu : wf u) : ∃ x, readT (wL :: (toks t ++ [wR]) ++ wOr :: toks u) = some x ∧ ∀ g : Int → Int, holds g x = (holds g t || holds g u) := by
  obtain ⟨us, h1, hne, h2⟩ := items_or hu
  have hp := part_in h (wOr :: toks u)
  have hl := list_of (b := false) (items_last (b := false) hp fun a r' e => by injection e with e1 _; rw [← e1]; decide)
  have hi := items_more (b := true) hl h1
  refine ⟨joined 3 (t :: us), by rw [readT, listT_of (list_of hi)]; rfl, fun g => ?_⟩
  rw [joined_or, List.any_cons, h2]
end
end Tm
end Go.Proofs.YtolkijelldlmeaaGreatDoor

namespace Go.Proofs.YtolkijelldlmeaaGreatDoor
open Go.RowKit Go.Proofs Go

namespace Tm
/-- the items so far, and what follows -/
def contT (b : Bool) (ts : List Tm) (r : List Tok) : Option (List Tm × List Tok) := match r with
  | [] => some (ts, [])
  | a :: r' => if a = word b then (itemsT b r').map fun x => (ts ++ x.1, x.2) else some (ts, a :: r')
theorem items_first {b : Bool} {w r : List Tok} {t : Tm} (h : itemT b w = some (t, r)) : itemsT b w = contT b [t] r := by
  rw [itemsT_eq, h]
  cases r with
  | nil => rfl
  | cons a r' =>
    show moreF b t (a :: r') (itemsT b) = _
    rw [moreF, contT]
    split
    · rfl
    · rfl
theorem items_none {b : Bool} {w : List Tok} (h : itemT b w = none) : itemsT b w = none := by rw [itemsT_eq, h]; rfl
theorem cont_none {b : Bool} {r : List Tok} {ts : List Tm} (h : itemT b r = none) : contT b ts (word b :: r) = none := by
  rw [contT, if_pos rfl, items_none h]; rfl
theorem cont_step {b : Bool} {r r2 : List Tok} {ts : List Tm} {t : Tm} (h : itemT b r = some (t, r2)) : contT b ts (word b :: r) = contT b (ts ++ [t]) r2 := by
  rw [contT, if_pos rfl, items_first h]
  cases r2 with
  | nil => rfl
  | cons a r' =>
    show (contT b [t] (a :: r')).map _ = contT b (ts ++ [t]) (a :: r')
    rw [contT, contT]
    split
    · rw [Option.map_map]
      congr 1
      funext x
      show (ts ++ ([t] ++ x.1), x.2) = (ts ++ [t] ++ x.1, x.2)
      rw [List.append_assoc]
    · rfl
theorem cont_stop {b : Bool} {r : List Tok} {ts : List Tm} (h : r.headD [] ≠ word b) : contT b ts r = some (ts, r) := by
  cases r with
  | nil => rfl
  | cons a r' => rw [contT, if_neg (show ¬ a = word b from h)]
theorem word_ne (b : Bool) : word b ≠ [] := by cases b <;> decide
/-- a comparison, by the words that are there or not -/
theorem cmpF_heads (a : Tok) (l : List Tok) : cmpF a l = if place fieldL a = 0 ∨ place signL (l.headD []) = 0 ∨ numF (l.tail.headD []) < 0 then none else some (.mk 1 (place fieldL a) (place signL (l.headD [])) (numF (l.tail.headD [])) [], l.tail.tail) := by
  match l with
  | [] =>
    rw [cmpF, if_pos (.inr (.inl (by decide)))]
    · intro b c r h; cases h
  | [b] =>
    rw [cmpF, if_pos (.inr (.inr (numF_neg.2 fun h => numeral_ne h.1 rfl)))]
    · intro b c r h; cases h
  | b :: c :: r => rw [cmpF]; rfl
theorem numF_ge {c : Tok} (h : 0 ≤ numF c) : Lib.atoiAll c = .ok (numF c) ∧ numF c ≤ 999999 ∧ dz (numF c) = c := by
  rw [numF] at *
  split at h
  · next hc =>
    obtain ⟨h1, h2⟩ := hc
    have e : dz (dval 0 c : Int) = c := by rw [dz, Int.toNat_natCast]; exact (numeral_iff.1 h1).symm
    rw [if_pos ⟨h1, h2⟩]
    refine ⟨?_, by omega, e⟩
    have := atoi_dz (n := (dval 0 c : Int)) (by omega) (by omega)
    rw [e] at this
    exact this
  · omega
theorem numF_of {c : Tok} {n : Int} (h0 : 0 ≤ n) (h1 : n ≤ 999999) (h : dz n = c) : numF c = n := by
  obtain ⟨m, rfl⟩ := Int.eq_ofNat_of_zero_le h0
  rw [← h, dz, Int.toNat_natCast]
  exact numF_dec (by omega)
/-- the place of a word among the names, the empty one first; -1: not there -/
def idxE (L : List Tok) (w : Tok) : Int := if w ∈ ([] :: L) then (([] :: L).idxOf w : Nat) else -1
theorem idxE_place {L : List Tok} {w : Tok} (hL : [] ∉ L) : (idxE L w < 1 ↔ place L w = 0) ∧ (place L w ≠ 0 → idxE L w = place L w) := by
  unfold idxE place
  by_cases hw : w = []
  · subst hw
    rw [if_pos (by simp), if_neg hL]
    simp
  · by_cases hm : w ∈ L
    · rw [if_pos (by simp [hm]), if_pos hm, List.idxOf_cons]
      have hb : (([] : Tok) == w) = false := beq_eq_false_iff_ne.2 (fun e => hw e.symm)
      rw [hb]
      simp
      omega
    · rw [if_neg (by simp [hw, hm]), if_neg hm]
      simp
theorem listT_items (b : Bool) {w : List Tok} {x : Option (List Tm × List Tok)} (h : itemsT b w = x) : listT b w = x.map fun x => (joined (kindL b) x.1, x.2) := by rw [listT_eq, h]
theorem joined_size (k : Int) (ts : List Tm) : (joined k ts).size ≤ 1 + sizeL ts ∧ (∀ t, ts = [t] → (joined k ts).size = sizeL ts) := by
  constructor
  · match ts with
    | [] => show size (.mk k 0 0 0 []) ≤ _; rw [size, sizeL]; omega
    | [t] => show size t ≤ _; rw [sizeL, sizeL]; omega
    | t :: u :: r =>
      rw [joined_two (by simp), size]
      have := sizeL_flat k (t :: u :: r)
      omega
  · rintro t rfl
    show size t = _
    rw [sizeL, sizeL]; omega
end Tm
end Go.Proofs.YtolkijelldlmeaaGreatDoor
