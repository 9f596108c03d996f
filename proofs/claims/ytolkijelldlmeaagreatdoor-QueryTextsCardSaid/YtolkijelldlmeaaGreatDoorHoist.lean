/- Regions that draw their order and make memory: the allocations are put off to the end; what else there is, is walked once, in a world that may grow. No program. -/
import Derived.Test.YtolkijelldlmeaaGreatDoorBL
import Derived.OrdersHeld
namespace Go.Proofs.YtolkijelldlmeaaGreatDoor
open Go.RowKit Go.Proofs Go

/-- w' is w with more memory -/
def Ext (w w' : World) : Prop := Below w.heap.size w w'
theorem Ext.refl (w : World) : Ext w w := Below.refl _ _
theorem Ext.trans {w w' w'' : World} (h : Ext w w') (h' : Ext w' w'') : Ext w w'' := bel_trans h h'

section
variable {P : Program} {ops : Array Oper} {Q : Exit → Act → World → Prop} {md : Region.Mode} {al late : List Nat}

/-- what may come up, the allocations aside -/
def rdy (md : Region.Mode) (ops : Array Oper) (al late : List Nat) (listed : Array Bool) : List Nat := (Region.ready md ops listed).filter fun i => !al.contains i && !late.contains i
theorem mem_rdy {listed : Array Bool} {i : Nat} : i ∈ rdy md ops al late listed ↔ i ∈ Region.ready md ops listed ∧ i ∉ al ∧ i ∉ late := by
  simp [rdy, List.mem_filter]
/-- the allocations' pointers in their slots -/
def putAll (dst g : Nat → Nat) : List Nat → Act → Act
  | [], a => a
  | i :: D, a => (putAll dst g D a).put (some (dst i)) (.pointer (some ⟨g i, 0, none⟩))
def setAll : List Nat → Array Bool → Array Bool
  | [], l => l
  | i :: D, l => (setAll D l).setIfInBounds i true
theorem setAll_size (D : List Nat) (l : Array Bool) : (setAll D l).size = l.size := by
  induction D with
  | nil => rfl
  | cons i D ih => simp [setAll, ih]
theorem setAll_getD {D : List Nat} {l : Array Bool} {k : Nat} {d : Bool} (hk : k < l.size) : (setAll D l).getD k d = (decide (k ∈ D) || l.getD k d) := by
  induction D with
  | nil => simp [setAll]
  | cons i D ih =>
    have hs := setAll_size D l
    by_cases hki : i = k
    · subst hki
      have : i < (setAll D l).size := by omega
      simp [setAll, this]
    · have h1 : ((setAll D l).setIfInBounds i true).getD k d = (setAll D l).getD k d := getD_set_ne d hki
      rw [setAll, h1, ih]
      simp [Ne.symm hki]
theorem setAll_comm (D : List Nat) (l : Array Bool) (j : Nat) : (setAll D l).setIfInBounds j true = setAll D (l.setIfInBounds j true) := by
  induction D with
  | nil => rfl
  | cons i D ih =>
    by_cases h : i = j
    · subst h
      rw [setAll, setAll, ← ih, ]
    · rw [setAll, setAll, ← ih, Array.setIfInBounds_comm _ _ h]

/-- blocks of the allocations -/
def Blocks (zt : Nat → Array Value × TypeId) (B : Nat) (g : Nat → Nat) (D : List Nat) (w : World) : Prop :=
  (∀ i ∈ D, B ≤ g i ∧ w.heap[g i]? = some (.cells (zt i).1 (zt i).2 (0, 0))) ∧ ∀ i ∈ D, ∀ j ∈ D, i ≠ j → g i ≠ g j
theorem Blocks.ext {zt : Nat → Array Value × TypeId} {B : Nat} {g : Nat → Nat} {D : List Nat} {w w' : World} (h : Blocks zt B g D w) (hb : Ext w w') : Blocks zt B g D w' :=
  ⟨fun i hi => ⟨(h.1 i hi).1, by
    have := (h.1 i hi).2
    rw [hb.block _ (Array.getElem?_eq_some_iff.1 this).1]; exact this⟩, h.2⟩

/-- behind all that is no allocation: whatever has been made, and wherever it lies -/
def End (P : Program) (md : Region.Mode) (ops : Array Oper) (Q : Exit → Act → World → Prop) (al : List Nat) (dst : Nat → Nat) (zt : Nat → Array Value × TypeId) (B r : Nat) (listed : Array Bool) (a : Act) (w : World) : Prop :=
  ∀ w' g m, Ext w w' → Blocks zt B g al w' → r ≤ m → wpAny P md ops Q m (setAll al listed) (putAll dst g al a) w'
/-- all orders of what is no allocation, each step in a world that may have grown -/
def wpX (P : Program) (md : Region.Mode) (ops : Array Oper) (Q : Exit → Act → World → Prop) (al late : List Nat) (dst : Nat → Nat) (zt : Nat → Array Value × TypeId) (B r : Nat) : Nat → Array Bool → Act → World → Prop
  | 0, listed, a, w => rdy md ops al late listed = [] ∧ End P md ops Q al dst zt B r listed a w
  | n + 1, listed, a, w => (rdy md ops al late listed = [] → End P md ops Q al dst zt B r listed a w) ∧
    ∀ i ∈ rdy md ops al late listed, ∀ w', Ext w w' → wpOp P ops Q i (fun a' w'' => Ext w' w'' ∧ wpX P md ops Q al late dst zt B r n (listed.setIfInBounds i true) a' w'') a w'
variable {dst : Nat → Nat} {zt : Nat → Array Value × TypeId} {B r : Nat}
theorem End.ext {listed : Array Bool} {a : Act} {w w' : World} (h : End P md ops Q al dst zt B r listed a w) (hb : Ext w w') : End P md ops Q al dst zt B r listed a w' :=
  fun w'' g m h1 => h w'' g m (hb.trans h1)
theorem wpX.ext : ∀ {n : Nat} {listed : Array Bool} {a : Act} {w w' : World}, wpX P md ops Q al late dst zt B r n listed a w → Ext w w' → wpX P md ops Q al late dst zt B r n listed a w'
  | 0, _, _, _, _, h, hb => ⟨h.1, h.2.ext hb⟩
  | _ + 1, _, _, _, _, h, hb => ⟨fun h0 => (h.1 h0).ext hb, fun i hi w'' h'' => h.2 i hi w'' (hb.trans h'')⟩

theorem rdy_mono {listed : Array Bool} {i j : Nat} (h : j ∈ rdy md ops al late listed) (hne : j ≠ i) : j ∈ rdy md ops al late (listed.setIfInBounds i true) := by
  rw [mem_rdy] at *
  exact ⟨ready_mono h.1 hne, h.2⟩
/-- what yields its value in every world that has grown out of this one may be taken first -/
theorem wpX_first {i : Nat} {oi : Oper} {v : Value} (hi : ops[i]? = some oi) (hsel : ∀ (j : Nat) (o : Oper) cs b, ops[j]? = some o → o.op ≠ .select cs b)
    (hQ : ∀ c a w, Q (.panic c) (a.put oi.dst v) w → Q (.panic c) a w) :
    ∀ (fuel : Nat) (listed : Array Bool) (a : Act) (w : World),
      (∀ j oj, ops[j]? = some oj → j ≠ i → listed.getD j true = false → (∀ e ∈ oj.after, Region.binds md e = true → e.on ≠ i) → oi.apart ops oj = true) →
      i ∈ rdy md ops al late listed → YieldsIf P ops (Ext w) oi v a →
      wpX P md ops Q al late dst zt B r fuel (listed.setIfInBounds i true) (a.put oi.dst v) w → wpX P md ops Q al late dst zt B r (fuel + 1) listed a w := by
  intro fuel
  induction fuel with
  | zero =>
    intro listed a w _ hr hy H
    refine ⟨fun h => (by rw [h] at hr; cases hr), fun j hj w' hw' => ?_⟩
    by_cases hji : j = i
    · subst hji; exact hy.wpOp hi hw' ⟨Ext.refl _, H.ext hw'⟩
    · have := rdy_mono hj hji
      rw [H.1] at this
      cases this
  | succ fuel ih =>
    intro listed a w hfree hr hy H
    refine ⟨fun h => (by rw [h] at hr; cases hr), fun j hj w' hw' => ?_⟩
    by_cases hji : j = i
    · subst hji; exact hy.wpOp hi hw' ⟨Ext.refl _, H.ext hw'⟩
    · have h1 := H.2 j (rdy_mono hj hji) w' hw'
      obtain ⟨hjun, oj, hoj, hall⟩ := mem_ready.1 (mem_rdy.1 hj).1
      have hri := (mem_rdy.1 hr).1
      have hnot : ∀ e ∈ oj.after, Region.binds md e = true → e.on ≠ i := fun e he hb heq => by
        have h1 := hall e he hb
        have h0 := (mem_ready.1 hri).1
        rw [heq] at h1
        rcases Nat.lt_or_ge i listed.size with h' | h'
        · simp [h'] at h0 h1; rw [h0] at h1; cases h1
        · simp [Array.getElem?_eq_none h'] at h1
      have h2 := wpOp_putIf hoj (hfree j oj hoj hji hjun hnot) (fun cs b => hsel i oi cs b hi) (fun cs b => hsel j oj cs b hoj) hQ hy h1
      have hfree' : ∀ k ok, ops[k]? = some ok → k ≠ i → (listed.setIfInBounds j true).getD k true = false →
          (∀ e ∈ ok.after, Region.binds md e = true → e.on ≠ i) → oi.apart ops ok = true := fun k ok hk hki hun hno => by
        refine hfree k ok hk hki ?_ hno
        by_cases hjk : j = k
        · subst hjk; exact hjun
        · rw [getD_set_ne true hjk] at hun; exact hun
      refine wpOp_mono (fun a' w'' h3 => ⟨h3.2.1, ih (listed.setIfInBounds j true) a' w'' hfree' (rdy_mono hr (Ne.symm hji)) ?_ ?_⟩) h2
      · exact h3.1.imp (fun ⟨x, y⟩ => ⟨x, fun u hu => y u (hw'.trans (h3.2.1.trans hu))⟩) id
      · rw [Array.setIfInBounds_comm _ _ hji]
        exact h3.2.2
theorem wpX_take {i : Nat} {oi : Oper} {v : Value} {fuel : Nat} {listed : Array Bool} {a : Act} {w : World} (hi : ops[i]? = some oi)
    (hs : Region.noSelect ops = true) (hf : Region.free md ops listed i = true) (hr : (rdy md ops al late listed).contains i = true)
    (hQ : ∀ c a w, Q (.panic c) (a.put oi.dst v) w → Q (.panic c) a w) (hy : YieldsIf P ops (Ext w) oi v a)
    (h : wpX P md ops Q al late dst zt B r fuel (listed.setIfInBounds i true) (a.put oi.dst v) w) : wpX P md ops Q al late dst zt B r (fuel + 1) listed a w :=
  wpX_first hi (Region.noSelect_spec hs) hQ fuel listed a w (Region.free_spec hi hf) (by simpa using hr) hy h
/-- the one operation that may come up -/
theorem wpX_step {i : Nat} {o : Oper} {fuel : Nat} {listed : Array Bool} {a : Act} {w : World} (hr : rdy md ops al late listed = [i]) (ho : ops[i]? = some o)
    (h : ∀ (w' : World) (K : Act → World → Prop), Ext w w' → Hid (∀ a' w'', Ext w' w'' → wpX P md ops Q al late dst zt B r fuel (listed.setIfInBounds i true) a' w'' → K a' w'') → if Region.wanted o (yielded ops a.tmps) = true then Oper.wp P o a w' K Q else K (a.put o.dst undef) w') : wpX P md ops Q al late dst zt B r (fuel + 1) listed a w := by
  refine ⟨fun h0 => (by rw [hr] at h0; cases h0), fun j hj w' hw' => ?_⟩
  rw [hr] at hj
  obtain rfl : j = i := by simpa using hj
  have := h w' (fun a' w'' => Ext w' w'' ∧ wpX P md ops Q al late dst zt B r fuel (listed.setIfInBounds j true) a' w'') hw' (Lib.hid fun _ _ h1 h2 => ⟨h1, h2⟩)
  unfold wpOp
  rw [ho]
  split at this
  · rename_i hw; simp only [hw, if_true]; exact .inl this
  · rename_i hw; simp only [hw]; exact this
theorem wpX_end {fuel : Nat} {listed : Array Bool} {a : Act} {w : World} (hr : rdy md ops al late listed = []) (h : End P md ops Q al dst zt B r listed a w) : wpX P md ops Q al late dst zt B r fuel listed a w := by
  cases fuel with
  | zero => exact ⟨hr, h⟩
  | succ n => exact ⟨fun _ => h, by rw [hr]; simp⟩

theorem wpOp_put1 {j : Nat} {oj : Oper} {d : Nat} {v : Value} (hj : ops[j]? = some oj) (h1 : d ∉ oj.looksAt ops) (h2 : oj.dst ≠ some d) (hsj : ∀ cs b, oj.op ≠ .select cs b)
    (hQ : ∀ c a w, Q (.panic c) a w → Q (.panic c) (a.put (some d) v) w) {K : Act → World → Prop} {a : Act} {w : World} (h : wpOp P ops Q j K a w) :
    wpOp P ops Q j (fun a' w' => ∃ a0, a' = a0.put (some d) v ∧ K a0 w') (a.put (some d) v) w := by
  have k1 : ∀ e, (some d : Option Tmp) = some e → e ∉ oj.looksAt ops := fun e he => by cases he; exact h1
  have k2 : ∀ e, (some d : Option Tmp) = some e → oj.dst ≠ some e := fun e he => by cases he; exact h2
  unfold wpOp at *
  simp only [hj] at *
  rw [wanted_put oj a (some d) v k1]
  split
  · rename_i hw
    simp only [hw, if_true] at h
    rcases h with h | ⟨hasks, hlets⟩
    case inr => exact .inr ⟨by unfold Oper.asks at *; rw [execOp_put oj hsj a (some d) v k1]; exact hasks, hlets⟩
    refine .inl ?_
    unfold Oper.wp at *
    rw [execOp_put oj hsj a (some d) v k1]
    generalize (execOp a.eval oj).run P w = r at *
    cases r with
    | ok n w' =>
      cases n <;> simp only [Oper.upon] at h ⊢
      case value u => exact ⟨_, Act.put_comm a v u k2, h⟩
      case skip => exact ⟨_, Act.put_comm a v undef k2, h⟩
      case defer e =>
        refine ⟨_, ?_, h⟩
        rw [Act.put_defers, Act.put_comm _ v undef k2]
      case enter f args =>
        refine Calls.mono h fun e w'' he => ?_
        cases e with
        | returned u => exact ⟨_, Act.put_comm a v u k2, he⟩
        | panicked c => exact hQ _ _ _ he
        | outgrown => exact he
      case row row args => exact Rows.mono h fun u w'' he => ⟨_, Act.put_comm a v u k2, he⟩
    | halt x w' =>
      cases x <;> simp only [Oper.upon] at h ⊢
      case panic u => exact hQ _ _ _ h
  · rename_i hw
    simp only [hw] at h
    exact ⟨_, Act.put_comm a v undef k2, h⟩
theorem wpOp_putAll {j : Nat} {oj : Oper} {g : Nat → Nat} (hj : ops[j]? = some oj) (hsj : ∀ cs b, oj.op ≠ .select cs b) (hQ : ∀ c a w d v, Q (.panic c) a w → Q (.panic c) (a.put d v) w) :
    ∀ (D : List Nat), (∀ i ∈ D, dst i ∉ oj.looksAt ops ∧ oj.dst ≠ some (dst i)) → ∀ {K : Act → World → Prop} {a : Act} {w : World}, wpOp P ops Q j K a w → wpOp P ops Q j (fun a' w' => ∃ a0, a' = putAll dst g D a0 ∧ K a0 w') (putAll dst g D a) w
  | [], _, _, _, _, h => wpOp_mono (fun a' _ hk => ⟨a', rfl, hk⟩) h
  | i :: D, hD, _, _, _, h => by
    have h1 := wpOp_putAll (g := g) hj hsj hQ D (fun k hk => hD k (List.mem_cons_of_mem _ hk)) h
    obtain ⟨e1, e2⟩ := hD i List.mem_cons_self
    refine wpOp_mono (fun a' w' hk => ?_) (wpOp_put1 (v := .pointer (some ⟨g i, 0, none⟩)) hj e1 e2 hsj (fun c a w => hQ c a w _ _) h1)
    obtain ⟨a0, rfl, a1, rfl, hk⟩ := hk
    exact ⟨a1, rfl, hk⟩

/-- operation j waits, perhaps by others, for operation i -/
def reach (md : Region.Mode) (ops : Array Oper) : Nat → Nat → Nat → Bool
  | 0, _, _ => false
  | f + 1, j, i => match ops[j]? with
    | none => false
    | some o => o.after.any fun e => Region.binds md e && (e.on == i || reach md ops f e.on i)
def depAl (md : Region.Mode) (ops : Array Oper) (al late : List Nat) (j : Nat) : Bool := late.contains j || match ops[j]? with
  | none => false
  | some o => o.after.any fun e => Region.binds md e && al.contains e.on
/-- what waits for an allocation waits for all of them, and for all that waits for none -/
def stOk (md : Region.Mode) (ops : Array Oper) (al late : List Nat) : Bool :=
  (List.range ops.size).all fun j => al.contains j || !depAl md ops al late j || (List.range ops.size).all fun i => (!al.contains i && depAl md ops al late i) || reach md ops ops.size j i
def apOk (md : Region.Mode) (ops : Array Oper) (al late : List Nat) : Bool :=
  al.all fun i => match ops[i]? with
    | none => false
    | some oi => (List.range ops.size).all fun j => j == i || (!al.contains j && depAl md ops al late j) || match ops[j]? with
      | none => true
      | some oj => oi.apart ops oj
def Closed (md : Region.Mode) (ops : Array Oper) (listed : Array Bool) : Prop := ∀ k o, ops[k]? = some o → listed.getD k false = true → ∀ e ∈ o.after, Region.binds md e = true → listed.getD e.on false = true
theorem reach_listed {listed : Array Bool} (hc : Closed md ops listed) : ∀ {f j i : Nat} {o : Oper}, ops[j]? = some o → (∀ e ∈ o.after, Region.binds md e = true → listed.getD e.on false = true) → reach md ops f j i = true → listed.getD i false = true
  | 0, _, _, _, _, _, h => by cases h
  | f + 1, j, i, o, ho, hall, h => by
    rw [reach, ho] at h
    obtain ⟨e, he, h⟩ := Array.any_eq_true'.1 h
    simp only [Bool.and_eq_true, Bool.or_eq_true, beq_iff_eq] at h
    obtain ⟨hb, h⟩ := h
    have h1 := hall e he hb
    rcases h with rfl | h
    · exact h1
    · cases ho' : ops[e.on]? with
      | none => cases f <;> simp [reach, ho'] at h
      | some o' => exact reach_listed hc ho' (fun e' he' hb' => hc e.on o' ho' h1 e' he' hb') h
theorem depAl_of {j : Nat} {o : Oper} (ho : ops[j]? = some o) {e : Edge} (he : e ∈ o.after) (hb : Region.binds md e = true) (h : e.on ∈ al) : depAl md ops al late j = true := by
  rw [depAl, ho, Bool.or_eq_true]
  exact .inr (Array.any_eq_true'.2 ⟨e, he, by simp [hb, h]⟩)
theorem setAll_perm {D E : List Nat} (h : D.Perm E) (l : Array Bool) : setAll D l = setAll E l := by
  induction h with
  | nil => rfl
  | cons x _ ih => rw [setAll, setAll, ih]
  | swap x y l' =>
    by_cases e : x = y
    · subst e; rfl
    · rw [setAll, setAll, setAll, setAll, Array.setIfInBounds_comm _ _ e]
  | trans _ _ ih1 ih2 => rw [ih1, ih2]
theorem putAll_perm {g : Nat → Nat} {D E : List Nat} (h : D.Perm E) (hd : ∀ i ∈ D, ∀ j ∈ D, i ≠ j → dst i ≠ dst j) (a : Act) : putAll dst g D a = putAll dst g E a := by
  induction h with
  | nil => rfl
  | cons x _ ih => rw [putAll, putAll, ih fun i hi j hj => hd i (List.mem_cons_of_mem _ hi) j (List.mem_cons_of_mem _ hj)]
  | swap x y l' =>
    by_cases e : x = y
    · subst e; rfl
    · rw [putAll, putAll, putAll, putAll, Act.put_comm _ _ _ (fun d hd' => by
        cases hd'
        have := hd x (by simp) y (by simp) e
        simp; exact fun h => this h.symm)]
  | trans h1 h2 ih1 ih2 => rw [ih1 hd, ih2 fun i hi j hj => hd i (h1.mem_iff.2 hi) j (h1.mem_iff.2 hj)]
theorem putAll_congr {g g' : Nat → Nat} {D : List Nat} (h : ∀ i ∈ D, g i = g' i) (a : Act) : putAll dst g D a = putAll dst g' D a := by
  induction D with
  | nil => rfl
  | cons i D ih => rw [putAll, putAll, ih fun k hk => h k (List.mem_cons_of_mem _ hk), h i List.mem_cons_self]

theorem wpX_sound (hsel : ∀ (j : Nat) (o : Oper) cs b, ops[j]? = some o → o.op ≠ .select cs b) (hnd : al.Nodup)
    (hal : ∀ i ∈ al, ∃ o, ops[i]? = some o ∧ o.guard = none ∧ o.dst = some (dst i) ∧ o.after = #[] ∧ ∀ (a : Act) (w : World), (execOp a.eval o).run P w = .ok (.value (.pointer (some ⟨w.heap.size, 0, none⟩))) (w.alloc (.cells (zt i).1 (zt i).2)))
    (hst : stOk md ops al late = true) (hap : apOk md ops al late = true) (hQ : ∀ c a w d v, Q (.panic c) a w → Q (.panic c) (a.put d v) w) :
    ∀ (m n : Nat) (listed : Array Bool) (a : Act) (w : World) (U D : List Nat) (g : Nat → Nat), al.Perm (U ++ D) → wpX P md ops Q al late dst zt B r n listed a w → (∀ i ∈ al, listed.getD i true = false) → listed.size = ops.size → Closed md ops listed →
      Blocks zt B g D w → B ≤ w.heap.size → n + U.length + r ≤ m → wpAny P md ops Q m (setAll D listed) (putAll dst g D a) w := by
  have hap' : ∀ i ∈ al, ∀ oi, ops[i]? = some oi → ∀ j oj, ops[j]? = some oj → j ≠ i → (j ∈ al ∨ depAl md ops al late j = false) → oi.apart ops oj = true := by
    intro i hi oi hoi j oj hoj hne hor
    have h1 := List.all_eq_true.1 hap i hi
    rw [hoi] at h1
    have h2 := List.all_eq_true.1 h1 j (List.mem_range.2 (Array.getElem?_eq_some_iff.1 hoj).1)
    rw [hoj] at h2
    simp only [Bool.or_eq_true, beq_iff_eq, Bool.and_eq_true, Bool.not_eq_true'] at h2
    rcases h2 with (h2 | ⟨h2, h3⟩) | h2
    · exact absurd h2 hne
    · rcases hor with h | h
      · simp [h] at h2
      · rw [h] at h3; cases h3
    · exact h2
  have hdist : ∀ i ∈ al, ∀ j ∈ al, i ≠ j → dst i ≠ dst j := by
    intro i hi j hj hne he
    obtain ⟨oi, hoi, _, hdi, _⟩ := hal i hi
    obtain ⟨oj, hoj, _, hdj, _⟩ := hal j hj
    have := (Oper.apart_spec (hap' i hi oi hoi j oj hoj (Ne.symm hne) (.inl hj))).2.1 _ hdi
    rw [hdj, he] at this
    exact this rfl
  have fin : ∀ {m n : Nat} {listed : Array Bool} {a : Act} {w : World} {D : List Nat} {g : Nat → Nat}, al.Perm D → wpX P md ops Q al late dst zt B r n listed a w → rdy md ops al late listed = [] → Blocks zt B g D w → r ≤ m → wpAny P md ops Q m (setAll D listed) (putAll dst g D a) w := by
    intro m n listed a w D g hp H hr hB hm
    have hE : End P md ops Q al dst zt B r listed a w := by
      cases n with
      | zero => exact H.2
      | succ n => exact H.1 hr
    rw [← setAll_perm hp, ← putAll_perm hp hdist]
    exact hE w g m (Ext.refl _) ⟨fun i hi => hB.1 i (hp.mem_iff.1 hi), fun i hi j hj => hB.2 i (hp.mem_iff.1 hi) j (hp.mem_iff.1 hj)⟩ hm
  intro m
  induction m with
  | zero =>
    intro n listed a w U D g hp H hun hsz hcl hB hBw hm
    have hU : U = [] := List.eq_nil_of_length_eq_zero (by omega)
    subst hU
    obtain rfl : n = 0 := by omega
    exact fin hp H H.1 hB (by omega)
  | succ m ih =>
    intro n listed a w U D g hp H hun hsz hcl hB hBw hm
    by_cases hfin : U = [] ∧ rdy md ops al late listed = []
    · obtain ⟨rfl, hr⟩ := hfin
      exact fin hp H hr hB (by omega)
    have hlt : ∀ {k : Nat} {o : Oper}, ops[k]? = some o → k < listed.size := fun h => by rw [hsz]; exact (Array.getElem?_eq_some_iff.1 h).1
    have hnd2 : (U ++ D).Nodup := hp.nodup_iff.1 hnd
    have hUD : ∀ i ∈ U, i ∉ D := fun i hi hd => (List.nodup_append.1 hnd2).2.2 i hi i hd rfl
    have hlD : ∀ {k : Nat} {o : Oper} {d : Bool}, ops[k]? = some o → (setAll D listed).getD k d = (decide (k ∈ D) || listed.getD k d) := fun h => setAll_getD (hlt h)
    have hDl : ∀ {k : Nat}, listed.getD k false = true → (setAll D listed).getD k false = true := by
      intro k hk
      have : k < listed.size := by
        rcases Nat.lt_or_ge k listed.size with h | h
        · exact h
        · simp [Array.getElem?_eq_none h] at hk
      rw [setAll_getD this, hk]; simp
    have hclD : Closed md ops (setAll D listed) := by
      intro k o ho hk e he hb
      rw [hlD ho] at hk
      simp only [Bool.or_eq_true, decide_eq_true_eq] at hk
      rcases hk with hk | hk
      · obtain ⟨o', ho', _, _, hno, _⟩ := hal k (hp.mem_iff.2 (List.mem_append_right _ hk))
        obtain rfl : o' = o := by rw [ho] at ho'; exact (Option.some.inj ho').symm
        rw [hno] at he; simp at he
      · exact hDl (hcl k o ho hk e he hb)
    refine ⟨fun h0 => ?_, fun j hj => ?_⟩
    · exfalso
      by_cases hU : U = []
      · have hr : rdy md ops al late listed ≠ [] := fun e => hfin ⟨hU, e⟩
        obtain ⟨i, hi⟩ := List.exists_mem_of_ne_nil _ hr
        obtain ⟨hi1, hi2⟩ := mem_rdy.1 hi
        obtain ⟨u1, o, ho, u2⟩ := mem_ready.1 hi1
        have : i ∈ Region.ready md ops (setAll D listed) := mem_ready.2 ⟨by rw [hlD ho, u1]; simp; exact fun hd => hi2.1 (hp.mem_iff.2 (List.mem_append_right _ hd)), o, ho, fun e he hb => hDl (u2 e he hb)⟩
        rw [h0] at this; cases this
      · obtain ⟨i, hi⟩ := List.exists_mem_of_ne_nil _ hU
        have hia := hp.mem_iff.2 (List.mem_append_left D hi)
        obtain ⟨o, ho, _, _, hno, _⟩ := hal i hia
        have : i ∈ Region.ready md ops (setAll D listed) := mem_ready.2 ⟨by rw [hlD ho, hun i hia]; simp; exact hUD i hi, o, ho, fun e he => by rw [hno] at he; simp at he⟩
        rw [h0] at this; cases this
    · obtain ⟨hjun, oj, hoj, hall⟩ := mem_ready.1 hj
      rw [hlD hoj] at hjun
      simp only [Bool.or_eq_false_iff, decide_eq_false_iff_not] at hjun
      obtain ⟨hjD, hjl⟩ := hjun
      by_cases hja : j ∈ al
      · -- an allocation
        have hjU : j ∈ U := by
          rcases List.mem_append.1 (hp.mem_iff.1 hja) with h | h
          · exact h
          · exact absurd h hjD
        obtain ⟨o, ho, hg, hd, hno, hrun⟩ := hal j hja
        obtain rfl : o = oj := by rw [ho] at hoj; exact Option.some.inj hoj
        have hnext : wpAny P md ops Q m (setAll (j :: D) listed) (putAll dst (fun k => if k = j then w.heap.size else g k) (j :: D) a) (w.alloc (.cells (zt j).1 (zt j).2)) := by
          have hE : Ext w (w.alloc (.cells (zt j).1 (zt j).2)) := below_alloc _ _
          have hpU : U.Perm (j :: U.erase j) := List.perm_cons_erase hjU
          have hlen := hpU.length_eq
          simp only [List.length_cons] at hlen
          refine ih n listed a _ (U.erase j) (j :: D) _ ?_ (H.ext hE) hun hsz hcl ⟨?_, ?_⟩ (by simp; omega) (by omega)
          · exact hp.trans ((hpU.append_right D).trans List.perm_middle.symm)
          · intro i hi
            by_cases hij : i = j
            · subst hij
              simp only [if_true]
              exact ⟨hBw, heap_alloc_new w _⟩
            · simp only [if_neg hij]
              have hi' : i ∈ D := by simpa [hij] using hi
              exact (hB.ext hE).1 i hi'
          · intro i hi k hk hne
            have hlt2 : ∀ i ∈ D, g i < w.heap.size := fun i hi => (Array.getElem?_eq_some_iff.1 (hB.1 i hi).2).1
            by_cases hij : i = j
            · subst hij
              have hkj : k ≠ i := Ne.symm hne
              simp only [if_true, if_neg hkj]
              have := hlt2 k (by simpa [hkj] using hk)
              omega
            · by_cases hkj : k = j
              · subst hkj
                simp only [if_true, if_neg hij]
                have := hlt2 i (by simpa [hij] using hi)
                omega
              · simp only [if_neg hij, if_neg hkj]
                exact hB.2 i (by simpa [hij] using hi) k (by simpa [hkj] using hk) hne
        unfold wpOp
        simp only [ho]
        rw [if_pos (by simp [Region.wanted, hg])]
        refine .inl ?_
        unfold Oper.wp
        rw [hrun]
        simp only [Oper.upon]
        rw [putAll, setAll] at hnext
        simp only [if_true] at hnext
        rw [putAll_congr (g := fun k => if k = j then w.heap.size else g k) (g' := g) (D := D) (fun i hi => if_neg (fun (e : i = j) => hjD (by rw [← e]; exact hi)))] at hnext
        rw [hd]
        exact hnext
      · by_cases hdep : depAl md ops al late j = true
        · -- it waits for all
          exfalso
          have h1 := List.all_eq_true.1 hst j (List.mem_range.2 (Array.getElem?_eq_some_iff.1 hoj).1)
          simp only [Bool.or_eq_true, Bool.not_eq_true', hdep] at h1
          have h2 : ∀ i < ops.size, (i ∈ al ∨ depAl md ops al late i = false) → (setAll D listed).getD i false = true := by
            intro i hi hor
            rcases h1 with (h1 | h1) | h1
            · simp [hja] at h1
            · cases h1
            · have h3 := List.all_eq_true.1 h1 i (List.mem_range.2 hi)
              simp only [Bool.or_eq_true, Bool.and_eq_true, Bool.not_eq_true'] at h3
              rcases h3 with ⟨h3, h4⟩ | h3
              · rcases hor with h | h
                · simp [h] at h3
                · rw [h] at h4; cases h4
              · exact reach_listed hclD hoj hall h3
          refine hfin ⟨?_, ?_⟩
          · refine List.eq_nil_iff_forall_not_mem.2 fun i hi => ?_
            have hia := hp.mem_iff.2 (List.mem_append_left D hi)
            obtain ⟨o, ho, _⟩ := hal i hia
            have h3 := h2 i (Array.getElem?_eq_some_iff.1 ho).1 (.inl hia)
            rw [hlD ho] at h3
            have h4 := hun i hia
            have h5 : listed.getD i false = false := by
              have := hlt ho
              simp [this] at h4 ⊢; exact h4
            rw [h5] at h3
            simp at h3
            exact hUD i hi h3
          · refine List.eq_nil_iff_forall_not_mem.2 fun i hi => ?_
            obtain ⟨hi1, hi2⟩ := mem_rdy.1 hi
            obtain ⟨u1, o, ho, u2⟩ := mem_ready.1 hi1
            have hnodep : depAl md ops al late i = false := by
              rw [← Bool.not_eq_true]
              intro hd
              rw [depAl, ho, Bool.or_eq_true] at hd
              have hd := hd.resolve_left (by simpa using hi2.2)
              obtain ⟨e, he, hd⟩ := Array.any_eq_true'.1 hd
              simp only [Bool.and_eq_true, List.contains_iff_mem] at hd
              have k1 := u2 e he hd.1
              have k2 := hun e.on hd.2
              rcases Nat.lt_or_ge e.on listed.size with h' | h'
              · simp [h'] at k1 k2; rw [k1] at k2; cases k2
              · simp [Array.getElem?_eq_none h'] at k1
            have h3 := h2 i (Array.getElem?_eq_some_iff.1 ho).1 (.inr hnodep)
            rw [hlD ho] at h3
            have h5 : listed.getD i false = false := by
              have := hlt ho
              simp [this] at u1 ⊢; exact u1
            rw [h5] at h3
            simp at h3
            exact hi2.1 (hp.mem_iff.2 (List.mem_append_right _ h3))
        · -- any other
          have hdep' : depAl md ops al late j = false := by simpa using hdep
          have hjr : j ∈ rdy md ops al late listed := mem_rdy.2 ⟨mem_ready.2 ⟨hjl, oj, hoj, fun e he hb => by
            have h1 := hall e he hb
            have hea : e.on ∉ al := fun h => hdep (depAl_of hoj he hb h)
            rcases Nat.lt_or_ge e.on listed.size with h' | h'
            · rw [setAll_getD h'] at h1
              have : e.on ∉ D := fun h => hea (hp.mem_iff.2 (List.mem_append_right _ h))
              simpa [this] using h1
            · have : (setAll D listed).size ≤ e.on := by rw [setAll_size]; exact h'
              simp [Array.getElem?_eq_none this] at h1⟩, hja, fun hl => by
            have : depAl md ops al late j = true := by rw [depAl, Bool.or_eq_true]; exact .inl (by simpa using hl)
            rw [this] at hdep'; cases hdep'⟩
          cases n with
          | zero => rw [H.1] at hjr; cases hjr
          | succ n =>
            have h1 := H.2 j hjr w (Ext.refl _)
            have h2 := wpOp_putAll (dst := dst) (g := g) hoj (fun cs b => hsel j oj cs b hoj) hQ D (fun i hi => by
              have hia := hp.mem_iff.2 (List.mem_append_right U hi)
              obtain ⟨oi, hoi, _, hdi, _⟩ := hal i hia
              have hs := Oper.apart_spec (hap' i hia oi hoi j oj hoj (fun (e : j = i) => hja (by rw [e]; exact hia)) (.inr hdep'))
              exact ⟨hs.1 _ hdi, hs.2.1 _ hdi⟩) h1
            refine wpOp_mono (fun a' w' hk => ?_) h2
            obtain ⟨a0, rfl, hE, hk⟩ := hk
            rw [setAll_comm]
            refine ih n _ a0 w' U D g hp hk (fun i hi => ?_) (by simp [hsz]) ?_ (hB.ext hE) (Nat.le_trans hBw hE.size) (by omega)
            · rw [getD_set_ne true (fun (e : j = i) => hja (by rw [e]; exact hi))]; exact hun i hi
            · intro k o ho hk2 e he hb
              by_cases hkj : j = k
              · subst hkj
                obtain rfl : oj = o := by rw [ho] at hoj; exact (Option.some.inj hoj).symm
                obtain ⟨_, o', ho', h3⟩ := mem_ready.1 (mem_rdy.1 hjr).1
                obtain rfl : o' = oj := by rw [ho] at ho'; exact (Option.some.inj ho').symm
                exact getD_set_true (h3 e he hb)
              · rw [getD_set_ne false hkj] at hk2
                exact getD_set_true (hcl k o ho hk2 e he hb)

/-- a region that makes memory -/
theorem wp_region_x {id n sz : Nat} {a : Act} {w : World} (hm : P.follows .mixedOrders = true) (hs : Region.noSelect ops = true) (hnd : al.Nodup)
    (hal : ∀ i ∈ al, ∃ o, ops[i]? = some o ∧ o.guard = none ∧ o.dst = some (dst i) ∧ o.after = #[] ∧ ∀ (a : Act) (w : World), (execOp a.eval o).run P w = .ok (.value (.pointer (some ⟨w.heap.size, 0, none⟩))) (w.alloc (.cells (zt i).1 (zt i).2)))
    (hst : stOk .any ops al late = true) (hap : apOk .any ops al late = true) (hQ : ∀ c a w d v, Q (.panic c) a w → Q (.panic c) (a.put d v) w) (hsz : ops.size = sz) (hn : n + al.length + r = sz) (hB : B ≤ w.heap.size)
    (h : wpX P .any ops Q al late dst zt B r n (Array.replicate sz false) a w.drew) : (Code.region id ops true).wp P Q a w := by
  subst hsz
  refine wp_region_any hm ?_
  have := wpX_sound (Region.noSelect_spec hs) hnd hal hst hap hQ ops.size n (Array.replicate ops.size false) a w.drew al [] (fun _ => 0) (by simp) h (fun i hi => ?_) (by simp) (fun k o ho hk => ?_) ⟨by simp, by simp⟩ hB (by omega)
  · exact this
  · obtain ⟨o, ho, _⟩ := hal i hi
    have := (Array.getElem?_eq_some_iff.1 ho).1
    simp [this]
  · rcases Nat.lt_or_ge k ops.size with h' | h'
    · simp [h'] at hk
    · simp [Array.getElem?_eq_none (show (Array.replicate ops.size false).size ≤ k by simpa using h')] at hk
/-- behind the allocations: the next operation -/
theorem wpAny_step {i m : Nat} {o : Oper} {listed : Array Bool} {a : Act} {w : World} (hr : Region.ready md ops listed = [i]) (ho : ops[i]? = some o) (hm : 0 < m)
    (h : ∀ K : Act → World → Prop, Hid (∀ a' w', wpAny P md ops Q (m - 1) (listed.setIfInBounds i true) a' w' → K a' w') → if Region.wanted o (yielded ops a.tmps) = true then Oper.wp P o a w K Q else K (a.put o.dst undef) w) : wpAny P md ops Q m listed a w := by
  obtain ⟨k, rfl⟩ : ∃ k, m = k + 1 := ⟨m - 1, by omega⟩
  refine ⟨fun h0 => (by rw [hr] at h0; cases h0), fun j hj => ?_⟩
  rw [hr] at hj
  obtain rfl : j = i := by simpa using hj
  have := h (wpAny P md ops Q k (listed.setIfInBounds j true)) (Lib.hid fun _ _ h => h)
  unfold wpOp
  rw [ho]
  split at this
  · rename_i hw; simp only [hw, if_true]; exact .inl this
  · rename_i hw; simp only [hw]; exact this
end
section
variable {w W W' : World} {L : List (Nat × Array Value × TypeId)}
theorem BL.add (h : BL w W L) {g : Nat} {c : Array Value} {T : TypeId} (hg : W.heap[g]? = some (.cells c T (0, 0))) : BL w W (L ++ [(g, c, T)]) := by
  refine ⟨h.below, fun i p hp => ?_⟩
  by_cases hi : i < L.length
  · rw [List.getElem?_append_left hi] at hp; exact h.blk i p hp
  · have hi2 : i = L.length := by
      have := (List.getElem?_eq_some_iff.1 hp).1
      simp at this
      omega
    subst hi2
    simp at hp
    subst hp
    exact hg
theorem BL.set1 (h : BL w W L) (i : Nat) {g : Nat} {c : Array Value} {T : TypeId} (hp : L[i]? = some (g, c, T)) (hg : w.heap.size ≤ g) (hne : ∀ (k : Nat) (p : Nat × Array Value × TypeId), L[k]? = some p → k ≠ i → p.1 ≠ g) (j : Nat) (v : Value) :
    BL w (W.setCell ⟨g, j, none⟩ v) (L.set i (g, c.setIfInBounds j v, T)) := by
  have hi := (List.getElem?_eq_some_iff.1 hp).1
  refine ⟨h.below.setCell hg v, fun k p hk => ?_⟩
  by_cases hki : i = k
  · subst hki
    rw [List.getElem?_set_self hi] at hk
    obtain rfl := Option.some.inj hk
    exact heap_setCell_same W g j c T v (h.blk i _ hp)
  · rw [List.getElem?_set_ne hki] at hk
    rw [Below.heap_setCell _ _ _ _ (hne k p hk (Ne.symm hki))]
    exact h.blk k p hk
theorem BL.put3 (h : BL w W L) (i : Nat) {g : Nat} {u0 u1 u2 : Value} {T : TypeId} (hp : L[i]? = some (g, #[u0, u1, u2], T)) (hg : w.heap.size ≤ g) (hne : ∀ (k : Nat) (p : Nat × Array Value × TypeId), L[k]? = some p → k ≠ i → p.1 ≠ g) (v0 v1 v2 : Value) :
    BL w (((W.setCell ⟨g, 0, none⟩ v0).setCell ⟨g, 1, none⟩ v1).setCell ⟨g, 2, none⟩ v2) (L.set i (g, #[v0, v1, v2], T)) := by
  have hi := (List.getElem?_eq_some_iff.1 hp).1
  have n2 : ∀ {x : Nat × Array Value × TypeId}, ∀ (k : Nat) (p : Nat × Array Value × TypeId), (L.set i x)[k]? = some p → k ≠ i → p.1 ≠ g := fun {x} k p hk hki => by
    rw [List.getElem?_set_ne (Ne.symm hki)] at hk; exact hne k p hk hki
  have h1 := h.set1 i hp hg hne 0 v0
  have h2 := h1.set1 i (by rw [List.getElem?_set_self hi]) hg n2 1 v1
  rw [List.set_set] at h2
  have h3 := h2.set1 i (by rw [List.getElem?_set_self hi]) hg n2 2 v2
  rw [List.set_set] at h3
  exact h3
theorem BL.keep3 (h : BL w W L) (i : Nat) {g : Nat} {u0 u1 u2 : Value} {T : TypeId} (hp : L[i]? = some (g, #[u0, u1, u2], T)) (h0 : Value.noInt u0 = true) (h1 : Value.noInt u1 = true) (h2 : Value.noInt u2 = true) (hg : w.heap.size ≤ g) (v0 v1 v2 : Value) :
    Keep W (((W.setCell ⟨g, 0, none⟩ v0).setCell ⟨g, 1, none⟩ v1).setCell ⟨g, 2, none⟩ v2) := (set3 (h.blk i _ hp) h0 h1 h2 h.below hg v0 v1 v2).2.2.2.2.1
theorem BL.put1 (h : BL w W L) (i : Nat) {g : Nat} {u0 : Value} {T : TypeId} (hp : L[i]? = some (g, #[u0], T)) (hg : w.heap.size ≤ g) (hne : ∀ (k : Nat) (p : Nat × Array Value × TypeId), L[k]? = some p → k ≠ i → p.1 ≠ g) (v0 : Value) :
    BL w (W.setCell ⟨g, 0, none⟩ v0) (L.set i (g, #[v0], T)) := h.set1 i hp hg hne 0 v0
theorem BL.keep1 (h : BL w W L) (i : Nat) {g : Nat} {u0 : Value} {T : TypeId} (hp : L[i]? = some (g, #[u0], T)) (h0 : Value.noInt u0 = true) (v0 : Value) :
    Keep W (W.setCell ⟨g, 0, none⟩ v0) := (Keep.refl W).box (cell_of (h.blk i _ hp) 0) h0 v0
end
end Go.Proofs.YtolkijelldlmeaaGreatDoor
