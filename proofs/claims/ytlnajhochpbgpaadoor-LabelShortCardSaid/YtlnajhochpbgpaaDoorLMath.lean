/- Plain: labels and lists of numbers, their texts, and what the readers find in a text. -/
import Derived.Test.YtlnajhochpbgpaaDoorDz0
import Derived.Lib.Join
namespace Go.Proofs.YtlnajhochpbgpaaDoor

/-- a valid label -/
def LOk (a b c : Int) : Prop := (0 ≤ a ∧ a ≤ 1) ∧ (1 ≤ b ∧ b ≤ 999) ∧ (0 ≤ c ∧ c ≤ 9)
def sideB (a : Int) : UInt8 := if a = 0 then 79 else 82
def stateT (c : Int) : List UInt8 := if c = 0 then [] else [UInt8.ofNat (96 + c.toNat)]
/-- the text of a label -/
def labT (a b c : Int) : List UInt8 := sideB a :: (dz b ++ stateT c)
/-- what stands ahead of the state, and the state -/
def lrest (r : List UInt8) : List UInt8 × Int :=
  match r.getLast? with
  | some x => if 97 ≤ x.toNat ∧ x.toNat ≤ 105 then (r.dropLast, (x.toNat : Int) - 96) else (r, 0)
  | none => (r, 0)
theorem lrest_state (r : List UInt8) (x : UInt8) (h : 97 ≤ x.toNat ∧ x.toNat ≤ 105) : lrest (r ++ [x]) = (r, (x.toNat : Int) - 96) := by
  rw [lrest, List.getLast?_concat]; simp [h]
theorem lrest_none (r : List UInt8) (x : UInt8) (h : ¬ (97 ≤ x.toNat ∧ x.toNat ≤ 105)) : lrest (r ++ [x]) = (r ++ [x], 0) := by
  rw [lrest, List.getLast?_concat]; simp only [if_neg h]
theorem snoc_of {r : List UInt8} (h : r ≠ []) : ∃ q x, r = q ++ [x] := ⟨r.dropLast, r.getLast h, (List.dropLast_concat_getLast h).symm⟩
theorem lrest_text {b c : Int} (hc : 0 ≤ c ∧ c ≤ 9) : lrest (dz b ++ stateT c) = (dz b, c) := by
  rw [stateT]
  split
  · next h =>
    subst h
    rw [List.append_nil]
    obtain ⟨q, x, hq⟩ := snoc_of (dz_ne b)
    have ha := dz_all b
    rw [hq, List.all_append, Bool.and_eq_true] at ha
    have hx : isDig x = true := by simpa using ha.2
    rw [isDig_iff] at hx
    rw [hq, lrest_none _ _ (by omega)]
  · next h =>
    have e : (UInt8.ofNat (96 + c.toNat)).toNat = 96 + c.toNat := by rw [UInt8.toNat_ofNat']; omega
    rw [lrest_state _ _ (by rw [e]; omega), e]
    congr 1; omega
theorem sideB_inj {a a' : Int} (h : 0 ≤ a ∧ a ≤ 1) (h' : 0 ≤ a' ∧ a' ≤ 1) (e : sideB a = sideB a') : a = a' := by
  rw [sideB, sideB] at e
  by_cases h0 : a = 0 <;> by_cases h1 : a' = 0 <;> simp [h0, h1] at e <;> omega
theorem labT_inj {a b c a' b' c' : Int} (h : LOk a b c) (h' : LOk a' b' c') (e : labT a b c = labT a' b' c') : a = a' ∧ b = b' ∧ c = c' := by
  rw [labT, labT] at e
  injection e with e1 e2
  have e3 := congrArg lrest e2
  rw [lrest_text h.2.2, lrest_text h'.2.2] at e3
  injection e3 with e4 e5
  exact ⟨sideB_inj h.1 h'.1 e1, dz_inj (by have := h.2.1; omega) (by have := h'.2.1; omega) e4, e5⟩
theorem labT_len {a b c : Int} (h : LOk a b c) : (labT a b c).length ≤ 5 := by
  have h1 : (dz b).length ≤ 3 := dz_len (by have := h.2.1; omega) (by omega) (by have := h.2.1; omega)
  rw [labT, stateT]; split <;> simp <;> omega
/-- what a reader of labels returns -/
def PL (L : List UInt8) (a b c E : Int) : Prop :=
  (E = 0 ∧ LOk a b c ∧ labT a b c = L) ∨ (E = 3 ∧ (a = 0 ∧ b = 0 ∧ c = 0) ∧ ∀ a b c, LOk a b c → labT a b c ≠ L)
theorem PL.ex (L : List UInt8) : ∃ a b c E, PL L a b c E := by
  by_cases h : ∃ a b c, LOk a b c ∧ labT a b c = L
  · obtain ⟨a, b, c, h1, h2⟩ := h
    exact ⟨a, b, c, 0, .inl ⟨rfl, h1, h2⟩⟩
  · exact ⟨0, 0, 0, 3, .inr ⟨rfl, ⟨rfl, rfl, rfl⟩, fun a b c h1 h2 => h ⟨a, b, c, h1, h2⟩⟩⟩
theorem PL.of {L : List UInt8} {a b c E a' b' c' : Int} (h : PL L a b c E) (h1 : LOk a' b' c') (h2 : labT a' b' c' = L) : a = a' ∧ b = b' ∧ c = c' ∧ E = 0 := by
  rcases h with ⟨e, h3, h4⟩ | ⟨_, _, h3⟩
  · obtain ⟨e1, e2, e3⟩ := labT_inj h3 h1 (h4.trans h2.symm)
    exact ⟨e1, e2, e3, e⟩
  · exact absurd h2 (h3 _ _ _ h1)
theorem PL.not {L : List UInt8} {a b c E : Int} (h : PL L a b c E) (h1 : ∀ a b c, LOk a b c → labT a b c ≠ L) : a = 0 ∧ b = 0 ∧ c = 0 ∧ E = 3 := by
  rcases h with ⟨_, h3, h4⟩ | ⟨e, ⟨e1, e2, e3⟩, _⟩
  · exact absurd h4 (h1 _ _ _ h3)
  · exact ⟨e1, e2, e3, e⟩
/-- the text that the implementation reads from is that of one label at most -/
theorem labT_cand {a b c : Int} (h : LOk a b c) {x : UInt8} {r : List UInt8} (e : labT a b c = x :: r) : x = sideB a ∧ lrest r = (dz b, c) ∧ Lib.atoiAll (dz b) = .ok b ∧ numK 3 r 0 = (b.toNat, stateT c) := by
  rw [labT] at e
  injection e with e1 e2
  have hb := h.2.1
  refine ⟨e1.symm, by rw [← e2, lrest_text h.2.2], atoi_dz (by omega) (by omega), ?_⟩
  rw [← e2]
  refine numK_dz (by omega) (by omega) (by omega) fun y r' hy => ?_
  rw [stateT] at hy
  split at hy
  · cases hy
  · injection hy with hy _
    rw [Bool.eq_false_iff]
    intro h2
    rw [isDig_iff] at h2
    have e3 : (UInt8.ofNat (96 + c.toNat)).toNat = 96 + c.toNat := by rw [UInt8.toNat_ofNat']; have := h.2.2; omega
    rw [← hy, e3] at h2
    omega
/-- entry i is in range, and greater than the one before -/
def AscAt (l : List Int) (i : Nat) : Prop := ∀ x, l[i]? = some x → (1 ≤ x ∧ x ≤ 999) ∧ ∀ j y, i = j + 1 → l[j]? = some y → y < x
def Asc (l : List Int) : Prop := ∀ i, AscAt l i
theorem Asc.nil : Asc [] := fun i x h => by simp at h
theorem Asc.tail {x : Int} {l : List Int} (h : Asc (x :: l)) : Asc l := fun i y hy => by
  obtain ⟨a, b⟩ := h (i + 1) y (by simpa using hy)
  exact ⟨a, fun j z hj hz => b (j + 1) z (by omega) (by simpa using hz)⟩
theorem Asc.head {x : Int} {l : List Int} (h : Asc (x :: l)) : 1 ≤ x ∧ x ≤ 999 := (h 0 x rfl).1
theorem Asc.next {x y : Int} {l : List Int} (h : Asc (x :: y :: l)) : x < y := (h 1 y rfl).2 0 x rfl rfl
theorem Asc.cons {x : Int} {l : List Int} (h : Asc l) (h1 : 1 ≤ x ∧ x ≤ 999) (h2 : ∀ y, l.head? = some y → x < y) : Asc (x :: l) := fun i z hz => by
  match i, hz with
  | 0, hz => simp at hz; subst hz; exact ⟨h1, fun j y hj => absurd hj (by omega)⟩
  | i + 1, hz =>
    obtain ⟨a, b⟩ := h i z (by simpa using hz)
    refine ⟨a, fun j y hj hy => ?_⟩
    obtain rfl : j = i := by omega
    match j, hy with
    | 0, hy => simp at hy; subst hy; exact h2 z (by rw [List.head?_eq_getElem?]; simpa using hz)
    | j + 1, hy => exact b j y rfl (by simpa using hy)
theorem Asc.ge : ∀ {l : List Int} {m : Int}, Asc l → (∀ y, l.head? = some y → m ≤ y) → ∀ (i : Nat) (x : Int), l[i]? = some x → m + (i : Int) ≤ x
  | [], m, _, _, i, x, hx => by simp at hx
  | y :: l, m, h, hm, 0, x, hx => by simp at hx; subst hx; have := hm y rfl; omega
  | y :: l, m, h, hm, i + 1, x, hx => by
    have h1 := hm y rfl
    have := Asc.ge (m := m + 1) h.tail (fun z hz => by
      cases l with
      | nil => simp at hz
      | cons u l => simp at hz; subst hz; have := h.next; omega) i x (by simpa using hx)
    omega
theorem Asc.len {l : List Int} (h : Asc l) : l.length ≤ 999 := by
  rcases Nat.eq_zero_or_pos l.length with h0 | h0
  · omega
  · have hx : l[l.length - 1]? = some (l[l.length - 1]'(by omega)) := List.getElem?_eq_getElem (by omega)
    have h1 := h.ge (m := 1) (fun y hy => by
      cases l with
      | nil => simp at hy
      | cons u l => simp at hy; subst hy; exact h.head.1) _ _ hx
    have h2 := (h _ _ hx).1
    omega
theorem Asc.mem {l : List Int} (h : Asc l) {x : Int} (hx : x ∈ l) : 1 ≤ x ∧ x ≤ 999 := by
  obtain ⟨i, hi, rfl⟩ := List.getElem_of_mem hx
  exact (h i _ (List.getElem?_eq_getElem hi)).1

/-- the runs of a list, the first of them being open from a to b -/
def grp (a b : Int) : List Int → List (Int × Int)
  | [] => [(a, b)]
  | x :: r => if x = b + 1 then grp a x r else (a, b) :: grp x x r
def runsOf : List Int → List (Int × Int)
  | [] => []
  | x :: r => grp x x r
def runT (p : Int × Int) : List UInt8 := if p.1 = p.2 then dz p.1 else dz p.1 ++ 45 :: dz p.2
def joinT : List (List UInt8) → List UInt8
  | [] => []
  | w :: r => w ++ sepd [44, 32] r
/-- the text of a list -/
def runsT (l : List Int) : List UInt8 := joinT ((runsOf l).map runT)
theorem grp_ne (a b : Int) (l : List Int) : ∃ p r, grp a b l = p :: r := by
  induction l generalizing a b with
  | nil => exact ⟨_, _, rfl⟩
  | cons x r ih =>
    rw [grp]
    split
    · exact ih a x
    · exact ⟨_, _, rfl⟩
theorem runsOf_ne {l : List Int} (h : l ≠ []) : runsOf l ≠ [] := by
  cases l with
  | nil => exact absurd rfl h
  | cons x r =>
    obtain ⟨p, q, e⟩ := grp_ne x x r
    rw [runsOf, e]; simp
/-- the numbers from a to b -/
def rng (a b : Int) : List Int := (List.range (b - a + 1).toNat).map fun k : Nat => a + (k : Int)
theorem rng_none {a b : Int} (h : b < a) : rng a b = [] := by rw [rng, show (b - a + 1).toNat = 0 by omega]; rfl
theorem rng_snoc {a b : Int} (h : a ≤ b + 1) : rng a (b + 1) = rng a b ++ [b + 1] := by
  rw [rng, show (b + 1 - a + 1).toNat = (b - a + 1).toNat + 1 by omega, List.range_succ, List.map_append, ← rng]
  have : a + ((b - a + 1).toNat : Int) = b + 1 := by omega
  rw [List.map_cons, List.map_nil, this]
theorem rng_one (a : Int) : rng a a = [a] := by
  have := rng_snoc (a := a) (b := a - 1) (by omega)
  rw [rng_none (show a - 1 < a by omega), show a - 1 + 1 = a by omega] at this
  simpa using this
theorem rng_len (a b : Int) : (rng a b).length = (b - a + 1).toNat := by simp [rng]
theorem rng_mem {a b x : Int} (h : x ∈ rng a b) : a ≤ x ∧ x ≤ b := by
  obtain ⟨k, hk, rfl⟩ := List.mem_map.1 h
  have := List.mem_range.1 hk
  omega
theorem rng_cons {a b : Int} (h : a ≤ b) : rng a b = a :: rng (a + 1) b := by
  rw [rng, rng, show (b - a + 1).toNat = (b - (a + 1) + 1).toNat + 1 by omega, List.range_succ_eq_map]
  simp [Function.comp_def]
  intro k _
  omega
def flatR (rs : List (Int × Int)) : List Int := rs.flatMap fun p => rng p.1 p.2
theorem flatR_cons (p : Int × Int) (rs : List (Int × Int)) : flatR (p :: rs) = rng p.1 p.2 ++ flatR rs := by simp [flatR]
theorem flatR_grp : ∀ (l : List Int) (a b : Int), a ≤ b → flatR (grp a b l) = rng a b ++ l
  | [], a, b, _ => by rw [grp, flatR_cons]; simp [flatR]
  | x :: r, a, b, h => by
    rw [grp]
    split
    · next hx => rw [flatR_grp r a x (by omega), hx, rng_snoc (by omega)]; simp
    · rw [flatR_cons, flatR_grp r x x (by omega), rng_one]; simp
theorem flatR_runs (l : List Int) : flatR (runsOf l) = l := by
  cases l with
  | nil => rfl
  | cons x r => rw [runsOf, flatR_grp _ _ _ (by omega), rng_one]; rfl
/-- a run's ends -/
def ROk (p : Int × Int) : Prop := 1 ≤ p.1 ∧ p.1 ≤ p.2 ∧ p.2 ≤ 999
theorem grp_ok : ∀ (l : List Int) (a b : Int), 1 ≤ a → a ≤ b → b ≤ 999 → (∀ x ∈ l, 1 ≤ x ∧ x ≤ 999) → ∀ p ∈ grp a b l, ROk p
  | [], a, b, h1, h2, h3, _, p, hp => by
    rw [grp] at hp
    obtain rfl := List.mem_singleton.1 hp
    exact ⟨h1, h2, h3⟩
  | x :: r, a, b, h1, h2, h3, hl, p, hp => by
    have hx := hl x List.mem_cons_self
    have hr := fun y hy => hl y (List.mem_cons_of_mem x hy)
    rw [grp] at hp
    split at hp
    · exact grp_ok r a x h1 (by omega) hx.2 hr p hp
    · rcases List.mem_cons.1 hp with rfl | hp
      · exact ⟨h1, h2, h3⟩
      · exact grp_ok r x x hx.1 (by omega) hx.2 hr p hp
theorem runs_ok {l : List Int} (h : Asc l) : ∀ p ∈ runsOf l, ROk p := by
  cases l with
  | nil => intro p hp; cases hp
  | cons x r => exact grp_ok r x x h.head.1 (by omega) h.head.2 (fun y hy => h.mem (List.mem_cons_of_mem _ hy))
theorem runT_all {p : Int × Int} {c : UInt8} (h1 : isDig c = false) (h2 : c ≠ 45) : c ∉ runT p := fun m => by
  rw [runT] at m
  split at m
  · exact dz_not h1 _ m
  · rcases List.mem_append.1 m with m | m
    · exact dz_not h1 _ m
    · rcases List.mem_cons.1 m with m | m
      · exact h2 m
      · exact dz_not h1 _ m
theorem runT_len {p : Int × Int} (h : ROk p) : (runT p).length ≤ 7 := by
  obtain ⟨h1, h2, h3⟩ := h
  have a : (dz p.1).length ≤ 3 := dz_len (by omega) (by omega) (by omega)
  have b : (dz p.2).length ≤ 3 := dz_len (by omega) (by omega) (by omega)
  rw [runT]; split <;> simp <;> omega
theorem runT_ne (p : Int × Int) : runT p ≠ [] := by
  rw [runT]
  split
  · exact dz_ne _
  · simp

/-- a list's text, as the reference writes it: p is the number before -/
def pieceT (p : Option Int) (x : Int) (n : Option Int) : List UInt8 :=
  (if p ≠ some (x - 1) ∧ p ≠ none then [44, 32] else []) ++ (if p ≠ some (x - 1) ∨ n ≠ some (x + 1) then dz x else []) ++ (if p ≠ some (x - 1) ∧ n = some (x + 1) then [45] else [])
def refT : Option Int → List Int → List UInt8
  | _, [] => []
  | p, x :: r => pieceT p x r.head? ++ refT (some x) r
theorem refT_grp : ∀ (r : List Int) (a b : Int), a ≤ b → joinT ((grp a b r).map runT) = dz a ++ (if a < b then 45 :: (if r.head? ≠ some (b + 1) then dz b else []) else (if r.head? = some (b + 1) then [45] else [])) ++ refT (some b) r
  | [], a, b, h => by
    rw [grp]
    by_cases hab : a = b
    · subst hab; simp [joinT, sepd, refT, runT]
    · have : a < b := by omega
      simp [joinT, sepd, refT, runT, hab, this]
  | x :: r, a, b, h => by
    rw [grp]
    by_cases hx : x = b + 1
    · subst hx
      rw [if_pos rfl, refT_grp r a (b + 1) (by omega), if_pos (by omega), refT]
      have e : (b + 1 - 1 : Int) = b := by omega
      by_cases hab : a = b
      · subst hab
        have hn : ¬ a < a := by omega
        rw [if_neg hn, pieceT, e]; simp
      · have : a < b := by omega
        rw [if_pos this, pieceT, e]; simp
    · rw [if_neg hx, List.map_cons, refT]
      have ih := refT_grp r x x (by omega)
      obtain ⟨p, q, hg⟩ := grp_ne x x r
      rw [hg, List.map_cons, joinT] at ih
      have hn : ¬ x < x := by omega
      rw [if_neg hn] at ih
      rw [hg, List.map_cons, joinT, sepd_cons, ih]
      have e : ¬ b = x - 1 := by omega
      have e2 : ¬ x = b + 1 := hx
      rw [pieceT]
      by_cases hab : a = b
      · subst hab
        have hn : ¬ a < a := by omega
        rw [if_neg hn, runT]; simp [e, e2]
      · have : a < b := by omega
        rw [if_pos this, runT]; simp [e, e2, hab]
theorem refT_eq (l : List Int) : refT none l = runsT l := by
  cases l with
  | nil => rfl
  | cons x r =>
    rw [runsT, runsOf, refT_grp r x x (by omega), refT, pieceT, if_neg (by omega : ¬ x < x)]
    simp

/-- what the implementation's reader makes of a part: the ends of a run -/
def pend : Lib.NumEnd Int → Option Int
  | .ok v => if 1 ≤ v ∧ v ≤ 999 then some v else none
  | _ => none
def endsP (p : List UInt8) : Option (Int × Int) :=
  match pend (Lib.atoiAll (Lib.cut p [45]).1), pend (Lib.atoiAll (if (Lib.cut p [45]).2.2 then (Lib.cut p [45]).2.1 else (Lib.cut p [45]).1)) with
  | some a, some b => some (a, b)
  | _, _ => none
def expP : List (List UInt8) → List Int → Option (List Int)
  | [], out => some out
  | p :: ps, out => match endsP p with
    | none => none
    | some (a, b) => if 999 < (out ++ rng a b).length then none else expP ps (out ++ rng a b)
theorem pend_ok {n : Int} (h : 1 ≤ n ∧ n ≤ 999) : pend (Lib.atoiAll (dz n)) = some n := by
  rw [atoi_dz (by omega) (by omega), pend, if_pos h]
theorem endsP_run {p : Int × Int} (h : ROk p) : endsP (runT p) = some p := by
  obtain ⟨h1, h2, h3⟩ := h
  have n1 : ∀ n : Int, (45 : UInt8) ∉ dz n := fun n => dz_not rfl n
  rw [runT]
  split
  · next e =>
    rw [endsP, cut_none 45 [] _ (n1 _)]
    simp only [Bool.false_eq_true, if_false]
    rw [pend_ok ⟨h1, by omega⟩]
    show some (p.1, p.1) = some p
    rw [show (p.1, p.1) = p from Prod.ext rfl e]
  · rw [endsP, show dz p.1 ++ 45 :: dz p.2 = dz p.1 ++ (45 :: [] ++ dz p.2) from rfl, cut_at 45 [] _ _ (n1 _)]
    simp only [if_true]
    rw [pend_ok ⟨h1, by omega⟩, pend_ok ⟨by omega, h3⟩]
theorem expP_runs : ∀ (rs : List (Int × Int)) (out : List Int), (∀ p ∈ rs, ROk p) → (out ++ flatR rs).length ≤ 999 → expP (rs.map runT) out = some (out ++ flatR rs)
  | [], out, _, _ => by simp [expP, flatR]
  | p :: rs, out, h, hl => by
    have hf := flatR_cons p rs
    rw [List.map_cons, expP, endsP_run (h p List.mem_cons_self)]
    show (if 999 < (out ++ rng p.1 p.2).length then none else expP (rs.map runT) (out ++ rng p.1 p.2)) = _
    rw [hf, ← List.append_assoc] at hl
    rw [if_neg (by rw [List.length_append] at hl; omega), expP_runs rs _ (fun q hq => h q (List.mem_cons_of_mem _ hq)) hl, hf, List.append_assoc]
theorem split_runs {l : List Int} (h : l ≠ []) : Lib.split (runsT l) [44, 32] = (runsOf l).map runT := by
  have hn := runsOf_ne h
  rw [runsT]
  generalize runsOf l = rs at *
  cases rs with
  | nil => exact absurd rfl hn
  | cons p rs =>
    rw [List.map_cons, joinT]
    refine split_at 44 [32] _ _ (runT_all rfl (by decide)) fun w hw => ?_
    obtain ⟨q, _, rfl⟩ := List.mem_map.1 hw
    exact runT_all rfl (by decide)
/-- the implementation reads a list's text as the list -/
theorem expP_text {l : List Int} (ha : Asc l) (h : l ≠ []) : expP (Lib.split (runsT l) [44, 32]) [] = some l := by
  rw [split_runs h, expP_runs _ _ (runs_ok ha) (by rw [List.nil_append, flatR_runs]; exact ha.len), List.nil_append, flatR_runs]
theorem runsT_nil_iff {l : List Int} : runsT l = [] ↔ l = [] := by
  constructor
  · intro h
    cases l with
    | nil => rfl
    | cons x r =>
      obtain ⟨p, q, e⟩ := grp_ne x x r
      rw [runsT, runsOf, e, List.map_cons, joinT] at h
      exact absurd (List.append_eq_nil_iff.1 h).1 (runT_ne p)
  · rintro rfl; rfl
theorem runsT_inj {l m : List Int} (h : Asc l) (h' : Asc m) (e : runsT l = runsT m) : l = m := by
  by_cases h0 : l = []
  · subst h0
    exact (runsT_nil_iff.1 (e.symm.trans rfl)).symm
  · have h1 : m ≠ [] := fun hm => h0 (runsT_nil_iff.1 (e.trans (by rw [hm]; rfl)))
    have := expP_text h h0
    rw [e, expP_text h' h1] at this
    exact (Option.some.inj this).symm
theorem sepd_le (s : List UInt8) (k : Nat) : ∀ ws : List (List UInt8), (∀ w ∈ ws, w.length ≤ k) → (sepd s ws).length ≤ ws.length * (s.length + k)
  | [], _ => by simp [sepd]
  | w :: ws, h => by
    have h1 := h w List.mem_cons_self
    have h2 := sepd_le s k ws fun x hx => h x (List.mem_cons_of_mem _ hx)
    rw [sepd_cons, List.length_append, List.length_append, List.length_cons, Nat.succ_mul]
    omega
theorem flatR_len : ∀ rs : List (Int × Int), (∀ p ∈ rs, ROk p) → rs.length ≤ (flatR rs).length
  | [], _ => by simp
  | p :: rs, h => by
    obtain ⟨h1, h2, h3⟩ := h p List.mem_cons_self
    have := flatR_len rs fun q hq => h q (List.mem_cons_of_mem _ hq)
    rw [flatR_cons, List.length_append, rng_len, List.length_cons]; omega
theorem runs_len {l : List Int} (h : Asc l) : (runsOf l).length ≤ l.length := by
  have := flatR_len _ (runs_ok h)
  rwa [flatR_runs] at this
theorem runsT_len {l : List Int} (h : Asc l) : (runsT l).length ≤ 9 * l.length := by
  have h1 := runs_len h
  have h2 := runs_ok h
  rw [runsT]
  generalize runsOf l = rs at *
  cases rs with
  | nil => simp [joinT]
  | cons p rs =>
    rw [List.map_cons, joinT, List.length_append]
    have h3 := runT_len (h2 p List.mem_cons_self)
    have h4 := sepd_le [44, 32] 7 (rs.map runT) fun w hw => by
      obtain ⟨q, hq, rfl⟩ := List.mem_map.1 hw
      exact runT_len (h2 q (List.mem_cons_of_mem _ hq))
    simp at h1 h4
    omega
/-- what Runs returns -/
def PR (l : List Int) (T : List UInt8) (E : Int) : Prop := (E = 0 ∧ Asc l ∧ runsT l = T) ∨ (E = 1 ∧ T = [] ∧ ¬ Asc l)
theorem PR.ex (l : List Int) : ∃ T E, PR l T E := by
  by_cases h : Asc l
  · exact ⟨_, 0, .inl ⟨rfl, h, rfl⟩⟩
  · exact ⟨[], 1, .inr ⟨rfl, rfl, h⟩⟩
theorem PR.len {l : List Int} {T : List UInt8} {E : Int} (h : PR l T E) : T.length ≤ 8991 := by
  rcases h with ⟨_, h1, rfl⟩ | ⟨_, rfl, _⟩
  · have := runsT_len h1; have := h1.len; omega
  · simp
/-- what Expand returns -/
def PX (L : List UInt8) (l : List Int) (E : Int) : Prop := (E = 0 ∧ Asc l ∧ runsT l = L) ∨ (E = 3 ∧ l = [] ∧ ∀ m, Asc m → runsT m ≠ L)
theorem PX.ex (L : List UInt8) : ∃ l E, PX L l E := by
  by_cases h : ∃ l, Asc l ∧ runsT l = L
  · obtain ⟨l, h1, h2⟩ := h
    exact ⟨l, 0, .inl ⟨rfl, h1, h2⟩⟩
  · exact ⟨[], 3, .inr ⟨rfl, rfl, fun m h1 h2 => h ⟨m, h1, h2⟩⟩⟩
theorem PX.of {L : List UInt8} {l m : List Int} {E : Int} (h : PX L l E) (h1 : Asc m) (h2 : runsT m = L) : l = m ∧ E = 0 := by
  rcases h with ⟨e, h3, h4⟩ | ⟨_, _, h3⟩
  · exact ⟨runsT_inj h3 h1 (h4.trans h2.symm), e⟩
  · exact absurd h2 (h3 _ h1)
theorem PX.not {L : List UInt8} {l : List Int} {E : Int} (h : PX L l E) (h1 : ∀ m, Asc m → runsT m ≠ L) : l = [] ∧ E = 3 := by
  rcases h with ⟨_, h3, h4⟩ | ⟨e, e1, _⟩
  · exact absurd h4 (h1 _ h3)
  · exact ⟨e1, e⟩
theorem PX.len {L : List UInt8} {l : List Int} {E : Int} (h : PX L l E) : l.length ≤ 999 := by
  rcases h with ⟨_, h1, _⟩ | ⟨_, rfl, _⟩
  · exact h1.len
  · simp
/-- a reader that makes of each text its list, and looks whether the text of what it made is what it read -/
theorem PX.read {L T : List UInt8} {l m : List Int} {E F : Int} (h : PX L l E) (hm : PR m T F) (hc : ∀ k, Asc k → runsT k = L → m = k) : (F = 0 ∧ T = L → l = m ∧ E = 0) ∧ (¬ (F = 0 ∧ T = L) → l = [] ∧ E = 3) := by
  constructor
  · rintro ⟨rfl, rfl⟩
    rcases hm with ⟨_, h1, h2⟩ | ⟨h1, _⟩
    · exact h.of h1 h2
    · omega
  · intro hn
    refine h.not fun k hk hk2 => hn ?_
    obtain rfl := hc k hk hk2
    rcases hm with ⟨h1, _, h2⟩ | ⟨_, _, h2⟩
    · exact ⟨h1, h2.symm.trans hk2⟩
    · exact absurd hk h2

/-- the numbers that stand in a text (the reference's reader); p: the byte before is a digit -/
def numsOf (p : Bool) : List UInt8 → List Int
  | [] => []
  | b :: r => if isDig b && !p then ((numK 3 (b :: r) 0).1 : Int) :: numsOf (isDig b) r else numsOf (isDig b) r
def notDig (b : UInt8) : Bool := !isDig b
/-- the numbers between an end and the next one -/
def midQ (e : Int) (h : Option UInt8) (es : List Int) : List Int :=
  if h = some 45 then (match es.head? with | some e2 => rng (e + 1) (e2 - 1) | none => []) else []
def expQ : List Int → List UInt8 → List Int → List Int
  | [], _, out => out
  | e :: es, r, out => expQ es ((r.dropWhile isDig).dropWhile notDig) (out ++ [e] ++ midQ e (r.dropWhile isDig).head? es)
theorem numsOf_digs : ∀ (d : List UInt8) (r : List UInt8), d.all isDig = true → numsOf true (d ++ r) = numsOf true r
  | [], r, _ => rfl
  | b :: d, r, h => by
    rw [List.all_cons, Bool.and_eq_true] at h
    rw [List.cons_append, numsOf, h.1]
    simp only [Bool.not_true, Bool.and_false, Bool.false_eq_true, if_false]
    exact numsOf_digs d r h.2
theorem numsOf_dz {n : Int} (h0 : 0 ≤ n) (h1 : n < 1000) {r : List UInt8} (hr : ∀ b r', r = b :: r' → isDig b = false) : numsOf false (dz n ++ r) = n :: numsOf true r := by
  have hk := numK_dz (n := n) (k := 3) h0 (by omega) (by omega) hr
  have ha := dz_all n
  have hne := dz_ne n
  generalize dz n = d at *
  cases d with
  | nil => exact absurd rfl hne
  | cons b d =>
    rw [List.cons_append] at hk
    rw [List.all_cons, Bool.and_eq_true] at ha
    rw [List.cons_append, numsOf, ha.1, hk, numsOf_digs d r ha.2]
    simp
    omega
theorem numsOf_not {b : UInt8} (h : isDig b = false) (p : Bool) (r : List UInt8) : numsOf p (b :: r) = numsOf false r := by rw [numsOf, h]; simp
theorem drop_digs : ∀ (d r : List UInt8), d.all isDig = true → (∀ b r', r = b :: r' → isDig b = false) → (d ++ r).dropWhile isDig = r
  | [], r, _, hr => by
    cases r with
    | nil => rfl
    | cons b r => rw [List.nil_append, List.dropWhile_cons, hr b r rfl]; rfl
  | b :: d, r, h, hr => by
    rw [List.all_cons, Bool.and_eq_true] at h
    rw [List.cons_append, List.dropWhile_cons, if_pos h.1, drop_digs d r h.2 hr]
theorem drop_not_dz (n : Int) (r : List UInt8) : (dz n ++ r).dropWhile notDig = dz n ++ r := by
  have hne := dz_ne n
  have ha := dz_all n
  generalize dz n = d at *
  cases d with
  | nil => exact absurd rfl hne
  | cons b d =>
    rw [List.all_cons, Bool.and_eq_true] at ha
    rw [List.cons_append, List.dropWhile_cons, notDig, ha.1]; rfl
/-- the ends of runs -/
def endsOf (rs : List (Int × Int)) : List Int := rs.flatMap fun p => if p.1 = p.2 then [p.1] else [p.1, p.2]
theorem endsOf_cons (p : Int × Int) (rs : List (Int × Int)) : endsOf (p :: rs) = (if p.1 = p.2 then [p.1] else [p.1, p.2]) ++ endsOf rs := by simp [endsOf]
/-- what follows a run in the text -/
def moreT (rs : List (Int × Int)) : List UInt8 := sepd [44, 32] (rs.map runT)
theorem more_head (rs : List (Int × Int)) (b : UInt8) (r' : List UInt8) (h : moreT rs = b :: r') : isDig b = false ∧ b ≠ 45 := by
  cases rs with
  | nil => simp [moreT, sepd] at h
  | cons p rs => rw [moreT, List.map_cons, sepd_cons] at h; injection h with h _; rw [← h]; exact ⟨rfl, by decide⟩
theorem nums_runs : ∀ (rs : List (Int × Int)) (p : Int × Int), (∀ q ∈ p :: rs, ROk q) → numsOf false (runT p ++ moreT rs) = endsOf (p :: rs) ∧ numsOf true (moreT (p :: rs)) = endsOf (p :: rs)
  | rs, p, h => by
    obtain ⟨h1, h2, h3⟩ := h p List.mem_cons_self
    have hm := more_head rs
    have key : numsOf true (moreT rs) = endsOf rs := by
      cases rs with
      | nil => rfl
      | cons q rs => exact (nums_runs rs q fun u hu => h u (List.mem_cons_of_mem _ hu)).2
    have k1 : numsOf false (runT p ++ moreT rs) = endsOf (p :: rs) := by
      rw [endsOf_cons, runT]
      split
      · rw [numsOf_dz (by omega) (by omega) (fun b r' e => (hm b r' e).1), key]; rfl
      · rw [List.append_assoc, numsOf_dz (by omega) (by omega) (fun b r' e => by injection e with e _; rw [← e]; rfl), List.cons_append, numsOf_not rfl, numsOf_dz (by omega) (by omega) (fun b r' e => (hm b r' e).1), key]; rfl
    refine ⟨k1, ?_⟩
    rw [moreT, List.map_cons, sepd_cons]
    show numsOf true (44 :: 32 :: (runT p ++ moreT rs)) = _
    rw [numsOf_not rfl, numsOf_not rfl, k1]
theorem drop_more (rs : List (Int × Int)) : (moreT rs).dropWhile isDig = moreT rs := by
  have := drop_digs [] (moreT rs) rfl (fun b r' e => (more_head rs b r' e).1)
  simpa using this
theorem drop_more2 (p : Int × Int) (rs : List (Int × Int)) : (moreT (p :: rs)).dropWhile notDig = runT p ++ moreT rs := by
  rw [moreT, List.map_cons, sepd_cons]
  show (44 :: 32 :: (runT p ++ moreT rs)).dropWhile notDig = _
  have h1 : notDig 44 = true := rfl
  have h2 : notDig 32 = true := rfl
  rw [List.dropWhile_cons, if_pos h1, List.dropWhile_cons, if_pos h2, runT]
  split
  · exact drop_not_dz _ _
  · rw [List.append_assoc]; exact drop_not_dz _ _
theorem expQ_step {e : Int} {es : List Int} {r rest : List UInt8} {out : List Int} (h : r.dropWhile isDig = rest) (hn : ∀ b, rest.head? = some b → b ≠ 45) : expQ (e :: es) r out = expQ es (rest.dropWhile notDig) (out ++ [e]) := by
  rw [expQ, h, midQ, if_neg (fun e => hn 45 e rfl), List.append_nil]
theorem expQ_runs : ∀ (rs : List (Int × Int)) (p : Int × Int) (out : List Int), (∀ q ∈ p :: rs, ROk q) → expQ (endsOf (p :: rs)) (runT p ++ moreT rs) out = out ++ flatR (p :: rs)
  | rs, p, out, h => by
    obtain ⟨h1, h2, h3⟩ := h p List.mem_cons_self
    have hm := more_head rs
    have key : ∀ o : List Int, expQ (endsOf rs) ((moreT rs).dropWhile notDig) o = o ++ flatR rs := fun o => by
      cases rs with
      | nil => simp [endsOf, expQ, flatR]
      | cons q rs => rw [drop_more2]; exact expQ_runs rs q o fun u hu => h u (List.mem_cons_of_mem _ hu)
    have hh : ∀ b, (moreT rs).head? = some b → b ≠ 45 := fun b hb => by
      obtain ⟨r', e⟩ := List.head?_eq_some_iff.1 hb
      exact (hm b r' e).2
    rw [endsOf_cons, flatR_cons, runT]
    split
    · next e =>
      rw [← e, rng_one]
      show expQ (p.1 :: endsOf rs) _ _ = _
      rw [expQ_step (drop_digs _ _ (dz_all _) (fun b r' e => (hm b r' e).1)) hh, key, List.append_assoc]
    · next e =>
      show expQ (p.1 :: p.2 :: endsOf rs) _ _ = _
      rw [List.append_assoc, expQ, drop_digs _ _ (dz_all _) (fun b r' e => by injection e with e _; rw [← e]; rfl)]
      show expQ (p.2 :: endsOf rs) ((45 :: (dz p.2 ++ moreT rs)).dropWhile notDig) (out ++ [p.1] ++ rng (p.1 + 1) (p.2 - 1)) = _
      have hn : notDig 45 = true := rfl
      rw [List.dropWhile_cons, if_pos hn, drop_not_dz, expQ_step (drop_digs _ _ (dz_all _) (fun b r' e => (hm b r' e).1)) hh, key, rng_cons h2]
      have h4 : rng (p.1 + 1) p.2 = rng (p.1 + 1) (p.2 - 1) ++ [p.2] := by
        have := rng_snoc (a := p.1 + 1) (b := p.2 - 1) (by omega)
        rwa [show p.2 - 1 + 1 = p.2 by omega] at this
      rw [h4]; simp
/-- the reference reads a list's text as the list -/
theorem expQ_text {l : List Int} (ha : Asc l) : expQ (numsOf false (runsT l)) (runsT l) [] = l := by
  have h2 := runs_ok ha
  have h3 := flatR_runs l
  rw [runsT]
  generalize runsOf l = rs at *
  cases rs with
  | nil => exact h3
  | cons p rs =>
    show expQ (numsOf false (runT p ++ moreT rs)) (runT p ++ moreT rs) [] = l
    rw [(nums_runs rs p h2).1, expQ_runs rs p [] h2, List.nil_append, h3]
theorem numsOf_len : ∀ (L : List UInt8) (p : Bool), (numsOf p L).length ≤ L.length
  | [], _ => by simp [numsOf]
  | b :: r, p => by
    rw [numsOf]
    have h1 := numsOf_len r (isDig b)
    split
    · simp; omega
    · simp; omega
theorem numsOf_bd : ∀ (L : List UInt8) (p : Bool), ∀ x ∈ numsOf p L, 0 ≤ x ∧ x ≤ 999
  | [], _, x, h => by simp [numsOf] at h
  | b :: r, p, x, h => by
    rw [numsOf] at h
    split at h
    · rcases List.mem_cons.1 h with h | h
      · have := numK_lt 3 (b :: r) 0
        omega
      · exact numsOf_bd r _ x h
    · exact numsOf_bd r _ x h
end Go.Proofs.YtlnajhochpbgpaaDoor
