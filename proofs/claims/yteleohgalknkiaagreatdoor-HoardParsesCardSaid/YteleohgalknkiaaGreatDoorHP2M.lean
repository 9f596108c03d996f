/- The reference's text of years: its walk. -/
import Derived.Test.YteleohgalknkiaaGreatDoorHtM
import Derived.Test.YteleohgalknkiaaGreatDoorText3
import Derived.Test.YteleohgalknkiaaGreatDoorRef2
import Derived.Test.YteleohgalknkiaaGreatDoorHoist
import Derived.Test.YteleohgalknkiaaGreatDoorPMath
import Derived.Test.YteleohgalknkiaaGreatDoorHb
import Derived.Shelf.Vars
import Derived.Lib.AtoiTie
import Derived.Deep.RegionHeld3
import Derived.Test.YteleohgalknkiaaGreatDoorHy
import Derived.Deep.RegionWith
namespace Go.Proofs.YteleohgalknkiaaGreatDoor

/-- words, each behind a space -/
def spaced (ws : List (List UInt8)) : List UInt8 := ws.flatMap fun w => 32 :: w
theorem split_spaced : ∀ (ws : List (List UInt8)) (w : List UInt8) (k : Nat), 32 ∉ w → (∀ x ∈ ws, (32 : UInt8) ∉ x) → ws.length ≤ k → Lib.splitK [32] 0 k (w ++ spaced ws) = w :: ws
  | [], w, k, h, _, _ => by
    have h1 : w ++ spaced [] = w := by simp [spaced]
    rw [h1]
    cases k with
    | zero => rfl
    | succ k => rw [Lib.splitK, index_miss 32 [] w h]; rfl
  | x :: ws, w, k, h, hx, hk => by
    obtain ⟨k, rfl⟩ : ∃ j, k = j + 1 := ⟨k - 1, by simp at hk; omega⟩
    have h1 : w ++ spaced (x :: ws) = w ++ (32 :: [] ++ (x ++ spaced ws)) := by simp [spaced]
    rw [Lib.splitK, h1, index_at 32 [] _ w h]
    have h2 : ((w.length : Int) == -1) = false := by rw [beq_eq_false_iff_ne]; omega
    have h3 : ((w.length : Int)).toNat = w.length := by omega
    have hd : (w ++ (32 :: [] ++ (x ++ spaced ws))).drop (w.length + ([32] : List UInt8).length) = x ++ spaced ws := by
      rw [← List.append_assoc, show w.length + ([32] : List UInt8).length = (w ++ 32 :: []).length by simp, List.drop_left]
    rw [h2, h3, Nat.add_zero, List.take_left, hd]
    have ih := split_spaced ws x k (hx x List.mem_cons_self) (fun y hy => hx y (List.mem_cons_of_mem _ hy)) (by simp at hk; omega)
    rw [ih]; rfl
theorem count_spaced : ∀ (ws : List (List UInt8)) (w : List UInt8) (f : Nat), 32 ∉ w → (∀ x ∈ ws, (32 : UInt8) ∉ x) → ws.length + 1 ≤ f → Lib.countFrom [32] f (w ++ spaced ws) = ws.length
  | [], w, f, h, _, hf => by
    obtain ⟨f, rfl⟩ : ∃ j, f = j + 1 := ⟨f - 1, by simp at hf; omega⟩
    have h1 : w ++ spaced [] = w := by simp [spaced]
    rw [h1, Lib.countFrom, index_miss 32 [] w h]; rfl
  | x :: ws, w, f, h, hx, hf => by
    obtain ⟨f, rfl⟩ : ∃ j, f = j + 1 := ⟨f - 1, by simp at hf; omega⟩
    have h1 : w ++ spaced (x :: ws) = w ++ (32 :: [] ++ (x ++ spaced ws)) := by simp [spaced]
    rw [Lib.countFrom, h1, index_at 32 [] _ w h]
    have h2 : ((w.length : Int) == -1) = false := by rw [beq_eq_false_iff_ne]; omega
    have h3 : ((w.length : Int)).toNat = w.length := by omega
    have hd : (w ++ (32 :: [] ++ (x ++ spaced ws))).drop (w.length + ([32] : List UInt8).length) = x ++ spaced ws := by
      rw [← List.append_assoc, show w.length + ([32] : List UInt8).length = (w ++ 32 :: []).length by simp, List.drop_left]
    rw [h2, h3, hd]
    have ih := count_spaced ws x f (hx x List.mem_cons_self) (fun y hy => hx y (List.mem_cons_of_mem _ hy)) (by simp at hf; omega)
    rw [ih]; simp; omega
/-- a coin's word -/
def wordC (x : Int × Int) : List UInt8 := dz x.1 ++ 120 :: dz x.2
theorem coins_spaced (l : List (Int × Int)) : coinsText l = spaced (l.map wordC) := by
  induction l with
  | nil => rfl
  | cons x l ih =>
    rw [coinsText, List.flatMap_cons, List.map_cons, spaced, List.flatMap_cons]
    rw [coinsText, spaced] at ih
    rw [ih]; rfl
theorem word_not {c : UInt8} (h : isDig c = false) (hx : c ≠ 120) (x : Int × Int) : c ∉ wordC x := fun m => by
  rcases List.mem_append.1 m with m | m
  · exact dz_not h _ m
  · rcases List.mem_cons.1 m with m | m
    · exact hx m
    · exact dz_not h _ m
theorem spaced_not {c : UInt8} (h : c ≠ 32) {ws : List (List UInt8)} (hw : ∀ w ∈ ws, c ∉ w) : c ∉ spaced ws := fun m => by
  obtain ⟨w, h1, h2⟩ := List.mem_flatMap.1 m
  rcases List.mem_cons.1 h2 with h2 | h2
  · exact h h2
  · exact hw w h1 h2
/-- the parts of a hoard's text, as the parser finds them -/
theorem hoard_cut (id : Int) (l : List (Int × Int)) (f t : Int) : Lib.cut (hoardText id l f t) [59, 32] = (headText id ++ coinsText l, yearText f t, true) := by
  refine cut_at 59 [32] _ _ fun m => ?_
  rcases List.mem_append.1 m with m | m
  · rw [headText] at m
    rcases List.mem_cons.1 m with m | m
    · cases m
    · rcases List.mem_append.1 m with m | m
      · exact dz_not rfl _ m
      · simp at m
  · rw [coins_spaced] at m
    refine spaced_not (by decide) (fun w hw => ?_) m
    obtain ⟨x, _, rfl⟩ := List.mem_map.1 hw
    exact word_not rfl (by decide) x
theorem front_cut (id : Int) (x : Int × Int) (l : List (Int × Int)) : Lib.cut (headText id ++ coinsText (x :: l)) [58, 32] = (72 :: dz id, wordC x ++ spaced (l.map wordC), true) := by
  have h : headText id ++ coinsText (x :: l) = (72 :: dz id) ++ (58 :: [32] ++ (wordC x ++ spaced (l.map wordC))) := by
    rw [coins_spaced, headText, List.map_cons, spaced, List.flatMap_cons]
    simp [spaced]
  rw [h]
  refine cut_at 58 [32] _ _ fun m => ?_
  rcases List.mem_cons.1 m with m | m
  · cases m
  · exact dz_not rfl _ m
theorem coins_split (x : Int × Int) (l : List (Int × Int)) : Lib.split (wordC x ++ spaced (l.map wordC)) [32] = (x :: l).map wordC := by
  have h1 : (32 : UInt8) ∉ wordC x := word_not rfl (by decide) x
  have h2 : ∀ w ∈ l.map wordC, (32 : UInt8) ∉ w := fun w hw => by
    obtain ⟨y, _, rfl⟩ := List.mem_map.1 hw
    exact word_not rfl (by decide) y
  have h3 : ∀ ws : List (List UInt8), ws.length ≤ (spaced ws).length := fun ws => by
    induction ws with
    | nil => simp
    | cons w ws ih => rw [spaced, List.flatMap_cons, List.length_append, ← spaced]; simp; omega
  rw [Lib.split, Lib.count, count_spaced _ _ _ h1 h2 (by have := h3 (l.map wordC); rw [List.length_append]; omega), split_spaced _ _ _ h1 h2 (Nat.le_refl _)]
  rfl
theorem suf_yes (a p : List UInt8) : Lib.hasSuffix (a ++ p) p = true := by
  rw [Lib.hasSuffix, List.isSuffixOf_iff_suffix]; exact List.suffix_append _ _
theorem trim_yes (a p : List UInt8) : Lib.trimSuffix (a ++ p) p = a := by
  rw [Lib.trimSuffix, if_pos (suf_yes a p), List.length_append, Nat.add_sub_cancel, List.take_left]
theorem suf_no {s p : List UInt8} {c : UInt8} (hc : c ∈ p) (h : c ∉ s) : Lib.hasSuffix s p = false := by
  rw [Bool.eq_false_iff]
  intro e
  rw [Lib.hasSuffix, List.isSuffixOf_iff_suffix] at e
  exact h (e.subset hc)
theorem suf_ad (a : List UInt8) : Lib.hasSuffix (a ++ [32, 65, 68]) [32, 66, 67] = false := by
  rw [Bool.eq_false_iff]
  intro e
  rw [Lib.hasSuffix, List.isSuffixOf_iff_suffix] at e
  obtain ⟨t, ht⟩ := e
  have := congrArg List.reverse ht
  simp at this
theorem trim_no {s p : List UInt8} (h : Lib.hasSuffix s p = false) : Lib.trimSuffix s p = s := by
  rw [Lib.trimSuffix, h]; rfl
/-- what the parser of years finds: the first number, is it BC, the last number, is it BC -/
def yparts (s : List UInt8) : List UInt8 × Bool × List UInt8 × Bool :=
  let bc := Lib.hasSuffix s [32, 66, 67]
  let n := if bc then Lib.trimSuffix s [32, 66, 67] else Lib.trimSuffix s [32, 65, 68]
  let c := Lib.cut n [45]
  (Lib.trimSuffix c.1 [32, 66, 67], bc || Lib.hasSuffix c.1 [32, 66, 67], if c.2.2 then c.2.1 else c.1, bc)
theorem yparts_text {f t : Int} (h : f ≤ t) : yparts (yearText f t) = (dz (ynum f), decide (¬ 0 < f), dz (ynum t), decide (¬ 0 < t)) := by
  have n1 : ∀ n : Int, (67 : UInt8) ∉ dz n := fun n => dz_not rfl n
  have n2 : ∀ n : Int, (45 : UInt8) ∉ dz n := fun n => dz_not rfl n
  have s1 : ∀ n : Int, Lib.hasSuffix (dz n) [32, 66, 67] = false := fun n => suf_no (c := 67) (by simp) (n1 n)
  by_cases hft : f = t
  · subst hft
    rw [yearText, if_pos rfl]
    by_cases h0 : 0 < f
    · rw [yparts, yera, if_pos h0, suf_ad, if_neg (by decide), trim_yes, cut_none 45 [] _ (n2 _), trim_no (s1 _), s1]
      simp [h0]
    · rw [yparts, yera, if_neg h0, suf_yes, if_pos rfl, trim_yes, cut_none 45 [] _ (n2 _), trim_no (s1 _)]
      simp [h0]
  · rw [yearText, if_neg hft]
    by_cases h0 : 0 < f
    · have h1 : 0 < t := by omega
      rw [yera, if_pos h0, yera, if_pos h1, if_pos rfl, yparts, suf_ad, if_neg (by decide), trim_yes]
      rw [show dz (ynum f) ++ 45 :: dz (ynum t) = dz (ynum f) ++ (45 :: [] ++ dz (ynum t)) from rfl, cut_at 45 [] _ _ (n2 _), trim_no (s1 _), s1]
      simp [h0, h1]
    · by_cases h1 : 0 < t
      · rw [yera, if_neg h0, yera, if_pos h1, if_neg (by decide)]
        rw [show dz (ynum f) ++ [32, 66, 67] ++ 45 :: (dz (ynum t) ++ [32, 65, 68]) = dz (ynum f) ++ [32, 66, 67] ++ 45 :: dz (ynum t) ++ [32, 65, 68] by simp]
        rw [yparts, suf_ad, if_neg (by decide), trim_yes]
        rw [show dz (ynum f) ++ [32, 66, 67] ++ 45 :: dz (ynum t) = dz (ynum f) ++ [32, 66, 67] ++ (45 :: [] ++ dz (ynum t)) from rfl, cut_at 45 [] _ _ (fun m => by
          rcases List.mem_append.1 m with m | m
          · exact n2 _ m
          · simp at m), trim_yes, suf_yes]
        simp [h0, h1]
      · rw [yera, if_neg h0, yera, if_neg h1, if_pos rfl, yparts, suf_yes, if_pos rfl, trim_yes]
        rw [show dz (ynum f) ++ 45 :: dz (ynum t) = dz (ynum f) ++ (45 :: [] ++ dz (ynum t)) from rfl, cut_at 45 [] _ _ (n2 _), trim_no (s1 _)]
        simp [h0, h1]
theorem word_cut (x : Int × Int) : Lib.cut (wordC x) [120] = (dz x.1, dz x.2, true) := cut_at 120 [] _ _ (dz_not rfl _)
end Go.Proofs.YteleohgalknkiaaGreatDoor

namespace Go.Proofs.YteleohgalknkiaaGreatDoor

theorem ynum_bd {n : Int} (h1 : -9999 ≤ n) (h2 : n ≤ 9999) : 0 ≤ ynum n ∧ ynum n ≤ 10000 := by
  rw [ynum]; split <;> omega
theorem ynum_back (n : Int) : (if decide (¬ 0 < n) = true then 1 - ynum n else ynum n) = n := by
  rw [ynum]
  by_cases h : 0 < n
  · simp [h]
  · simp [h]; omega
theorem yearText_inj {f t f' t' : Int} (h : YV f t) (h' : YV f' t') (he : yearText f t = yearText f' t') : f = f' ∧ t = t' := by
  have e := congrArg yparts he
  rw [yparts_text h.1, yparts_text h'.1] at e
  injection e with e1 e
  injection e with e2 e
  injection e with e3 e4
  obtain ⟨_, ⟨a1, a2⟩, a3, a4⟩ := h
  obtain ⟨_, ⟨b1, b2⟩, b3, b4⟩ := h'
  have c1 := dz_inj (ynum_bd a1 a2).1 (ynum_bd b1 b2).1 e1
  have c2 := dz_inj (ynum_bd a3 a4).1 (ynum_bd b3 b4).1 e3
  rw [← ynum_back f, ← ynum_back t, c1, c2, e2, e4, ynum_back, ynum_back]
  exact ⟨rfl, rfl⟩
/-- what the parsers of years return -/
def PY (L : List UInt8) (f t E : Int) : Prop := (E = 0 ∧ YV f t ∧ yearText f t = L) ∨ (E = 3 ∧ f = 0 ∧ t = 0 ∧ ∀ f t, YV f t → yearText f t ≠ L)
theorem PY.ex (L : List UInt8) : ∃ f t E, PY L f t E := by
  by_cases h : ∃ f t, YV f t ∧ yearText f t = L
  · obtain ⟨f, t, h⟩ := h
    exact ⟨f, t, 0, .inl ⟨rfl, h⟩⟩
  · exact ⟨0, 0, 3, .inr ⟨rfl, rfl, rfl, fun f t h1 h2 => h ⟨f, t, h1, h2⟩⟩⟩
theorem PY.ok {L : List UInt8} {f t f' t' E : Int} (h : PY L f t E) (h1 : YV f' t') (h2 : yearText f' t' = L) : E = 0 ∧ f = f' ∧ t = t' := by
  rcases h with ⟨rfl, h3, h4⟩ | ⟨_, _, _, h3⟩
  · exact ⟨rfl, yearText_inj h3 h1 (h4.trans h2.symm)⟩
  · exact absurd h2 (h3 _ _ h1)
theorem PY.bad {L : List UInt8} {f t E : Int} (h : PY L f t E) (h1 : ∀ f t, YV f t → yearText f t ≠ L) : E = 3 ∧ f = 0 ∧ t = 0 := by
  rcases h with ⟨_, h3, h4⟩ | ⟨h2, h3, h4, _⟩
  · exact absurd h4 (h1 _ _ h3)
  · exact ⟨h2, h3, h4⟩
/-- the numbers that the parser of years makes of its parts -/
def yearIs (D : List UInt8) (bc : Bool) (v : Int) : Prop := ∀ m : Int, 0 ≤ m → m ≤ 10000 → D = dz m → v = if bc = true then 1 - m else m
theorem years_bad {L a b : List UInt8} {p q : Bool} {u v : Int} (hp : yparts L = (a, p, b, q)) (hu : yearIs a p u) (hv : yearIs b q v) (h : ¬ (YV u v ∧ yearText u v = L)) (f t : Int) (hY : YV f t) : yearText f t ≠ L := fun he => by
  have e := hp.symm.trans ((congrArg yparts he.symm).trans (yparts_text hY.1))
  injection e with e1 e
  injection e with e2 e
  injection e with e3 e4
  have h1 := ynum_bd hY.2.1.1 hY.2.1.2
  have h2 := ynum_bd hY.2.2.1 hY.2.2.2
  have c1 := hu _ h1.1 h1.2 e1
  have c2 := hv _ h2.1 h2.2 e3
  rw [e2, ynum_back] at c1
  rw [e4, ynum_back] at c2
  subst c1 c2
  exact h ⟨hY, he⟩
/-- the reference's parser of years: the two numbers that stand in a text of years -/
def rnums (L : List UInt8) : Int × Int :=
  let x := numK 5 L 0
  let r := if x.2.take 3 = [32, 66, 67] ∨ x.2.take 3 = [32, 65, 68] then x.2.drop 3 else x.2
  ((x.1 : Nat), if r.head? = some 45 then ((numK 5 r.tail 0).1 : Nat) else (x.1 : Nat))
theorem rnums_text {f t : Int} (h : YV f t) : rnums (yearText f t) = (ynum f, ynum t) := by
  have h1 := ynum_bd h.2.1.1 h.2.1.2
  have h2 := ynum_bd h.2.2.1 h.2.2.2
  have n1 : ((ynum f).toNat : Int) = ynum f := Int.toNat_of_nonneg h1.1
  have n2 : ((ynum t).toNat : Int) = ynum t := Int.toNat_of_nonneg h2.1
  have k1 : ∀ r, (∀ b r', r = b :: r' → isDig b = false) → numK 5 (dz (ynum f) ++ r) 0 = ((ynum f).toNat, r) := fun r hr => numK_dz h1.1 (by omega) (by omega) hr
  have k2 : ∀ r, (∀ b r', r = b :: r' → isDig b = false) → numK 5 (dz (ynum t) ++ r) 0 = ((ynum t).toNat, r) := fun r hr => numK_dz h2.1 (by omega) (by omega) hr
  by_cases hft : f = t
  · subst hft
    rw [yearText, if_pos rfl, rnums, k1 _ (by intro b r' hr; rw [yera] at hr; split at hr <;> (simp at hr; obtain ⟨rfl, _⟩ := hr; rfl))]
    rw [yera]
    split <;> simp [n1]
  · rw [yearText, if_neg hft]
    by_cases he : yera f = yera t
    · rw [if_pos he, List.append_assoc, List.cons_append, rnums, k1 _ (by intro b r' hr; simp at hr; obtain ⟨rfl, _⟩ := hr; rfl)]
      have e5 : ¬ ((45 :: (dz (ynum t) ++ yera f)).take 3 = [32, 66, 67] ∨ (45 :: (dz (ynum t) ++ yera f)).take 3 = [32, 65, 68]) := by simp
      simp only [if_neg e5, List.head?_cons, List.tail_cons, if_true]
      rw [k2 _ (by intro b r' hr; rw [yera] at hr; split at hr <;> (simp at hr; obtain ⟨rfl, _⟩ := hr; rfl)), n1, n2]
    · rw [if_neg he, List.append_assoc, rnums, k1 _ (by intro b r' hr; rw [yera] at hr; split at hr <;> (simp at hr; obtain ⟨rfl, _⟩ := hr; rfl))]
      have e3 : (yera f ++ 45 :: (dz (ynum t) ++ yera t)).take 3 = yera f := by rw [yera]; split <;> rfl
      have e4 : (yera f ++ 45 :: (dz (ynum t) ++ yera t)).drop 3 = 45 :: (dz (ynum t) ++ yera t) := by rw [yera]; split <;> rfl
      have e5 : yera f = [32, 66, 67] ∨ yera f = [32, 65, 68] := by rw [yera]; split <;> simp
      simp only [e3, e4, if_pos e5]
      rw [List.head?_cons, if_pos rfl, List.tail_cons, k2 _ (by intro b r' hr; rw [yera] at hr; split at hr <;> (simp at hr; obtain ⟨rfl, _⟩ := hr; rfl)), n1, n2]
theorem ynum_or (n : Int) : n = ynum n ∨ n = 1 - ynum n := by rw [ynum]; split <;> omega
theorem ryears_bad {L : List UInt8} {a b : Int} (hp : rnums L = (a, b)) (h1 : ¬ (YV a b ∧ yearText a b = L)) (h2 : ¬ (YV a (1 - b) ∧ yearText a (1 - b) = L)) (h3 : ¬ (YV (1 - a) b ∧ yearText (1 - a) b = L)) (h4 : ¬ (YV (1 - a) (1 - b) ∧ yearText (1 - a) (1 - b) = L)) (f t : Int) (hY : YV f t) : yearText f t ≠ L := fun he => by
  have e := hp.symm.trans ((congrArg rnums he.symm).trans (rnums_text hY))
  injection e with e1 e2
  subst e1 e2
  rcases ynum_or f with c1 | c1 <;> rcases ynum_or t with c2 | c2
  · exact h1 (by rw [← c1, ← c2]; exact ⟨hY, he⟩)
  · exact h2 (by rw [← c1, ← c2]; exact ⟨hY, he⟩)
  · exact h3 (by rw [← c1, ← c2]; exact ⟨hY, he⟩)
  · exact h4 (by rw [← c1, ← c2]; exact ⟨hY, he⟩)

/-- what the parsers of hoards return -/
def NoH (L : List UInt8) : Prop := ∀ id l f t, HV id l f t → hoardText id l f t ≠ L
def PH (L : List UInt8) (id : Int) (l : List (Int × Int)) (f t E : Int) : Prop :=
  (E = 0 ∧ HV id l f t ∧ hoardText id l f t = L) ∨ (E = 3 ∧ id = 0 ∧ l = [] ∧ f = 0 ∧ t = 0 ∧ NoH L)
theorem wordC_inj {x y : Int × Int} (hx : 1 ≤ x.1 ∧ 1 ≤ x.2) (hy : 1 ≤ y.1 ∧ 1 ≤ y.2) (h : wordC x = wordC y) : x = y := by
  have e := congrArg (fun w => Lib.cut w [120]) h
  simp only [word_cut] at e
  injection e with e1 e
  injection e with e2 e
  exact Prod.ext (dz_inj (by omega) (by omega) e1) (dz_inj (by omega) (by omega) e2)
/-- the parts of a hoard's text, as the program cuts it -/
structure HParts (L head closing : List UInt8) (ws : List (List UInt8)) : Prop where
  cut1 : ∃ front b, Lib.cut L [59, 32] = (front, closing, b) ∧ ∃ coins b', Lib.cut front [58, 32] = (head, coins, b') ∧ Lib.split coins [32] = ws
theorem HParts.of {L head closing : List UInt8} {ws : List (List UInt8)} (h : HParts L head closing ws) {id : Int} {l : List (Int × Int)} {f t : Int} (hv : HV id l f t) (he : hoardText id l f t = L) :
    head = 72 :: dz id ∧ closing = yearText f t ∧ ws = l.map wordC := by
  obtain ⟨front, b, h1, coins, b', h2, h3⟩ := h.cut1
  rw [← he, hoard_cut] at h1
  injection h1 with e1 e
  injection e with e2 e3
  cases l with
  | nil => have := hv.2.1.1; simp at this
  | cons x l =>
    rw [← e1, front_cut] at h2
    injection h2 with e4 e
    injection e with e5 e6
    rw [← e5, coins_split] at h3
    exact ⟨e4.symm, e2.symm, h3.symm⟩
def trimH (s : List UInt8) : List UInt8 := Lib.trimPrefix s [72]
theorem trimH_dz (l : List UInt8) : trimH (72 :: l) = l := by simp [trimH, Lib.trimPrefix, Lib.hasPrefix]
theorem head_bad {L head closing : List UInt8} {ws : List (List UInt8)} (h : HParts L head closing ws) (hb : ∀ n, Lib.atoiAll (trimH head) ≠ .ok n) : NoH L := fun id l f t hv he => by
  obtain ⟨rfl, _, _⟩ := h.of hv he
  rw [trimH_dz] at hb
  have := hv.1
  exact hb id (atoi_dz (by omega) (by omega))
theorem closing_bad {L head closing : List UInt8} {ws : List (List UInt8)} (h : HParts L head closing ws) (hb : ∀ f t, YV f t → yearText f t ≠ closing) : NoH L := fun id l f t hv he => by
  obtain ⟨_, rfl, _⟩ := h.of hv he
  exact hb f t hv.2.2.2 rfl
/-- what is read of a word -/
def wordIs (w : List UInt8) (x : Int × Int) : Prop := ∃ a b c, Lib.cut w [120] = (a, b, c) ∧ Lib.atoiAll a = .ok x.1 ∧ Lib.atoiAll b = .ok x.2
theorem wordIs_wordC {y x : Int × Int} (h : wordIs (wordC y) x) (hy : (1 ≤ y.1 ∧ y.1 ≤ 99) ∧ (1 ≤ y.2 ∧ y.2 ≤ 999)) : x = y := by
  obtain ⟨a, b, c, h1, h2, h3⟩ := h
  rw [word_cut] at h1
  injection h1 with e1 e
  injection e with e2 e3
  subst e1 e2
  rw [atoi_dz (by omega) (by omega)] at h2 h3
  injection h2 with h2
  injection h3 with h3
  exact Prod.ext h2.symm h3.symm
theorem word_bad {L head closing : List UInt8} {ws : List (List UInt8)} (h : HParts L head closing ws) {i : Nat} {w a b : List UInt8} {c : Bool} (hw : ws[i]? = some w) (hc : Lib.cut w [120] = (a, b, c)) (hb : (∀ n, Lib.atoiAll a ≠ .ok n) ∨ ∀ n, Lib.atoiAll b ≠ .ok n) : NoH L := fun id l f t hv he => by
  obtain ⟨_, _, rfl⟩ := h.of hv he
  rw [List.getElem?_map] at hw
  cases hx : l[i]? with
  | none => rw [hx] at hw; cases hw
  | some x =>
    rw [hx] at hw
    injection hw with hw
    subst hw
    rw [word_cut] at hc
    injection hc with e1 e
    injection e with e2 e3
    subst e1 e2
    have hr := hv.2.2.1.at_ hx
    rcases hb with hb | hb
    · exact hb _ (atoi_dz (by omega) (by omega))
    · exact hb _ (atoi_dz (by omega) (by omega))
def ReadAs (ws : List (List UInt8)) (l : List (Int × Int)) : Prop := l.length ≤ ws.length ∧ ∀ (i : Nat) w x, ws[i]? = some w → l[i]? = some x → wordIs w x
theorem ReadAs.snoc {ws : List (List UInt8)} {l : List (Int × Int)} (h : ReadAs ws l) {w : List UInt8} {x : Int × Int} (hw : ws[l.length]? = some w) (hx : wordIs w x) : ReadAs ws (l ++ [x]) := by
  refine ⟨by have := (List.getElem?_eq_some_iff.1 hw).1; simp; omega, fun i w' x' h1 h2 => ?_⟩
  by_cases hi : i < l.length
  · rw [List.getElem?_append_left hi] at h2
    exact h.2 i w' x' h1 h2
  · have hi2 : i = l.length := by
      have := (List.getElem?_eq_some_iff.1 h2).1
      simp at this
      omega
    subst hi2
    rw [List.getElem?_append_right (Nat.le_refl _), Nat.sub_self] at h2
    injection h2 with h2
    subst h2
    rw [hw] at h1
    injection h1 with h1
    subst h1
    exact hx
theorem hoard_bad {L head closing : List UInt8} {ws : List (List UInt8)} (h : HParts L head closing ws) {id : Int} {l : List (Int × Int)} {f t : Int} (h1 : Lib.atoiAll (trimH head) = .ok id) (h2 : YV f t ∧ yearText f t = closing) (h3 : ReadAs ws l) (h4 : l.length = ws.length) (hn : ¬ (HV id l f t ∧ hoardText id l f t = L)) : NoH L := fun id' l' f' t' hv he => by
  obtain ⟨rfl, rfl, rfl⟩ := h.of hv he
  have hi := hv.1
  rw [trimH_dz, atoi_dz (by omega) (by omega)] at h1
  injection h1 with h1
  subst h1
  obtain ⟨rfl, rfl⟩ := yearText_inj h2.1 hv.2.2.2 h2.2
  have hl : l = l' := by
    rw [List.length_map] at h4
    refine List.ext_getElem? fun i => ?_
    by_cases hi : i < l'.length
    · have e1 : l'[i]? = some l'[i] := List.getElem?_eq_getElem hi
      have e2 : l[i]? = some (l[i]'(by omega)) := List.getElem?_eq_getElem _
      have := wordIs_wordC (h3.2 i _ _ (by rw [List.getElem?_map, e1]; rfl) e2) (hv.2.2.1.at_ e1)
      rw [e1, e2, this]
    · rw [List.getElem?_eq_none (by omega), List.getElem?_eq_none (by omega)]
  subst hl
  exact hn ⟨hv, he⟩
theorem PH.ex (L : List UInt8) : ∃ id l f t E, PH L id l f t E := by
  by_cases h : ∃ id l f t, HV id l f t ∧ hoardText id l f t = L
  · obtain ⟨id, l, f, t, h⟩ := h
    exact ⟨id, l, f, t, 0, .inl ⟨rfl, h⟩⟩
  · exact ⟨0, [], 0, 0, 3, .inr ⟨rfl, rfl, rfl, rfl, rfl, fun id l f t h1 h2 => h ⟨id, l, f, t, h1, h2⟩⟩⟩
theorem hoardText_inj {id id' f f' t t' : Int} {l l' : List (Int × Int)} (h : HV id l f t) (h' : HV id' l' f' t') (he : hoardText id l f t = hoardText id' l' f' t') : id = id' ∧ l = l' ∧ f = f' ∧ t = t' := by
  obtain ⟨front, b, hc1⟩ : ∃ front b, Lib.cut (hoardText id' l' f' t') [59, 32] = (front, yearText f' t', b) := ⟨_, _, hoard_cut ..⟩
  cases hl' : l' with
  | nil => subst hl'; have := h'.2.1.1; simp at this
  | cons x r =>
    subst hl'
    have P : HParts (hoardText id' (x :: r) f' t') (72 :: dz id') (yearText f' t') ((x :: r).map wordC) := ⟨_, _, hoard_cut .., _, _, front_cut .., coins_split ..⟩
    obtain ⟨e1, e2, e3⟩ := P.of h he
    injection e1 with _ e1
    have i1 := h.1
    have i2 := h'.1
    have a1 := dz_inj (by omega) (by omega) e1
    obtain ⟨a2, a3⟩ := yearText_inj h'.2.2.2 h.2.2.2 e2
    refine ⟨a1.symm, ?_, a2.symm, a3.symm⟩
    have hlen := congrArg List.length e3
    rw [List.length_map, List.length_map] at hlen
    refine List.ext_getElem? fun i => ?_
    by_cases hi : i < l.length
    · have q1 : l[i]? = some l[i] := List.getElem?_eq_getElem hi
      have q2 : (x :: r)[i]? = some ((x :: r)[i]'(by omega)) := List.getElem?_eq_getElem _
      have e4 := congrArg (·[i]?) e3
      simp only [List.getElem?_map, q1, q2, Option.map_some] at e4
      injection e4 with e4
      have r1 := h.2.2.1.at_ q1
      have r2 := h'.2.2.1.at_ q2
      rw [q1, q2, wordC_inj ⟨by omega, by omega⟩ ⟨by omega, by omega⟩ e4]
    · rw [List.getElem?_eq_none (by omega), List.getElem?_eq_none (by omega)]
theorem PH.ok {L : List UInt8} {id id' f t f' t' E : Int} {l l' : List (Int × Int)} (h : PH L id l f t E) (h1 : HV id' l' f' t') (h2 : hoardText id' l' f' t' = L) : E = 0 ∧ id = id' ∧ l = l' ∧ f = f' ∧ t = t' := by
  rcases h with ⟨rfl, h3, h4⟩ | ⟨_, _, _, _, _, h3⟩
  · exact ⟨rfl, hoardText_inj h3 h1 (h4.trans h2.symm)⟩
  · exact absurd h2 (h3 _ _ _ _ h1)
theorem PH.bad {L : List UInt8} {id f t E : Int} {l : List (Int × Int)} (h : PH L id l f t E) (h1 : NoH L) : E = 3 ∧ id = 0 ∧ l = [] ∧ f = 0 ∧ t = 0 := by
  rcases h with ⟨_, h3, h4⟩ | ⟨h2, h3, h4, h5, h6, _⟩
  · exact absurd h4 (h1 _ _ _ _ h3)
  · exact ⟨h2, h3, h4, h5, h6⟩
/-- the reference's parser of hoards: where it stands in a text, if that is a hoard's -/
def RInv (L : List UInt8) (n : Int) (l : List (Int × Int)) (rest : List UInt8) : Prop :=
  ∀ id l0 f t, HV id l0 f t → hoardText id l0 f t = L → n = id ∧ l = l0.take l.length ∧ rest = coinsText (l0.drop l.length) ++ 59 :: 32 :: yearText f t
theorem not_dig_of {c : UInt8} {l : List UInt8} (hc : isDig c = false) : ∀ b r', c :: l = b :: r' → isDig b = false := fun b r' h => by
  injection h with h _; rw [← h]; exact hc
theorem rinv_start {L R R2 : List UInt8} {n : Nat} (hL : 2 ≤ L.length) (hR : L.drop 1 = R) (hn : numK 3 R 0 = (n, R2)) : RInv L n [] (R2.drop 1) := fun id l0 f t hv he => by
  subst he
  have hi := hv.1
  have e : (hoardText id l0 f t).drop 1 = dz id ++ 58 :: (coinsText l0 ++ 59 :: 32 :: yearText f t) := by simp [hoardText, headText]
  rw [← hR, e, numK_dz (by omega) (by omega) (by omega) (not_dig_of rfl)] at hn
  injection hn with e1 e2
  subst e1 e2
  exact ⟨Int.toNat_of_nonneg (by omega), by simp, by simp⟩
theorem rinv_step {L R' R2 R4 : List UInt8} {n : Int} {l : List (Int × Int)} {k v : Nat} (h : RInv L n l (32 :: R')) (h1 : numK 3 R' 0 = (k, R2)) (h2 : numK 3 (R2.drop 1) 0 = (v, R4)) : RInv L n (l ++ [((k : Int), (v : Int))]) R4 := fun id l0 f t hv he => by
  obtain ⟨a1, a2, a3⟩ := h id l0 f t hv he
  cases hd : l0.drop l.length with
  | nil =>
    rw [hd] at a3
    simp [coinsText] at a3
  | cons x r =>
    rw [hd] at a3
    have hx : l0[l.length]? = some x := by
      have := congrArg (·[0]?) hd
      simpa using this
    have hr := hv.2.2.1.at_ hx
    have e : R' = dz x.1 ++ 120 :: (dz x.2 ++ (coinsText r ++ 59 :: 32 :: yearText f t)) := by
      simp [coinsText, coinText] at a3
      simpa [coinsText] using a3
    rw [e, numK_dz (by omega) (by omega) (by omega) (not_dig_of rfl)] at h1
    injection h1 with e1 e2
    subst e1 e2
    rw [List.drop_succ_cons, List.drop_zero, numK_dz (by omega) (by omega) (by omega) (by
      cases r with
      | nil => exact not_dig_of rfl
      | cons y r => simp only [coinsText, List.flatMap_cons, coinText, List.cons_append]; exact not_dig_of rfl)] at h2
    injection h2 with e3 e4
    subst e3 e4
    have hxl := (List.getElem?_eq_some_iff.1 hx).1
    refine ⟨a1, ?_, ?_⟩
    · rw [List.length_append, List.length_singleton, take_succ hx, ← a2, Int.toNat_of_nonneg (by omega), Int.toNat_of_nonneg (by omega)]
    · rw [List.length_append, List.length_singleton, ← List.drop_drop, hd]; rfl
theorem rinv_end {L rest : List UInt8} {n : Int} {l : List (Int × Int)} (h : RInv L n l rest) (hend : rest.head? ≠ some 32 ∨ 40 ≤ l.length) {id f t : Int} {l0 : List (Int × Int)} (hv : HV id l0 f t) (he : hoardText id l0 f t = L) :
    n = id ∧ l = l0 ∧ rest = 59 :: 32 :: yearText f t := by
  obtain ⟨a1, a2, a3⟩ := h id l0 f t hv he
  have hl : l.length ≤ l0.length := by have := congrArg List.length a2; simp at this; omega
  have h32 := hv.2.1.2
  cases hd : l0.drop l.length with
  | nil =>
    rw [hd] at a3
    have : l0.length ≤ l.length := by have := congrArg List.length hd; simp at this; omega
    rw [List.take_of_length_le this] at a2
    exact ⟨a1, a2, by simpa [coinsText] using a3⟩
  | cons x r =>
    rw [hd] at a3
    rcases hend with hend | hend
    · exfalso; apply hend; rw [a3]; simp [coinsText, coinText]
    · omega
end Go.Proofs.YteleohgalknkiaaGreatDoor

namespace Go.Proofs.YteleohgalknkiaaGreatDoor
open Go.RowKit Go.Proofs Go

theorem conv_byte (W : World) {d : Nat} {e : Int} (he : e = (d : Int)) (hd : d < 256) :
    (convert 110 9 (.slice (some ⟨W.heap.size, 0, none⟩) 1 1)).run Tryz.prog (W.alloc (.cells #[.int .u8 e] 5)) = .ok (.string (str [UInt8.ofNat d])) (W.alloc (.cells #[.int .u8 e] 5)) := by
  subst he
  exact run_convert_bytes_back (P := Tryz.prog) (W.alloc (.cells #[.int .u8 (d : Int)] 5)) 110 9 5 ⟨W.heap.size, 0, none⟩ 1 [UInt8.ofNat d] Tryz.underlying110 Tryz.underlying5 Tryz.underlying9 (fun j hj => by
    obtain rfl : j = 0 := by simpa using hj
    have e1 : (UInt8.ofNat d).toNat = d := by rw [UInt8.toNat_ofNat']; omega
    rw [Lib.add_plain, World.cell?_alloc_at _ _ _ _ rfl]
    simp [e1])

set_option maxHeartbeats 1000000 in
set_option maxRecDepth 100000 in
theorem rtext_any (A : Option Addr) (n c : Nat) (l : List Nat) (w : World) (H : Lim w A c l) (hn : n = l.length) (hl : n ≤ 536870912) :
    Calls Tryz.prog 182 #[.agg #[.slice A n c]] w fun e w' => e = .returned (.string (str (Lib.decDigits (val l)))) ∧ Below w.heap.size w w' := by
  have hdl := dig_len_of H.small hn
  have HN := Lib.hid hn
  clear hn
  obtain ⟨N, hN⟩ : ∃ N, val l = N := ⟨_, rfl⟩
  rw [hN] at hdl
  rw [hN]
  have HV := Lib.hid hN
  clear hN
  go_enter Tryz.func182, Tryz.ntmps182
  go_wp2_with fail
  have HX := BL.one w #[.slice A n c] 35
  refine (rnorm_any A n c l _ (H.ext HX.below) HN.out (by omega)).mono ?_
  rw [HV.out]
  rintro e w1 ⟨A1, c1, rfl, H1, hb⟩
  replace HX := HX.ext hb
  have hc00 := HX.cell 0 0 rfl rfl
  have hf00 := HX.free 0 0 rfl
  simp only [] at hc00 hf00
  go_upto_region 2 with fail
  have hk := HX.keep1 0 rfl rfl (.slice A1 (dig N).length c1)
  replace HX := HX.put1 0 rfl (by omega) (by intro k q hk hne; match k, hk with | 0, hk => (simp at hk; subst hk; simp at hne ⊢; try omega) | k + 1, hk => simp at hk) (.slice A1 (dig N).length c1)
  replace H1 := H1.stay hk
  simp only [List.set_cons_zero] at HX
  clear hc00 hf00 hk hb H
  generalize w1.setCell ⟨w.heap.size, 0, none⟩ (.slice A1 (dig N).length c1) = W2 at *
  go_wp2
  go_loopg [3, 4] (dig N).length (fun k x y wr => ∃ j : Nat, j + k = (dig N).length ∧ x = .string (str (pad (9 * j) N)) ∧ y = .int .i64 (j : Int) ∧ Lim wr A1 c1 (dig N) ∧ BL w wr [(w.heap.size, #[.slice A1 (dig N).length c1], 35)])
  case atStart => exact ⟨0, by omega, rfl, rfl, H1, HX⟩
  case round =>
    clear H1 HX
    obtain ⟨j, hj, rfl, rfl, H1, HX⟩ := hrel
    have hc00 := HX.cell 0 0 rfl rfl
    simp only [] at hc00
    by_cases hj0 : j < (dig N).length
    · obtain ⟨ad, rfl, _, hcell⟩ := H1.cellAt (j := j) hj0
      have hd9 := dig_Dig N j
      have hdg := Lib.hid (fun m (hm : m < 9) => limb_digit N j hm)
      generalize at_ (dig N) j = T at *
      go_wp2
      go_loopg [3, 5, 6] 9 (fun k' x y z wr => ∃ m : Nat, m + k' = 9 ∧ x = .string (str (pad (9 * j + m) N)) ∧ y = .int .u32 ((T / 10 ^ m : Nat) : Int) ∧ z = .int .i64 (m : Int) ∧ Lim wr (some ad) c1 (dig N) ∧ BL w wr [(w.heap.size, #[.slice (some ad) (dig N).length c1], 35)])
      case atStart => exact ⟨0, by omega, rfl, by rw [Nat.pow_zero, Nat.div_one], rfl, H1, HX⟩
      case round =>
        clear H1 HX hc00 hcell
        obtain ⟨m, hm, rfl, rfl, rfl, H1, HX⟩ := hrel
        by_cases hm0 : m < 9
        · have hdig := Lib.hid (hdg.out m hm0)
          have hTm : T / 10 ^ m ≤ T := Nat.div_le_self _ _
          have hTs := Lib.hid (show T / 10 ^ (m + 1) = T / 10 ^ m / 10 by rw [Nat.pow_succ, Nat.div_div_eq_div_mul])
          have hpl := pad_len (9 * j + m) N
          generalize T / 10 ^ m = D at *
          have hcv := conv_byte wr (d := 48 + D % 10) (e := 48 + (D : Int) % 10) (by omega) (by omega)
          have hap := Lib.hid (show str [UInt8.ofNat (48 + D % 10)] ++ str (pad (9 * j + m) N) = str (pad (9 * j + (m + 1)) N) by rw [str_append, ← Nat.add_assoc, pad_front, ← hdig.out]; rfl)
          have hs1 : (str [UInt8.ofNat (48 + D % 10)]).size ≤ 1 := Nat.le_of_eq (str_size _)
          generalize UInt8.ofNat (48 + D % 10) = b at *
          have hs2 : (str (pad (9 * j + m) N)).size ≤ 9663676417 := by rw [str_size, hpl]; omega
          go_wp2
          go_roundg (9 - (m + 1))
          case measure => omega
          case rel => exact ⟨m + 1, by omega, by rw [← hap.out], by rw [hTs.out]; go_num, by go_num, H1.ext (below_alloc _ _), HX.ext (below_alloc _ _)⟩
        · obtain rfl : m = 9 := by omega
          go_wp2
          go_roundg ((dig N).length - (j + 1))
          case measure => omega
          case rel => exact ⟨j + 1, by omega, rfl, by go_num, H1, HX⟩
    · have hjn : (dig N).length ≤ j := by omega
      have hlt : N < 10 ^ (9 * j) := by rw [← pw_ten]; exact Nat.lt_of_lt_of_le (dig_lt N) (pw_le hjn)
      have hst := Lib.hid (strip_pad hlt)
      have hpl := pad_len (9 * j) N
      have hjb : j ≤ 536870913 := by omega
      clear hlt hjn
      generalize pad (9 * j) N = L at *
      go_wp2
      go_loopg [3] L.length (fun k x wr' => ∃ M : List UInt8, M.length = k ∧ k ≤ L.length ∧ Hid (strip M = strip L) ∧ x = .string (str M) ∧ wr' = wr)
      case atStart => exact ⟨L, rfl, Nat.le_refl _, Lib.hid rfl, rfl, rfl⟩
      case round =>
        obtain ⟨M, hM, hMl, hstM, rfl, rfl⟩ := hrel
        cases M with
        | nil =>
          have hN0 : Hid (N = 0) := Lib.hid (by
            have h1 := hst.out
            rw [← hstM.out, strip_nil] at h1
            by_cases h : N = 0
            · exact h
            · rw [if_neg h] at h1
              have := dec_len_pos N
              rw [← h1] at this
              simp at this)
          have h0 : (str []).size = 0 := rfl
          have he : (str []).toList.isEmpty = true := by rw [str_toList]; rfl
          go_wp2
          go_ret
          exact ⟨by rw [hN0.out, dec_zero]; rfl, HX.below⟩
        | cons b M =>
          have h0 : (str (b :: M)).size = M.length + 1 := by rw [str_size]; rfl
          have he : (str (b :: M)).toList.isEmpty = false := by rw [str_toList]; rfl
          have hix : ∀ h, (str (b :: M))[0]'h = b := fun _ => rfl
          have hdr := str_drop (b :: M) 1
          rw [List.length_cons, List.drop_succ_cons, List.drop_zero] at hdr
          rw [List.length_cons] at hM
          by_cases hb : b = 48
          · have hb1 : (((b.toNat : Nat) : Int) == 48) = true := by rw [hb]; rfl
            have hs := Lib.hid (show strip M = strip L by rw [← hstM.out, hb, strip_zero])
            clear hb hstM
            go_wp2
            go_roundg M.length
            case measure => omega
            case rel => exact ⟨M, rfl, by omega, hs, by rw [← hM, hdr], by first | rfl | trivial⟩
          · have hb1 : (((b.toNat : Nat) : Int) == 48) = false := by
              rw [beq_eq_false_iff_ne]
              intro h
              exact hb (UInt8.toNat_inj.1 (show b.toNat = 48 by omega))
            have hfin := Lib.hid (show b :: M = Lib.decDigits N by
              have h1 := hst.out
              rw [← hstM.out, strip_ne hb] at h1
              by_cases h : N = 0
              · rw [if_pos h] at h1; cases h1
              · rw [if_neg h] at h1; exact h1)
            clear hb hstM
            go_wp2
            go_ret
            exact ⟨by rw [← hfin.out]; rfl, HX.below⟩
end Go.Proofs.YteleohgalknkiaaGreatDoor

namespace Go.Proofs.YteleohgalknkiaaGreatDoor
open Go.RowKit Go.Proofs Go

/-- a variable of an error's type holds a value of that type -/
def Evar (w : World) (g : Nat) : Prop := ∃ ev, w.cell? ⟨g, 0, none⟩ = some ev ∧ (ev = .nilIface ∨ ∃ te pe, ev = .iface te pe)
theorem Evar.ext {w w' : World} {g : Nat} (h : Evar w g) (hb : Below w.heap.size w w') : Evar w' g := by
  obtain ⟨ev, h1, h2⟩ := h
  exact ⟨ev, by rw [hb.cell (cell_lt h1)]; exact h1, h2⟩
/-- the library's variables -/
structure Env (w : World) : Prop where
  tab : Tab w
  mx : ∃ m, w.cell? ⟨0, 0, none⟩ = some (.int .i64 m)
  e1 : Evar w 1
  e2 : Evar w 2
theorem Env.ext {w w' : World} (h : Env w) (hb : Below w.heap.size w w') : Env w' :=
  ⟨h.tab.ext hb, by obtain ⟨m, hm⟩ := h.mx; exact ⟨m, by rw [hb.cell (cell_lt hm)]; exact hm⟩, h.e1.ext hb, h.e2.ext hb⟩
theorem str_of (s : ByteArray) : str s.data.toList = s := by simp [str]
theorem cut_h {c : UInt8} {L P R : List UInt8} {b : Bool} (w : World) (h : Hid (Lib.cut L [c] = (P, R, b))) (hE : Env w) (hL : L.length ≤ 1000000000) :
    Calls Tryz.prog 79 #[.string (str L), .string ⟨#[c]⟩] w fun e w' => e = .returned (.tuple #[.string (str P), .string (str R), .bool b]) ∧ Below w.heap.size w w' := by
  obtain ⟨m, hm⟩ := hE.mx
  refine (Tryz.strings_Cut (str L) ⟨#[c]⟩ m w (by rw [str_size]; omega) hm).mono ?_
  rintro e w' ⟨he, n, rfl⟩
  have hc : Lib.cut (str L).data.toList (⟨#[c]⟩ : ByteArray).data.toList = (P, R, b) := by rw [← h.out]; simp [str]
  rw [hc] at he
  exact ⟨he, drew_below (Below.refl _ _) n⟩
theorem cut2_h {c d : UInt8} {L P R : List UInt8} {b : Bool} (w : World) (h : Hid (Lib.cut L [c, d] = (P, R, b))) (hE : Env w) (hL : L.length ≤ 1000000000) :
    Calls Tryz.prog 79 #[.string (str L), .string ⟨#[c, d]⟩] w fun e w' => e = .returned (.tuple #[.string (str P), .string (str R), .bool b]) ∧ Below w.heap.size w w' := by
  obtain ⟨m, hm⟩ := hE.mx
  refine (Tryz.strings_Cut (str L) ⟨#[c, d]⟩ m w (by rw [str_size]; omega) hm).mono ?_
  rintro e w' ⟨he, n, rfl⟩
  have hc : Lib.cut (str L).data.toList (⟨#[c, d]⟩ : ByteArray).data.toList = (P, R, b) := by rw [← h.out]; simp [str]
  rw [hc] at he
  exact ⟨he, drew_below (Below.refl _ _) n⟩
theorem splitB_str (L : List UInt8) (sb : ByteArray) : Lib.splitB sb 0 (Lib.countB (str L) sb) (str L) = (Lib.split L sb.data.toList).map str := by
  have h := Lib.splitB_data sb 0 (Lib.countB (str L) sb) (str L)
  have h2 : (Lib.splitB sb 0 (Lib.countB (str L) sb) (str L)).map (fun s => str s.data.toList) = Lib.splitB sb 0 (Lib.countB (str L) sb) (str L) := by
    rw [List.map_congr_left (g := id) (fun s _ => str_of s)]; simp
  have h3 := congrArg (List.map str) h
  rw [List.map_map] at h3
  rw [← h2]
  exact h3
theorem split_h {sb : ByteArray} {L : List UInt8} {ws : List (List UInt8)} (w : World) (h : Hid (Lib.split L sb.data.toList = ws)) (hE : Env w) (hL : L.length ≤ 1000000000) (h1 : 1 ≤ sb.size) :
    Calls Tryz.prog 83 #[.string (str L), .string sb] w fun e w' => e = .returned (.slice (some ⟨w.heap.size, 0, none⟩) ws.length ws.length) ∧ w' = w.alloc (.cells (ws.map fun x => Value.string (str x)).toArray 9) := by
  obtain ⟨m, hm⟩ := hE.mx
  refine (Tryz.strings_Split (str L) sb m w (by rw [str_size]; omega) hm h1).mono ?_
  rintro e w' ⟨rfl, rfl⟩
  have h2 := splitB_str L sb
  rw [h.out] at h2
  have hl : Lib.countB (str L) sb + 1 = ws.length := by
    have := congrArg List.length h2
    rw [Lib.splitB_all sb h1 0 _ _ rfl, List.length_map] at this
    exact this
  rw [h2, hl, List.map_map]
  exact ⟨rfl, rfl⟩
theorem atoi_ok {L : List UInt8} {n : Int} (w : World) (h : Hid (Lib.atoiAll L = .ok n)) (hL : L.length ≤ 1000000000) :
    Calls Tryz.prog 80 #[.string (str L)] w fun e w' => e = .returned (.tuple #[.int .i64 n, .nilIface]) ∧ Below w.heap.size w w' := by
  refine (Tryz.strconv_Atoi_ok (str L) (by rw [str_size]; omega) n (by rw [← h.out]; simp [str]) w).mono ?_
  rintro e w' ⟨rfl, hW⟩
  refine ⟨rfl, ?_⟩
  rcases hW with rfl | ⟨t, rfl⟩
  · exact Below.refl _ _
  · exact Lib.bytesWorld_below _ _ _
/-- Atoi where there is no number -/
def RetAbad (w : World) (e : Ending) (w' : World) : Prop := ∃ (v : Int) (N : Nat), e = .returned (.tuple #[.int .i64 v, .iface 170 (.pointer (some ⟨N, 0, none⟩))]) ∧ Below w.heap.size w w'
theorem atoi_bad {L : List UInt8} (w : World) (h : Hid (∀ n, Lib.atoiAll L ≠ .ok n)) (hE : Env w) (hL : L.length ≤ 1000000000) :
    Calls Tryz.prog 80 #[.string (str L)] w (RetAbad w) := by
  have hd : (str L).data.toList = L := by simp [str]
  obtain ⟨ev1, c1, p1⟩ := hE.e1
  obtain ⟨ev2, c2, p2⟩ := hE.e2
  cases hA : Lib.atoiAll L with
  | ok n => exact absurd hA (h.out n)
  | range =>
    refine (Tryz.strconv_Atoi_range (str L) (by rw [str_size]; omega) (by rw [hd]; exact hA) ev2 w c2 p2).mono ?_
    rintro e w' ⟨N, rfl, _, _, hb⟩
    exact ⟨_, N, rfl, hb⟩
  | _ =>
    refine (Any.strconv_Atoi_syntax Tryz.laysC172 (str L) (by rw [str_size]; omega) (by rw [hd]; exact hA) ev1 w c1 p1).mono ?_
    rintro e w' ⟨N, rfl, _, _, hb⟩
    exact ⟨_, N, rfl, hb⟩
end Go.Proofs.YteleohgalknkiaaGreatDoor

namespace Go.Proofs.YteleohgalknkiaaGreatDoor
open Go.RowKit Go.Proofs Go

theorem bdrop {L : List UInt8} {j : Nat} {x : UInt8} (h : L[j]? = some x) : L.drop j = x :: L.drop (j + 1) := by
  obtain ⟨hj, rfl⟩ := List.getElem?_eq_some_iff.1 h
  exact List.drop_eq_getElem_cons hj
theorem numK_nil (k n : Nat) : numK k [] n = (n, []) := by cases k <;> rfl
set_option maxHeartbeats 1000000 in
set_option maxRecDepth 100000 in
theorem rdigits_any {L R : List UInt8} {n : Nat} (w : World) (h : Hid (numK 5 L 0 = (n, R))) (hl : L.length ≤ 1000000) :
    Calls Tryz.prog 136 #[.string (str L)] w fun e w' => e = .returned (.tuple #[.int .i64 (n : Int), .string (str R)]) ∧ Below w.heap.size w w' := by
  have hsL : (str L).size = L.length := str_size L
  go_enter Tryz.func136, Tryz.ntmps136
  go_wp2_with fail
  go_loopg [4, 5] 5 (fun kk X Y wr => ∃ j q : Nat, j + kk = 5 ∧ j ≤ L.length ∧ X = .int .i64 (q : Int) ∧ Y = .int .i64 (j : Int) ∧ q < 10 ^ j ∧ Hid (numK (5 - j) (L.drop j) q = (n, R)) ∧ wr = w)
  case atStart => exact ⟨0, 0, by omega, by omega, rfl, rfl, by omega, h, rfl⟩
  case round =>
    obtain ⟨j, q, hj, hjl, rfl, rfl, hq, hn, rfl⟩ := hrel
    have hq5 : q < 100000 := Nat.lt_of_lt_of_le hq (Nat.le_trans (Nat.pow_le_pow_right (by omega) (show j ≤ 5 by omega)) (by decide))
    have hxs : (str L).extract j L.length = str (L.drop j) := str_drop L j
    by_cases h0 : j < L.length
    · by_cases h5 : j < 5
      · have hix : ∀ h, (str L)[j]'h = L[j]'h0 := fun _ => rfl
        have hdrop := bdrop (List.getElem?_eq_getElem h0)
        have hn2 := hn.out
        rw [hdrop, show 5 - j = (5 - (j + 1)) + 1 by omega, numK] at hn2
        have hq4 : q < 10000 := Nat.lt_of_lt_of_le hq (Nat.le_trans (Nat.pow_le_pow_right (by omega) (show j ≤ 4 by omega)) (by decide))
        generalize L[j] = x at *
        by_cases hd : isDig x = true
        · rw [if_pos hd] at hn2
          rw [isDig_iff] at hd
          obtain ⟨h48, h57⟩ := hd
          have HN := Lib.hid hn2
          have hp : 10 * q + (x.toNat - 48) < 10 ^ (j + 1) := by rw [Nat.pow_succ]; omega
          clear hn2 hdrop hn hxs hq
          go_wp2_with fail
          go_roundg (5 - (j + 1))
          case measure => omega
          case rel => exact ⟨j + 1, 10 * q + (x.toNat - 48), by omega, by omega, by go_num, by go_num, hp, HN, by first | rfl | trivial⟩
        · rw [if_neg hd, ← hdrop] at hn2
          rw [isDig_iff] at hd
          injection hn2 with e1 e2
          subst e1
          rw [e2] at hxs
          clear hdrop hn e2 hq hq4
          by_cases h48 : 48 ≤ x.toNat
          · have h57 : ¬ x.toNat ≤ 57 := fun h => hd ⟨h48, h⟩
            clear hd
            go_upto_region 6 with fail
            go_quiet (fail)
            go_wp2
            exact bodyPost_ret (v := .tuple #[.int .i64 (q : Int), .string (str R)]) (by simp [results, Tryz.results136, go_sem]) rfl ⟨rfl, drew_below (Below.refl _ _) _⟩
          · clear hd
            go_upto_region 6 with fail
            go_quiet (fail)
            go_wp2
            exact bodyPost_ret (v := .tuple #[.int .i64 (q : Int), .string (str R)]) (by simp [results, Tryz.results136, go_sem]) rfl ⟨rfl, drew_below (Below.refl _ _) _⟩
      · obtain rfl : j = 5 := by omega
        have hn2 := hn.out
        rw [Nat.sub_self, numK] at hn2
        injection hn2 with e1 e2
        subst e1
        rw [e2] at hxs
        clear hn e2 hq
        go_upto_region 6 with fail
        go_quiet (fail)
        go_wp2
        exact bodyPost_ret (v := .tuple #[.int .i64 (q : Int), .string (str R)]) (by simp [results, Tryz.results136, go_sem]) rfl ⟨rfl, drew_below (Below.refl _ _) _⟩
    · obtain rfl : j = L.length := by omega
      have hn2 := hn.out
      rw [List.drop_length, numK_nil] at hn2
      injection hn2 with e1 e2
      subst e1
      subst e2
      clear hn hq hxs
      go_upto_region 6 with fail
      go_quiet (fail)
      go_wp2
      exact bodyPost_ret (v := .tuple #[.int .i64 (q : Int), .string (str [])]) (by simp [results, Tryz.results136, go_sem]; try rfl) rfl ⟨rfl, drew_below (Below.refl _ _) _⟩
set_option maxHeartbeats 1000000 in
set_option maxRecDepth 100000 in
theorem rnum32_any {L R : List UInt8} {n : Nat} (w : World) (h : Hid (numK 3 L 0 = (n, R))) (hl : L.length ≤ 1000000) :
    Calls Tryz.prog 84 #[.string (str L)] w fun e w' => e = .returned (.tuple #[.int .i64 (n : Int), .string (str R)]) ∧ Below w.heap.size w w' := by
  have hsL : (str L).size = L.length := str_size L
  go_enter Tryz.func84, Tryz.ntmps84
  go_wp2_with fail
  go_loopg [4, 5] 3 (fun kk X Y wr => ∃ j q : Nat, j + kk = 3 ∧ j ≤ L.length ∧ X = .int .i64 (q : Int) ∧ Y = .int .i64 (j : Int) ∧ q < 10 ^ j ∧ Hid (numK (3 - j) (L.drop j) q = (n, R)) ∧ wr = w)
  case atStart => exact ⟨0, 0, by omega, by omega, rfl, rfl, by omega, h, rfl⟩
  case round =>
    obtain ⟨j, q, hj, hjl, rfl, rfl, hq, hn, rfl⟩ := hrel
    have hq5 : q < 100000 := Nat.lt_of_lt_of_le hq (Nat.le_trans (Nat.pow_le_pow_right (by omega) (show j ≤ 3 by omega)) (by decide))
    have hxs : (str L).extract j L.length = str (L.drop j) := str_drop L j
    by_cases h0 : j < L.length
    · by_cases h5 : j < 3
      · have hix : ∀ h, (str L)[j]'h = L[j]'h0 := fun _ => rfl
        have hdrop := bdrop (List.getElem?_eq_getElem h0)
        have hn2 := hn.out
        rw [hdrop, show 3 - j = (3 - (j + 1)) + 1 by omega, numK] at hn2
        have hq4 : q < 100 := Nat.lt_of_lt_of_le hq (Nat.le_trans (Nat.pow_le_pow_right (by omega) (show j ≤ 2 by omega)) (by decide))
        generalize L[j] = x at *
        by_cases hd : isDig x = true
        · rw [if_pos hd] at hn2
          rw [isDig_iff] at hd
          obtain ⟨h48, h57⟩ := hd
          have HN := Lib.hid hn2
          have hp : 10 * q + (x.toNat - 48) < 10 ^ (j + 1) := by rw [Nat.pow_succ]; omega
          clear hn2 hdrop hn hxs hq
          go_wp2_with fail
          go_roundg (3 - (j + 1))
          case measure => omega
          case rel => exact ⟨j + 1, 10 * q + (x.toNat - 48), by omega, by omega, by go_num, by go_num, hp, HN, by first | rfl | trivial⟩
        · rw [if_neg hd, ← hdrop] at hn2
          rw [isDig_iff] at hd
          injection hn2 with e1 e2
          subst e1
          rw [e2] at hxs
          clear hdrop hn e2 hq hq4
          by_cases h48 : 48 ≤ x.toNat
          · have h57 : ¬ x.toNat ≤ 57 := fun h => hd ⟨h48, h⟩
            clear hd
            go_upto_region 5 with fail
            go_quiet (fail)
            go_wp2
            exact bodyPost_ret (v := .tuple #[.int .i64 (q : Int), .string (str R)]) (by simp [results, Tryz.results84, go_sem]) rfl ⟨rfl, drew_below (Below.refl _ _) _⟩
          · clear hd
            go_upto_region 5 with fail
            go_quiet (fail)
            go_wp2
            exact bodyPost_ret (v := .tuple #[.int .i64 (q : Int), .string (str R)]) (by simp [results, Tryz.results84, go_sem]) rfl ⟨rfl, drew_below (Below.refl _ _) _⟩
      · obtain rfl : j = 3 := by omega
        have hn2 := hn.out
        rw [Nat.sub_self, numK] at hn2
        injection hn2 with e1 e2
        subst e1
        rw [e2] at hxs
        clear hn e2 hq
        go_upto_region 5 with fail
        go_quiet (fail)
        go_wp2
        exact bodyPost_ret (v := .tuple #[.int .i64 (q : Int), .string (str R)]) (by simp [results, Tryz.results84, go_sem]) rfl ⟨rfl, drew_below (Below.refl _ _) _⟩
    · obtain rfl : j = L.length := by omega
      have hn2 := hn.out
      rw [List.drop_length, numK_nil] at hn2
      injection hn2 with e1 e2
      subst e1
      subst e2
      clear hn hq hxs
      go_upto_region 5 with fail
      go_quiet (fail)
      go_wp2
      exact bodyPost_ret (v := .tuple #[.int .i64 (q : Int), .string (str [])]) (by simp [results, Tryz.results84, go_sem]; try rfl) rfl ⟨rfl, drew_below (Below.refl _ _) _⟩
set_option maxRecDepth 100000 in
theorem rdec32_any {n : Int} {P : List UInt8} (w : World) (hP : Hid (dz n = P)) (h0 : 0 ≤ n) (h1 : n ≤ 1000000) :
    Calls Tryz.prog 139 #[.int .i64 n] w fun e w' => e = .returned (.string (str P)) ∧ Below w.heap.size w w' := by
  obtain ⟨m, rfl⟩ : ∃ m : Nat, n = m := ⟨n.toNat, by omega⟩
  have hm : m / 1000000000 / 1000000000 ≤ 18 := by omega
  go_enter Tryz.func139, Tryz.ntmps139
  go_wp2_with fail
  refine (rof_any m _ hm).mono ?_
  rintro e w1 ⟨A1, c1, rfl, F1, hb⟩
  have hl : (dig m).length ≤ 536870912 := Nat.le_trans (dig_len_le (k := 2) (by have h := pw_ten 2; rw [h]; omega)) (by omega)
  go_wp2_with fail
  refine (rtext_any A1 _ c1 (dig m) _ F1 rfl hl).mono ?_
  rintro e w2 ⟨rfl, hb2⟩
  go_wp2
  go_ret
  exact ⟨by rw [← hP.out, val_dig]; rfl, bel_trans hb hb2⟩
theorem rera_any {n : Int} {R : List UInt8} (w : World) (hR : Hid (yera n = R)) :
    Calls Tryz.prog 181 #[.int .i64 n] w fun e w' => e = .returned (.string (str R)) ∧ Below w.heap.size w w' := by
  by_cases h0 : 0 < n
  · have hr := hR.out
    rw [yera, if_pos h0] at hr
    subst hr
    go_enter Tryz.func181, Tryz.ntmps181
    go_wp2
    go_ret
    exact ⟨by first | rfl | trivial, Below.refl _ _⟩
  · have hr := hR.out
    rw [yera, if_neg h0] at hr
    subst hr
    go_enter Tryz.func181, Tryz.ntmps181
    go_wp2
    go_ret
    exact ⟨by first | rfl | trivial, Below.refl _ _⟩
set_option maxRecDepth 100000 in
theorem rynum_any {n : Int} {P : List UInt8} (w : World) (h1 : -9999 ≤ n) (h2 : n ≤ 9999) (hP : Hid (dz (ynum n) = P)) :
    Calls Tryz.prog 180 #[.int .i64 n] w fun e w' => e = .returned (.string (str P)) ∧ Below w.heap.size w w' := by
  have hp := hP.out
  clear hP
  by_cases h0 : 0 < n
  · rw [ynum, if_pos h0] at hp
    obtain ⟨m, rfl⟩ : ∃ m : Nat, n = m := ⟨n.toNat, by omega⟩
    have hm : m / 1000000000 / 1000000000 ≤ 18 := by omega
    have hr : Lib.decDigits m = P := by rw [← hp]; rfl
    clear hp
    go_enter Tryz.func180, Tryz.ntmps180
    go_wp2_with fail
    refine (rof_any m _ hm).mono ?_
    rintro e w1 ⟨A1, c1, rfl, F1, hb⟩
    have hl : (dig m).length ≤ 536870912 := Nat.le_trans (dig_len_le (k := 2) (by have h := pw_ten 2; rw [h]; omega)) (by omega)
    go_wp2_with fail
    refine (rtext_any A1 _ c1 (dig m) _ F1 rfl hl).mono ?_
    rintro e w2 ⟨rfl, hb2⟩
    go_wp2
    go_ret
    exact ⟨by rw [val_dig, hr]; rfl, bel_trans hb hb2⟩
  · rw [ynum, if_neg h0] at hp
    obtain ⟨m, hmn⟩ : ∃ m : Nat, 1 - n = m := ⟨(1 - n).toNat, by omega⟩
    have hr : Lib.decDigits m = P := by rw [← hp, hmn]; rfl
    have hm : m / 1000000000 / 1000000000 ≤ 18 := by omega
    clear hp
    go_enter Tryz.func180, Tryz.ntmps180
    go_wp2_with fail
    refine (rof_any m _ hm).mono ?_
    rintro e w1 ⟨A1, c1, rfl, F1, hb⟩
    have hl : (dig m).length ≤ 536870912 := Nat.le_trans (dig_len_le (k := 2) (by have h := pw_ten 2; rw [h]; omega)) (by omega)
    go_wp2_with fail
    refine (rtext_any A1 _ c1 (dig m) _ F1 rfl hl).mono ?_
    rintro e w2 ⟨rfl, hb2⟩
    go_wp2
    go_ret
    exact ⟨by rw [val_dig, hr]; rfl, bel_trans hb hb2⟩
end Go.Proofs.YteleohgalknkiaaGreatDoor

namespace Go.Proofs.YteleohgalknkiaaGreatDoor
open Go.RowKit Go.Proofs Go

/-- what the reference's Text of years gives -/
def PYT (f t : Int) (T : List UInt8) : Prop := (YV f t ∧ yearText f t = T) ∨ (¬ YV f t ∧ T = [])
theorem PYT.ex (f t : Int) : ∃ T, PYT f t T := by
  by_cases h : YV f t
  · exact ⟨_, .inl ⟨h, rfl⟩⟩
  · exact ⟨[], .inr ⟨h, rfl⟩⟩
theorem PYT.len {f t : Int} {T : List UInt8} (h : PYT f t T) : T.length ≤ 20 := by
  rcases h with ⟨h, rfl⟩ | ⟨_, rfl⟩
  · exact yearText_len h
  · simp
set_option maxHeartbeats 2000000 in
set_option maxRecDepth 100000 in
theorem rytext_any {f t : Int} {T : List UInt8} (w : World) (hP : PYT f t T) :
    Calls Tryz.prog 138 #[.agg #[.int .i64 f, .int .i64 t]] w fun e w' => e = .returned (.string (str T)) ∧ Below w.heap.size w w' := by
  have HX := BL.one w #[.int .i64 f, .int .i64 t] 24
  rcases hP with ⟨hv, hL⟩ | ⟨hv, rfl⟩
  · have HV := yes hv
    obtain ⟨h1, ⟨h2, h3⟩, h4, h5⟩ := hv
    obtain ⟨P, hP⟩ : ∃ P, dz (ynum f) = P := ⟨_, rfl⟩
    obtain ⟨Q, hQ⟩ : ∃ Q, dz (ynum t) = Q := ⟨_, rfl⟩
    obtain ⟨R, hR⟩ : ∃ R, yera f = R := ⟨_, rfl⟩
    obtain ⟨S, hS⟩ : ∃ S, yera t = S := ⟨_, rfl⟩
    have lP : P.length ≤ 5 := hP ▸ dz_len (by rw [ynum]; split <;> omega) (by omega) (by rw [ynum]; split <;> omega)
    have lQ : Q.length ≤ 5 := hQ ▸ dz_len (by rw [ynum]; split <;> omega) (by omega) (by rw [ynum]; split <;> omega)
    have lR : R.length = 3 := hR ▸ yera_len f
    have lS : S.length = 3 := hS ▸ yera_len t
    have sP : (str P).size = P.length := str_size P
    have sQ : (str Q).size = Q.length := str_size Q
    have sR : (str R).size = 3 := (str_size R).trans lR
    have sS : (str S).size = 3 := (str_size S).trans lS
    have hs1 : (⟨#[45]⟩ : ByteArray).size = 1 := rfl
    have n1 : ¬ 9223372036854775807 < P.length + 3 := by omega
    have n2 : ¬ 9223372036854775807 < P.length + 1 := by omega
    have n3 : ¬ 9223372036854775807 < P.length + 1 + Q.length := by omega
    have n4 : ¬ 9223372036854775807 < P.length + 1 + Q.length + 3 := by omega
    have n5 : ¬ 9223372036854775807 < P.length + 3 + 1 := by omega
    have n6 : ¬ 9223372036854775807 < P.length + 3 + 1 + Q.length := by omega
    have n7 : ¬ 9223372036854775807 < P.length + 3 + 1 + Q.length + 3 := by omega
    rw [yearText, hP, hQ, hR, hS] at hL
    have HP := Lib.hid hP
    have HQ := Lib.hid hQ
    have HR := Lib.hid hR
    have HS := Lib.hid hS
    have HL := Lib.hid hL
    clear hP hQ hR hS hL lR lS
    by_cases hft : f = t
    · have hb1 : (f == t) = true := beq_iff_eq.2 hft
      have K : Hid (P ++ R = T) := Lib.hid (by have := HL.out; rwa [if_pos hft] at this)
      clear hft HL
      go_enter Tryz.func138, Tryz.ntmps138
      go_upto_region 1 with fail
      generalize w.alloc (.cells #[.int .i64 f, .int .i64 t] 24) = W at *
      have hc00 := HX.cell 0 0 rfl rfl
      have hc01 := HX.cell 0 1 rfl rfl
      try simp only [List.getElem_toArray, List.getElem_cons_zero, List.getElem_cons_succ] at hc00 hc01
      go_wp2_with fail
      refine (rvalid4_any (b := true) _ HV).mono ?_
      rintro e w1 ⟨rfl, hb⟩
      clear hc00 hc01
      replace HX := HX.ext hb
      clear hb
      have hc00 := HX.cell 0 0 rfl rfl
      have hc01 := HX.cell 0 1 rfl rfl
      try simp only [List.getElem_toArray, List.getElem_cons_zero, List.getElem_cons_succ] at hc00 hc01
      go_upto_region 4 with fail
      clear hc00 hc01
      replace HX := HX.ext (drew_ext _)
      have held : ∀ {W' : World}, BL w W' [(w.heap.size, #[.int .i64 f, .int .i64 t], 24)] → W'.cell? ⟨w.heap.size, 0, none⟩ = some (.int .i64 f) ∧ W'.cell? ⟨w.heap.size, 1, none⟩ = some (.int .i64 t) := fun h => ⟨h.cell 0 0 rfl rfl, h.cell 0 1 rfl rfl⟩
      go_region_held3 (fun W' => W'.cell? ⟨w.heap.size, 0, none⟩ = some (.int .i64 f) ∧ W'.cell? ⟨w.heap.size, 1, none⟩ = some (.int .i64 t))
        (exact held HX)
        (first
          | (go_at_call_of 180 (Value.int .i64 f); refine (rynum_any _ h2 h3 HP).mono ?_; rintro e w2 ⟨rfl, hb⟩; replace HX := HX.ext hb; clear hb)
          | (go_at_call_of 181 (Value.int .i64 f); refine (rera_any _ HR).mono ?_; rintro e w2 ⟨rfl, hb⟩; replace HX := HX.ext hb; clear hb))
      all_goals (
        go_wp2
        go_ret
        refine ⟨?_, HX.below⟩
        rw [← K.out]; simp only [str_append]; rfl)
    · have hb1 : (f == t) = false := beq_eq_false_iff_ne.2 hft
      by_cases hrs : R = S
      · have hb2 : ((str R).toList == (str S).toList) = true := str_eq (beq_iff_eq.2 hrs)
        have K : Hid (P ++ 45 :: Q ++ S = T) := Lib.hid (by have := HL.out; rw [if_neg hft, if_pos hrs, hrs] at this; exact this)
        clear hft HL hrs
        go_enter Tryz.func138, Tryz.ntmps138
        go_upto_region 1 with fail
        generalize w.alloc (.cells #[.int .i64 f, .int .i64 t] 24) = W at *
        have hc00 := HX.cell 0 0 rfl rfl
        have hc01 := HX.cell 0 1 rfl rfl
        try simp only [List.getElem_toArray, List.getElem_cons_zero, List.getElem_cons_succ] at hc00 hc01
        go_wp2_with fail
        refine (rvalid4_any (b := true) _ HV).mono ?_
        rintro e w1 ⟨rfl, hb⟩
        clear hc00 hc01
        replace HX := HX.ext hb
        clear hb
        have hc00 := HX.cell 0 0 rfl rfl
        have hc01 := HX.cell 0 1 rfl rfl
        try simp only [List.getElem_toArray, List.getElem_cons_zero, List.getElem_cons_succ] at hc00 hc01
        go_upto_region 5 with fail
        clear hc00 hc01
        replace HX := HX.ext (drew_ext _)
        have held : ∀ {W' : World}, BL w W' [(w.heap.size, #[.int .i64 f, .int .i64 t], 24)] → W'.cell? ⟨w.heap.size, 0, none⟩ = some (.int .i64 f) ∧ W'.cell? ⟨w.heap.size, 1, none⟩ = some (.int .i64 t) := fun h => ⟨h.cell 0 0 rfl rfl, h.cell 0 1 rfl rfl⟩
        go_region_held3 (fun W' => W'.cell? ⟨w.heap.size, 0, none⟩ = some (.int .i64 f) ∧ W'.cell? ⟨w.heap.size, 1, none⟩ = some (.int .i64 t))
          (exact held HX)
          (first
            | (go_at_call_of 181 (Value.int .i64 f); refine (rera_any _ HR).mono ?_; rintro e w2 ⟨rfl, hb⟩; replace HX := HX.ext hb; clear hb)
            | (go_at_call_of 181 (Value.int .i64 t); refine (rera_any _ HS).mono ?_; rintro e w2 ⟨rfl, hb⟩; replace HX := HX.ext hb; clear hb))
        all_goals (
          have hc00 := HX.cell 0 0 rfl rfl
          have hc01 := HX.cell 0 1 rfl rfl
          try simp only [List.getElem_toArray, List.getElem_cons_zero, List.getElem_cons_succ] at hc00 hc01
          go_upto_region 6 with fail
          clear hc00 hc01
          replace HX := HX.ext (drew_ext _)
          have held : ∀ {W' : World}, BL w W' [(w.heap.size, #[.int .i64 f, .int .i64 t], 24)] → W'.cell? ⟨w.heap.size, 0, none⟩ = some (.int .i64 f) ∧ W'.cell? ⟨w.heap.size, 1, none⟩ = some (.int .i64 t) := fun h => ⟨h.cell 0 0 rfl rfl, h.cell 0 1 rfl rfl⟩
          go_region_held3 (fun W' => W'.cell? ⟨w.heap.size, 0, none⟩ = some (.int .i64 f) ∧ W'.cell? ⟨w.heap.size, 1, none⟩ = some (.int .i64 t))
            (exact held HX)
            (first
              | (go_at_call_of 180 (Value.int .i64 f); refine (rynum_any _ h2 h3 HP).mono ?_; rintro e w2 ⟨rfl, hb⟩; replace HX := HX.ext hb; clear hb)
              | (go_at_call_of 180 (Value.int .i64 t); refine (rynum_any _ h4 h5 HQ).mono ?_; rintro e w2 ⟨rfl, hb⟩; replace HX := HX.ext hb; clear hb)
              | (go_at_call_of 181 (Value.int .i64 t); refine (rera_any _ HS).mono ?_; rintro e w2 ⟨rfl, hb⟩; replace HX := HX.ext hb; clear hb))
          all_goals (
            go_wp2
            go_ret
            refine ⟨?_, HX.below⟩
            rw [← K.out, show (⟨#[45]⟩ : ByteArray) = str [45] from rfl]; simp only [str_append]; simp))
      · have hb2 : ((str R).toList == (str S).toList) = false := str_eq (beq_eq_false_iff_ne.2 hrs)
        have K : Hid (P ++ R ++ 45 :: (Q ++ S) = T) := Lib.hid (by have := HL.out; rw [if_neg hft, if_neg hrs] at this; exact this)
        clear hft HL hrs
        go_enter Tryz.func138, Tryz.ntmps138
        go_upto_region 1 with fail
        generalize w.alloc (.cells #[.int .i64 f, .int .i64 t] 24) = W at *
        have hc00 := HX.cell 0 0 rfl rfl
        have hc01 := HX.cell 0 1 rfl rfl
        try simp only [List.getElem_toArray, List.getElem_cons_zero, List.getElem_cons_succ] at hc00 hc01
        go_wp2_with fail
        refine (rvalid4_any (b := true) _ HV).mono ?_
        rintro e w1 ⟨rfl, hb⟩
        clear hc00 hc01
        replace HX := HX.ext hb
        clear hb
        have hc00 := HX.cell 0 0 rfl rfl
        have hc01 := HX.cell 0 1 rfl rfl
        try simp only [List.getElem_toArray, List.getElem_cons_zero, List.getElem_cons_succ] at hc00 hc01
        go_upto_region 5 with fail
        clear hc00 hc01
        replace HX := HX.ext (drew_ext _)
        have held : ∀ {W' : World}, BL w W' [(w.heap.size, #[.int .i64 f, .int .i64 t], 24)] → W'.cell? ⟨w.heap.size, 0, none⟩ = some (.int .i64 f) ∧ W'.cell? ⟨w.heap.size, 1, none⟩ = some (.int .i64 t) := fun h => ⟨h.cell 0 0 rfl rfl, h.cell 0 1 rfl rfl⟩
        go_region_held3 (fun W' => W'.cell? ⟨w.heap.size, 0, none⟩ = some (.int .i64 f) ∧ W'.cell? ⟨w.heap.size, 1, none⟩ = some (.int .i64 t))
          (exact held HX)
          (first
            | (go_at_call_of 181 (Value.int .i64 f); refine (rera_any _ HR).mono ?_; rintro e w2 ⟨rfl, hb⟩; replace HX := HX.ext hb; clear hb)
            | (go_at_call_of 181 (Value.int .i64 t); refine (rera_any _ HS).mono ?_; rintro e w2 ⟨rfl, hb⟩; replace HX := HX.ext hb; clear hb))
        all_goals (
          have hc00 := HX.cell 0 0 rfl rfl
          have hc01 := HX.cell 0 1 rfl rfl
          try simp only [List.getElem_toArray, List.getElem_cons_zero, List.getElem_cons_succ] at hc00 hc01
          go_upto_region 7 with fail
          clear hc00 hc01
          replace HX := HX.ext (drew_ext _)
          have held : ∀ {W' : World}, BL w W' [(w.heap.size, #[.int .i64 f, .int .i64 t], 24)] → W'.cell? ⟨w.heap.size, 0, none⟩ = some (.int .i64 f) ∧ W'.cell? ⟨w.heap.size, 1, none⟩ = some (.int .i64 t) := fun h => ⟨h.cell 0 0 rfl rfl, h.cell 0 1 rfl rfl⟩
          go_region_held3 (fun W' => W'.cell? ⟨w.heap.size, 0, none⟩ = some (.int .i64 f) ∧ W'.cell? ⟨w.heap.size, 1, none⟩ = some (.int .i64 t))
            (exact held HX)
            (first
              | (go_at_call_of 180 (Value.int .i64 f); refine (rynum_any _ h2 h3 HP).mono ?_; rintro e w2 ⟨rfl, hb⟩; replace HX := HX.ext hb; clear hb)
              | (go_at_call_of 180 (Value.int .i64 t); refine (rynum_any _ h4 h5 HQ).mono ?_; rintro e w2 ⟨rfl, hb⟩; replace HX := HX.ext hb; clear hb)
              | (go_at_call_of 181 (Value.int .i64 f); refine (rera_any _ HR).mono ?_; rintro e w2 ⟨rfl, hb⟩; replace HX := HX.ext hb; clear hb)
              | (go_at_call_of 181 (Value.int .i64 t); refine (rera_any _ HS).mono ?_; rintro e w2 ⟨rfl, hb⟩; replace HX := HX.ext hb; clear hb))
          all_goals (
            go_wp2
            go_ret
            refine ⟨?_, HX.below⟩
            rw [← K.out, show (⟨#[45]⟩ : ByteArray) = str [45] from rfl]; simp only [str_append]; simp))
  · have HV := no hv
    go_enter Tryz.func138, Tryz.ntmps138
    go_upto_region 1 with fail
    generalize w.alloc (.cells #[.int .i64 f, .int .i64 t] 24) = W at *
    have hc00 := HX.cell 0 0 rfl rfl
    have hc01 := HX.cell 0 1 rfl rfl
    try simp only [List.getElem_toArray, List.getElem_cons_zero, List.getElem_cons_succ] at hc00 hc01
    go_wp2_with fail
    refine (rvalid4_any (b := false) _ HV).mono ?_
    rintro e w1 ⟨rfl, hb⟩
    clear hc00 hc01
    replace HX := HX.ext hb
    clear hb
    go_wp2
    go_ret
    exact ⟨by first | rfl | trivial, HX.below⟩
end Go.Proofs.YteleohgalknkiaaGreatDoor
