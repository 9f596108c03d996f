/- The coefficients of all pairs of hoards. -/
import Derived.Test.YthempimelfmipaaGreatDoorMath
import Derived.Test.YthempimelfmipaaGreatDoorHops
import Derived.Test.YthempimelfmipaaGreatDoorQMath
import Derived.Test.YthempimelfmipaaGreatDoorFrac5
import Derived.Test.YthempimelfmipaaGreatDoorHoist
import Derived.Laws.AppendOwn
import Derived.Test.YthempimelfmipaaGreatDoorSpM
import Derived.Maps.OwnSet
import Derived.Maps.OwnOps
import Derived.Test.YthempimelfmipaaGreatDoorSm1M
import Derived.BigQuiet
namespace Go.Proofs.YthempimelfmipaaGreatDoor

/-- all orders of a list of n numbers, in the list's order -/
def lexP : Nat → List Int → List (List Int)
  | 0, _ => [[]]
  | n + 1, s => s.flatMap fun x => (lexP n (s.erase x)).map (x :: ·)
theorem mem_lexP : ∀ {n : Nat} {s o : List Int}, s.length = n → o.Perm s → o ∈ lexP n s
  | 0, s, o, hs, h => by
    have h1 := h.length_eq
    rw [hs] at h1
    rw [List.eq_nil_of_length_eq_zero h1]
    exact List.mem_singleton.2 rfl
  | n + 1, s, [], hs, h => by
    have h1 := h.length_eq
    rw [hs] at h1
    cases h1
  | n + 1, s, x :: o, hs, h => by
    have hx : x ∈ s := h.mem_iff.1 List.mem_cons_self
    have h1 : o.Perm (s.erase x) := List.Perm.cons_inv (h.trans (List.perm_cons_erase hx))
    rw [lexP, List.mem_flatMap]
    exact ⟨x, hx, List.mem_map.2 ⟨o, mem_lexP (by rw [List.length_erase_of_mem hx, hs]; rfl) h1, rfl⟩⟩
theorem lexP_perm : ∀ {n : Nat} {s o : List Int}, s.length = n → o ∈ lexP n s → o.Perm s
  | 0, s, o, hs, h => by
    rw [List.eq_nil_of_length_eq_zero hs, List.mem_singleton.1 h]
  | n + 1, s, o, hs, h => by
    rw [lexP, List.mem_flatMap] at h
    obtain ⟨x, hx, h⟩ := h
    obtain ⟨p, hp, rfl⟩ := List.mem_map.1 h
    exact (List.Perm.cons x (lexP_perm (by rw [List.length_erase_of_mem hx, hs]; rfl) hp)).trans (List.perm_cons_erase hx).symm
def el (l : List Int) (i : Nat) : Int := l[i]?.getD 0
/-- where the next order differs first: from place k - 1 downwards -/
def pivF (l : List Int) : Nat → Option Nat
  | 0 => none
  | i + 1 => if el l i > el l (i + 1) then pivF l i else some i
/-- the last place, from k downwards, whose number is not less than a number -/
def upF (l : List Int) (x : Int) : Nat → Nat
  | 0 => 0
  | k + 1 => if el l (k + 1) < x then upF l x k else k + 1
/-- the next order -/
def nextL (l : List Int) : Option (List Int) := match pivF l (l.length - 1) with
  | none => none
  | some i =>
    let k := upF l (el l i) (l.length - 1)
    let m := (l.set i (el l k)).set k (el l i)
    some (m.take (i + 1) ++ (m.drop (i + 1)).reverse)
/-- an order and those behind it -/
def runL : Nat → List Int → List (List Int)
  | 0, l => [l]
  | f + 1, l => l :: match nextL l with
    | none => []
    | some m => runL f m
def ups (n : Nat) : List Int := (List.range n).map fun (i : Nat) => (i : Int)
theorem run_lex : ∀ n, n ≤ 6 → runL 719 (ups n) = lexP n (ups n)
  | 0, _ => by decide +kernel
  | 1, _ => by decide +kernel
  | 2, _ => by decide +kernel
  | 3, _ => by decide +kernel
  | 4, _ => by decide +kernel
  | 5, _ => by decide +kernel
  | 6, _ => by decide +kernel
  | n + 7, h => by omega
/-- the first of the least, behind a best one so far -/
def bestR (ev : List Int → Nat) : List (List Int) → List Int × Nat → List Int × Nat
  | [], b => b
  | o :: l, b => if ev o < b.2 then bestR ev l (o, ev o) else bestR ev l b
theorem bestR_least (ev : List Int → Nat) : ∀ (l : List (List Int)) (b : List Int × Nat), (bestR ev l b).2 ≤ b.2 ∧ ∀ o ∈ l, (bestR ev l b).2 ≤ ev o
  | [], b => ⟨Nat.le_refl _, fun o h => by cases h⟩
  | o :: l, b => by
    rw [bestR]
    by_cases h : ev o < b.2
    · rw [if_pos h]
      obtain ⟨h1, h2⟩ := bestR_least ev l (o, ev o)
      refine ⟨Nat.le_trans h1 (Nat.le_of_lt h), fun x hx => ?_⟩
      rcases List.mem_cons.1 hx with rfl | hx
      · exact h1
      · exact h2 x hx
    · rw [if_neg h]
      obtain ⟨h1, h2⟩ := bestR_least ev l b
      refine ⟨h1, fun x hx => ?_⟩
      rcases List.mem_cons.1 hx with rfl | hx
      · exact Nat.le_trans h1 (by omega)
      · exact h2 x hx
theorem bestR_own (ev : List Int → Nat) : ∀ (l : List (List Int)) (b : List Int × Nat), b.2 = ev b.1 → (bestR ev l b).2 = ev (bestR ev l b).1
  | [], _, h => h
  | o :: l, b, h => by
    rw [bestR]
    split
    · exact bestR_own ev l _ rfl
    · exact bestR_own ev l b h
theorem bestR_mem (ev : List Int → Nat) : ∀ (l : List (List Int)) (b : List Int × Nat), (bestR ev l b).1 = b.1 ∨ (bestR ev l b).1 ∈ l
  | [], _ => .inl rfl
  | o :: l, b => by
    rw [bestR]
    split
    · rcases bestR_mem ev l (o, ev o) with h | h
      · exact .inr (by rw [h]; exact List.mem_cons_self)
      · exact .inr (List.mem_cons_of_mem _ h)
    · rcases bestR_mem ev l b with h | h
      · exact .inl h
      · exact .inr (List.mem_cons_of_mem _ h)
end Go.Proofs.YthempimelfmipaaGreatDoor

namespace Go.Proofs.YthempimelfmipaaGreatDoor

/-- the sum of f below n -/
def sumB (f : Nat → Nat) : Nat → Nat
  | 0 => 0
  | n + 1 => sumB f n + f n
/-- the sum of f from a on, k terms -/
def sumF (f : Nat → Nat) (a : Nat) : Nat → Nat
  | 0 => 0
  | k + 1 => sumF f a k + f (a + k)
theorem sumB_add (f g : Nat → Nat) : ∀ n, sumB (fun i => f i + g i) n = sumB f n + sumB g n
  | 0 => rfl
  | n + 1 => by rw [sumB, sumB, sumB, sumB_add f g n]; omega
theorem sumB_congr {f g : Nat → Nat} : ∀ {n : Nat}, (∀ i, i < n → f i = g i) → sumB f n = sumB g n
  | 0, _ => rfl
  | n + 1, h => by rw [sumB, sumB, sumB_congr fun i hi => h i (by omega), h n (by omega)]
theorem sumB_zero : ∀ n, sumB (fun _ => 0) n = 0
  | 0 => rfl
  | n + 1 => by rw [sumB, sumB_zero n]
/-- pairs p < q < n: by q, and by p -/
theorem pairs_eq (g : Nat → Nat → Nat) : ∀ n, sumB (fun q => sumB (fun p => g p q) q) n = sumB (fun p => sumF (g p) (p + 1) (n - (p + 1))) n
  | 0 => rfl
  | n + 1 => by
    have h1 : sumB (fun p => sumF (g p) (p + 1) (n + 1 - (p + 1))) n = sumB (fun p => sumF (g p) (p + 1) (n - (p + 1)) + g p n) n := sumB_congr fun p hp => by
      rw [show n + 1 - (p + 1) = n - (p + 1) + 1 by omega, sumF, show p + 1 + (n - (p + 1)) = n by omega]
    have h2 : sumF (g n) (n + 1) (n + 1 - (n + 1)) = 0 := by rw [Nat.sub_self]; rfl
    rw [sumB, pairs_eq g n, sumB, h1, h2, sumB_add]; omega
theorem sumF_add (f g : Nat → Nat) (a : Nat) : ∀ k, sumF (fun i => f i + g i) a k = sumF f a k + sumF g a k
  | 0 => rfl
  | k + 1 => by rw [sumF, sumF, sumF, sumF_add f g a k]; omega
theorem sumF_congr {f g : Nat → Nat} {a : Nat} : ∀ {k : Nat}, (∀ i, i < k → f (a + i) = g (a + i)) → sumF f a k = sumF g a k
  | 0, _ => rfl
  | k + 1, h => by rw [sumF, sumF, sumF_congr fun i hi => h i (by omega), h k (by omega)]
/-- triples p < q < r < n: by r, q, p, and by p, q, r -/
theorem triples_eq (f : Nat → Nat → Nat → Nat) : ∀ n, sumB (fun r => sumB (fun q => sumB (fun p => f p q r) q) r) n = sumB (fun p => sumF (fun q => sumF (f p q) (q + 1) (n - (q + 1))) (p + 1) (n - (p + 1))) n
  | 0 => rfl
  | n + 1 => by
    have h1 : sumB (fun p => sumF (fun q => sumF (f p q) (q + 1) (n + 1 - (q + 1))) (p + 1) (n + 1 - (p + 1))) n = sumB (fun p => sumF (fun q => sumF (f p q) (q + 1) (n - (q + 1))) (p + 1) (n - (p + 1)) + sumF (fun q => f p q n) (p + 1) (n - (p + 1))) n := sumB_congr fun p hp => by
      have h3 : sumF (f p n) (n + 1) (n + 1 - (n + 1)) = 0 := by rw [Nat.sub_self]; rfl
      rw [show n + 1 - (p + 1) = n - (p + 1) + 1 by omega, sumF, show p + 1 + (n - (p + 1)) = n by omega, h3, Nat.add_zero, ← sumF_add]
      exact sumF_congr fun i hi => by
        rw [show n + 1 - (p + 1 + i + 1) = n - (p + 1 + i + 1) + 1 by omega, sumF, show p + 1 + i + 1 + (n - (p + 1 + i + 1)) = n by omega]
    have h2 : sumF (fun q => sumF (f n q) (q + 1) (n + 1 - (q + 1))) (n + 1) (n + 1 - (n + 1)) = 0 := by rw [Nat.sub_self]; rfl
    rw [sumB, triples_eq f n, sumB, h1, h2, sumB_add, pairs_eq (fun p q => f p q n) n]; omega
end Go.Proofs.YthempimelfmipaaGreatDoor

namespace Go.Proofs.YthempimelfmipaaGreatDoor

theorem sumF_eq (g : Nat → Nat) (a : Nat) : ∀ k, sumF g a k = sumB (fun i => g (a + i)) k
  | 0 => rfl
  | k + 1 => by rw [sumF, sumB, sumF_eq g a k]
theorem sumB_head (g : Nat → Nat) : ∀ n, sumB g (n + 1) = g 0 + sumB (fun i => g (i + 1)) n
  | 0 => by simp [sumB]
  | n + 1 => by rw [sumB, sumB_head g n, sumB]; omega
theorem sumB_rev : ∀ (n : Nat) (g : Nat → Nat), sumB g n = sumB (fun i => g (n - 1 - i)) n
  | 0, _ => rfl
  | n + 1, g => by
    rw [sumB_head, sumB_rev n (fun i => g (i + 1)), sumB]
    have h1 : sumB (fun i => g (n + 1 - 1 - i)) n = sumB (fun i => g (n - 1 - i + 1)) n := sumB_congr fun i hi => by
      rw [show n + 1 - 1 - i = n - 1 - i + 1 by omega]
    rw [h1, show n + 1 - 1 - n = 0 by omega]; omega
theorem sumF_rev (g : Nat → Nat) {a n : Nat} (h : a ≤ n) : sumF g a (n - a) = sumB (fun i => g (n - 1 - i)) (n - a) := by
  rw [sumF_eq, sumB_rev]
  exact sumB_congr fun i hi => by rw [show a + (n - a - 1 - i) = n - 1 - i by omega]
/-- triples p < q < r < n, and those of the opposite order -/
theorem triples_rev (f : Nat → Nat → Nat → Nat) (n : Nat) : sumB (fun r => sumB (fun q => sumB (fun p => f p q r) q) r) n = sumB (fun r => sumB (fun q => sumB (fun p => f (n - 1 - r) (n - 1 - q) (n - 1 - p)) q) r) n := by
  rw [triples_eq, sumB_rev]
  refine sumB_congr fun r hr => ?_
  rw [show n - 1 - r + 1 = n - r by omega, sumF_rev _ (by omega), show n - (n - r) = r by omega]
  refine sumB_congr fun q hq => ?_
  rw [show n - 1 - q + 1 = n - q by omega, sumF_rev _ (by omega), show n - (n - q) = q by omega]
/-- does x exceed y -/
def gtQ (x y : Rat) : Nat := if y < x then 1 else 0
/-- the events of three places -/
def tri (M : Int → Int → Rat) (a b c : Int) : Nat := gtQ (M a c) (M a b) + gtQ (M a c) (M b c)
/-- the events of an order -/
def evs (M : Int → Int → Rat) (l : List Int) : Nat := sumB (fun r => sumB (fun q => sumB (fun p => tri M (el l p) (el l q) (el l r)) q) r) l.length
theorem el_rev {l : List Int} {i : Nat} (h : i < l.length) : el l.reverse i = el l (l.length - 1 - i) := by
  rw [el, el, List.getElem?_reverse h]
theorem el_mem {l : List Int} {i : Nat} (h : i < l.length) : el l i ∈ l := by
  rw [el, List.getElem?_eq_getElem h]; exact List.getElem_mem h
theorem evs_rev (M : Int → Int → Rat) (l : List Int) (hM : ∀ a ∈ l, ∀ b ∈ l, M a b = M b a) : evs M l.reverse = evs M l := by
  rw [evs, evs, List.length_reverse, triples_rev (fun p q r => tri M (el l p) (el l q) (el l r))]
  refine sumB_congr fun r hr => sumB_congr fun q hq => sumB_congr fun p hp => ?_
  rw [el_rev (by omega), el_rev (by omega), el_rev (by omega)]
  have h1 := hM _ (el_mem (l := l) (i := l.length - 1 - r) (by omega)) _ (el_mem (l := l) (i := l.length - 1 - q) (by omega))
  have h2 := hM _ (el_mem (l := l) (i := l.length - 1 - r) (by omega)) _ (el_mem (l := l) (i := l.length - 1 - p) (by omega))
  have h3 := hM _ (el_mem (l := l) (i := l.length - 1 - q) (by omega)) _ (el_mem (l := l) (i := l.length - 1 - p) (by omega))
  rw [tri, tri, h1, h2, h3]; omega
theorem evs_ref (M : Int → Int → Rat) (l : List Int) : evs M l = sumB (fun p => sumF (fun q => sumF (fun r => tri M (el l p) (el l q) (el l r)) (q + 1) (l.length - (q + 1))) (p + 1) (l.length - (p + 1))) l.length :=
  triples_eq (fun p q r => tri M (el l p) (el l q) (el l r)) l.length
theorem sumB_le {f : Nat → Nat} {b : Nat} : ∀ {n : Nat}, (∀ i, i < n → f i ≤ b) → sumB f n ≤ n * b
  | 0, _ => by simp [sumB]
  | n + 1, h => by
    have h1 := sumB_le (n := n) fun i hi => h i (by omega)
    have h2 := h n (by omega)
    rw [sumB, Nat.succ_mul]; omega
theorem tri_le (M : Int → Int → Rat) (a b c : Int) : tri M a b c ≤ 2 := by
  rw [tri, gtQ, gtQ]; split <;> split <;> omega
/-- all orders of n numbers, behind the first one -/
def bestO (M : Int → Int → Rat) (n : Nat) : List Int × Nat := bestR (evs M) ((runL 719 (ups n)).drop 1) (ups n, evs M (ups n))
theorem run_head (f : Nat) (l : List Int) : runL f l = l :: (runL f l).drop 1 := by
  cases f <;> rw [runL] <;> rfl
/-- numbers below n, each once -/
def IsOrd (l : List Int) (n : Nat) : Prop := l.Perm (ups n)
theorem ups_len (n : Nat) : (ups n).length = n := by simp [ups]
theorem mem_ups {n : Nat} {x : Int} : x ∈ ups n ↔ 0 ≤ x ∧ x < n := by
  rw [ups, List.mem_map]
  constructor
  · rintro ⟨i, hi, rfl⟩
    have := List.mem_range.1 hi
    omega
  · intro h
    exact ⟨x.toNat, List.mem_range.2 (by omega), by omega⟩
theorem IsOrd.len {l : List Int} {n : Nat} (h : IsOrd l n) : l.length = n := by rw [h.length_eq, ups_len]
theorem IsOrd.bd {l : List Int} {n : Nat} (h : IsOrd l n) {x : Int} (hx : x ∈ l) : 0 ≤ x ∧ x < n := mem_ups.1 (h.mem_iff.1 hx)
theorem IsOrd.run {l : List Int} {n : Nat} (hn : n ≤ 6) : IsOrd l n ↔ l ∈ runL 719 (ups n) := by
  rw [run_lex n hn]
  exact ⟨fun h => mem_lexP (ups_len n) h, fun h => lexP_perm (ups_len n) h⟩
theorem bestO_ord (M : Int → Int → Rat) {n : Nat} (hn : n ≤ 6) : IsOrd (bestO M n).1 n := by
  rw [bestO]
  rcases bestR_mem (evs M) ((runL 719 (ups n)).drop 1) (ups n, evs M (ups n)) with h | h
  · rw [h]; exact List.Perm.refl _
  · refine (IsOrd.run hn).2 ?_
    rw [run_head]; exact List.mem_cons_of_mem _ h
theorem bestO_own (M : Int → Int → Rat) (n : Nat) : (bestO M n).2 = evs M (bestO M n).1 := bestR_own _ _ _ rfl
theorem bestO_least (M : Int → Int → Rat) {n : Nat} (hn : n ≤ 6) {l : List Int} (h : IsOrd l n) : (bestO M n).2 ≤ evs M l := by
  obtain ⟨h1, h2⟩ := bestR_least (evs M) ((runL 719 (ups n)).drop 1) (ups n, evs M (ups n))
  have h3 := (IsOrd.run hn).1 h
  rw [run_head] at h3
  rcases List.mem_cons.1 h3 with rfl | h3
  · exact h1
  · exact h2 l h3
theorem IsOrd.rev {l : List Int} {n : Nat} (h : IsOrd l n) : IsOrd l.reverse n := (List.reverse_perm l).trans h
theorem IsOrd.rev_iff {l : List Int} {n : Nat} : IsOrd l.reverse n ↔ IsOrd l n := ⟨fun h => (List.reverse_perm l).symm.trans h, IsOrd.rev⟩
end Go.Proofs.YthempimelfmipaaGreatDoor

namespace Go.Proofs.YthempimelfmipaaGreatDoor
open Go.RowKit Go.Proofs Go

structure FE where
  s : Bool
  A : Option Addr
  n : Nat
  c : Nat
  B : Option Addr
  m : Nat
  d : Nat
def FE.val (x : FE) : Value := .agg #[.bool x.s, .slice x.A x.n x.c, .slice x.B x.m x.d]
def FS (w : World) (A : Option Addr) (fs : List FE) : Prop :=
  0 < fs.length → ∃ ad, A = some ad ∧ ad.block < w.heap.size ∧ ∀ i x, fs[i]? = some x → w.cell? (ad.add (i * 3)) = some (.bool x.s) ∧ w.cell? ⟨(ad.add (i * 3)).block, (ad.add (i * 3)).off + 1, none⟩ = some (.slice x.A x.n x.c) ∧ w.cell? ⟨(ad.add (i * 3)).block, (ad.add (i * 3)).off + 2, none⟩ = some (.slice x.B x.m x.d)def FE.cells (x : FE) : List Value := [.bool x.s, .slice x.A x.n x.c, .slice x.B x.m x.d]
theorem FE.flat_at : ∀ (fs : List FE) (i j : Nat) (x : FE), fs[i]? = some x → j < 3 → (fs.flatMap FE.cells)[i * 3 + j]? = x.cells[j]?
  | [], i, j, x, h, _ => by simp at h
  | y :: fs, 0, j, x, h, hj => by
    simp at h; subst h
    rw [List.flatMap_cons, List.getElem?_append_left (by simp [FE.cells]; omega), Nat.zero_mul, Nat.zero_add]
  | y :: fs, i + 1, j, x, h, hj => by
    rw [List.flatMap_cons, List.getElem?_append_right (by simp [FE.cells]; omega)]
    rw [show (i + 1) * 3 + j - y.cells.length = i * 3 + j from by simp [FE.cells]; omega]
    exact FE.flat_at fs i j x (by simpa using h) hj
/-- a slice literal of fractions -/
def rsum (qs : List Rat) : Rat := qs.foldl (· + ·) 0
theorem rsum_succ {qs : List Rat} {k : Nat} {q : Rat} (h : qs[k]? = some q) : rsum (qs.take k) + q = rsum (qs.take (k + 1)) := by
  obtain ⟨hk, rfl⟩ := List.getElem?_eq_some_iff.1 h
  rw [List.take_succ_eq_append_getElem hk, rsum, rsum, List.foldl_append]; rfl
/-- the fractions of a list, and their numbers -/
structure FA (w : World) (fs : List FE) (qs : List Rat) : Prop where
  len : fs.length = qs.length
  fr : ∀ (i : Nat) (x : FE) (q : Rat), fs[i]? = some x → qs[i]? = some q → Fr w x.s x.A x.n x.c x.B x.m x.d q 6
theorem FA.ext {w w' : World} {fs : List FE} {qs : List Rat} (h : FA w fs qs) (hb : Below w.heap.size w w') : FA w' fs qs := ⟨h.len, fun i x q h1 h2 => (h.fr i x q h1 h2).ext hb⟩
theorem FS.ext {w w' : World} {A : Option Addr} {fs : List FE} (h : FS w A fs) (hb : Below w.heap.size w w') : FS w' A fs := fun h0 => by
  obtain ⟨ad, h1, h2, h3⟩ := h h0
  refine ⟨ad, h1, Nat.lt_of_lt_of_le h2 hb.size, fun i x hx => ?_⟩
  obtain ⟨a, b, c⟩ := h3 i x hx
  exact ⟨by rw [hb.cell (cell_lt a)]; exact a, by rw [hb.cell (cell_lt b)]; exact b, by rw [hb.cell (cell_lt c)]; exact c⟩
theorem rsum_sz {w : World} {fs : List FE} {qs : List Rat} (h : FA w fs qs) : ∀ k, k ≤ qs.length → Sz (rsum (qs.take k)) (1 + 8 * k)
  | 0, _ => sz_lit false (a := 0) (b := 1) (by omega) (by omega)
  | k + 1, hk => by
    have h1 := rsum_sz h k (by omega)
    have hx := h.fr k _ _ (List.getElem?_eq_getElem (by have := h.len; omega)) (List.getElem?_eq_getElem (show k < qs.length by omega))
    rw [← rsum_succ (List.getElem?_eq_getElem (show k < qs.length by omega))]
    exact (h1.add hx.sz).mono (by omega)

/-- the cells of fractions -/
def fcells (fs : List FE) : List Value := fs.flatMap FE.cells
theorem fcells_len (fs : List FE) : (fcells fs).length = fs.length * 3 := by
  induction fs with
  | nil => rfl
  | cons x l ih =>
    have : fcells (x :: l) = x.cells ++ fcells l := rfl
    rw [this, List.length_append, ih, List.length_cons, show x.cells.length = 3 from rfl]; omega
theorem fcells_snoc (fs : List FE) (x : FE) : fcells (fs ++ [x]) = fcells fs ++ x.cells := by simp [fcells]
/-- the call owns a row of fractions -/
def FOwn (w : World) (B : Nat) (A : Option Addr) (c : Nat) (fs : List FE) : Prop := w.ownsRow B 33 3 (.slice A fs.length c) fs.length (fcells fs)
section
variable {w w' : World} {B c : Nat} {A : Option Addr} {fs : List FE}
theorem FOwn.nil (w : World) (B : Nat) : FOwn w B none 0 [] := World.ownsRow_nil w B _ 3
theorem FOwn.alloc (h : FOwn w B A c fs) (o : Obj) : FOwn (w.alloc o) B A c fs := World.ownsRow.alloc h o
theorem FOwn.ext (h : FOwn w B A c fs) (hb : Below w.heap.size w w') : FOwn w' B A c fs :=
  World.ownsRow.kept h (grown_of_below hb none) (by cases A <;> simp [Value.ownBlock])
theorem FOwn.off (h : FOwn w B A c fs) {p : Addr} (hp : p.block < B) (v : Value) : FOwn (w.setCell p v) B A c fs := by
  refine World.ownsRow.kept h (row := some p.block) ⟨rfl, rfl, rfl, by simp [World.setCell], fun i _ hne => Below.heap_setCell w p v i fun e => hne (by rw [e])⟩ ?_
  cases A with
  | none => left; rfl
  | some a =>
    right
    intro e
    have := (World.ownsRow.lt h _ e).1
    omega
theorem FOwn.blk (h : FOwn w B A c fs) : ∀ ad, A = some ad → ad.block < w.heap.size := fun ad e => by
  rcases h.2 with ⟨hv, _⟩ | ⟨g, cap, cur, hv, _, hg, _⟩
  · injection hv with hA _ _
    rw [e] at hA; cases hA
  · injection hv with hA _ _
    rw [e] at hA
    obtain rfl := Option.some.inj hA
    exact (Array.getElem?_eq_some_iff.1 hg).1
theorem FOwn.far (h : FOwn w B A c fs) {p : Addr} (hp : ∀ ad, A = some ad → ad.block ≠ p.block) (v : Value) : FOwn (w.setCell p v) B A c fs := by
  refine World.ownsRow.kept h (row := some p.block) ⟨rfl, rfl, rfl, by simp [World.setCell], fun i _ hne => Below.heap_setCell w p v i fun e => hne (by rw [e])⟩ ?_
  cases A with
  | none => left; rfl
  | some a =>
    right
    intro e
    exact hp a rfl (by simpa [Value.ownBlock] using e)
theorem FOwn.row (h : FOwn w B A c fs) : FS w A fs := fun h0 => by
  have h1 := h
  rcases h1.2 with ⟨_, h2⟩ | ⟨g, cap, cur, hv, _, hg, _⟩
  · omega
  · injection hv with hA _ _
    subst hA
    refine ⟨_, rfl, (Array.getElem?_eq_some_iff.1 hg).1, fun i x hx => ?_⟩
    have c0 := World.ownsRow.cells h rfl (i * 3 + 0) _ ((FE.flat_at fs i 0 x hx (by omega)).trans (show x.cells[0]? = some (.bool x.s) from rfl))
    have c1 := World.ownsRow.cells h rfl (i * 3 + 1) _ ((FE.flat_at fs i 1 x hx (by omega)).trans (show x.cells[1]? = some (.slice x.A x.n x.c) from rfl))
    have c2 := World.ownsRow.cells h rfl (i * 3 + 2) _ ((FE.flat_at fs i 2 x hx (by omega)).trans (show x.cells[2]? = some (.slice x.B x.m x.d) from rfl))
    rw [Addr.add_lit, Nat.zero_add] at c0 c1 c2 ⊢
    exact ⟨c0, c1, c2⟩
end
theorem undFrac : Tryz.prog.underlying 51 = some (.slice 33) := Tryz.underlying51
theorem infoFrac : (Tryz.prog.info? 33).map (fun i => (i.zero, i.size, i.bytes)) = some (some (.agg #[.bool false, .slice none 0 0, .slice none 0 0]), 3, 56) := by kernel_rfl
/-- a block that holds no number -/
def NoI (w : World) (g : Nat) : Prop := ∃ cs T fr, w.heap[g]? = some (.cells cs T fr) ∧ ∀ u ∈ cs.toList, Value.noInt u = true
theorem NoI.of {w w' : World} {g : Nat} (h : NoI w g) (hb : w'.heap[g]? = w.heap[g]?) : NoI w' g := by
  obtain ⟨cs, T, fr, h1, h2⟩ := h
  exact ⟨cs, T, fr, hb.trans h1, h2⟩
theorem NoI.lt {w : World} {g : Nat} (h : NoI w g) : g < w.heap.size := by
  obtain ⟨cs, T, fr, h1, _⟩ := h
  exact (Array.getElem?_eq_some_iff.1 h1).1
theorem NoI.ext {w w' : World} {g : Nat} (h : NoI w g) (hb : Below w.heap.size w w') : NoI w' g := h.of (hb.block g h.lt)
theorem NoI.no {w : World} {p : Addr} {k : IntKind} {n : Int} (h : NoI w p.block) : w.cell? p ≠ some (.int k n) := fun e => by
  obtain ⟨cs, T, fr, h1, h2⟩ := h
  simp only [World.cell?, h1] at e
  split at e
  · cases e
  · have h3 := h2 _ (Array.mem_toList_iff.2 (Array.mem_of_getElem? e))
    cases h3
section
variable {P : Program} (w : World)
theorem run_append_ni (base : Nat) (t ty e : TypeId) (i : TypeInfo) (z : Value) (size bytes : Nat) (ht : P.underlying t = some (.slice e)) (hi : P.info? e = some i) (hz : i.zero = some z)
    (hsize : i.size = size) (hby : i.bytes = bytes) (hzs : z.cells.size = size) (hsz : 0 < size)
    (v : Value) (n : Nat) (xs : List Value) (hown : w.ownsRow base e size v n xs)
    (a : Addr) (m c : Nat) (news : List Value) (hl : news.length = m * size) (hnews : ∀ j u, news[j]? = some u → w.cell? (a.add j) = some u) (h1 : ∀ u ∈ news, u.oneCell' = true) (hm : 0 < m)
    (h63 : n + m ≤ maxLen) (hbytes : (n + m) * bytes ≤ 140737488355328) (hbase : base ≤ w.heap.size)
    (hni : ∀ g, v.ownBlock = some g → NoI w g) (hxn : ∀ u ∈ xs, Value.noInt u = true) (hnn : ∀ u ∈ news, Value.noInt u = true) (hzn : ∀ u ∈ z.cells.toList, Value.noInt u = true) :
    ∃ v' w', (Builtin.append_ #[t, t] ty #[v, .slice (some a) m c]).run P w = .ok v' w' ∧ w'.ownsRow base e size v' (n + m) (xs ++ news) ∧ w.grownBy w' v.ownBlock ∧ Keep w w' ∧ (∀ g, v'.ownBlock = some g → NoI w' g) := by
  obtain ⟨v', w', hr, h2, h3, _⟩ := run_append_own w base t ty e i z size bytes ht hi hz hsize hby hzs hsz v n xs hown a m c news hl hnews h1 h63 hbytes hbase
  refine ⟨v', w', hr, h2, h3, ?_⟩
  subst hsize hby
  have hz0 : ∀ k, ∀ u ∈ (Builtin.zeroCells z.cells k).toList, Value.noInt u = true := fun k u hu => by
    simp [Builtin.zeroCells] at hu
    obtain ⟨j, _, rfl⟩ := hu
    have hj : j % z.cells.size < z.cells.size := Nat.mod_lt _ (by omega)
    refine hzn _ (Array.mem_toList_iff.2 ?_)
    rw [getElem!_pos z.cells _ hj]
    exact Array.getElem_mem hj
  have fin : ∀ (cs : Array Value), w.drew.alloc (.cells cs e) = w' → (∃ n c, .slice (some ⟨w.heap.size, 0, none⟩) n c = v') → (∀ u ∈ cs.toList, Value.noInt u = true) → Keep w w' ∧ (∀ g, v'.ownBlock = some g → NoI w' g) := fun cs hw hv hcs => by
    subst hw
    obtain ⟨n, c, rfl⟩ := hv
    refine ⟨(Keep.refl w).drew.alloc _, fun g hg => ?_⟩
    simp [Value.ownBlock] at hg
    subst hg
    exact ⟨cs, e, (0, 0), heap_alloc_new w.drew _, hcs⟩
  rcases hown.2 with ⟨rfl, rfl⟩ | ⟨k, cap, cur, rfl, _, hk, _, _, hcs, _⟩
  · have hx : xs = [] := List.eq_nil_of_length_eq_zero (by simpa using hown.1)
    subst hx
    have hr2 := run_append_nil (P := P) w t ty e i z ht hi hz a m c news hl hnews hm (by unfold maxLen at h63; omega) (by have hb := hbytes; simp only [Nat.zero_add] at hb; omega)
    have he := hr2.symm.trans hr
    injection he with he1 he2
    exact fin _ he2 ⟨_, _, he1⟩ (fun u hu => by
      rw [Array.toList_append, List.mem_append] at hu
      rcases hu with hu | hu
      · exact hnn u (by simpa using hu)
      · exact hz0 _ u hu)
  · by_cases hroom : n + m ≤ cap
    · have hfit : n * i.size + news.length ≤ cur.size := by rw [hl, hcs, ← Nat.add_mul]; exact Nat.mul_le_mul_right _ hroom
      have hr2 := run_append_room (P := P) w t ty e i ht hi k n cap cur hk a m c news hl hnews h1 hroom hfit
      have he := hr2.symm.trans hr
      injection he with he1 he2
      subst he1 he2
      have hkn := hni k rfl
      refine ⟨⟨h3.size, fun p kk nn hp => ?_⟩, fun g hg => ?_⟩
      · have hne : p.block ≠ k := fun e => by
          subst e
          exact hkn.no hp
        rw [World.cell?_of_block (w := w) (setRow_other w k p.block _ hne)]; exact hp
      · simp [Value.ownBlock] at hg
        subst hg
        refine ⟨_, e, (0, 0), setRow_heap w k cur _ e _ hk, fun u hu => ?_⟩
        obtain ⟨cs2, T2, fr2, hk2, hall⟩ := hkn
        rw [hk] at hk2
        injection hk2 with hk2
        injection hk2 with hk2
        subst hk2
        simp only [List.mem_append] at hu
        rcases hu with (hu | hu) | hu
        · exact hall u (List.mem_of_mem_take hu)
        · exact hnn u hu
        · exact hall u (List.mem_of_mem_drop hu)
    · have hr2 := run_append_grow (P := P) w t ty e i z ht hi hz ⟨k, 0, none⟩ n cap xs hown.1 (World.ownsRow.cells hown rfl) a m c news hl hnews (by omega) (by unfold maxLen at h63; omega) (growslice_fits (by omega) hbytes)
      have he := hr2.symm.trans hr
      injection he with he1 he2
      exact fin _ he2 ⟨_, _, he1⟩ (fun u hu => by
        rw [Array.toList_append, Array.toList_append, List.mem_append, List.mem_append] at hu
        rcases hu with (hu | hu) | hu
        · exact hxn u (by simpa using hu)
        · exact hnn u (by simpa using hu)
        · exact hz0 _ u hu)
end
theorem fcells_ni (fs : List FE) : ∀ u ∈ fcells fs, Value.noInt u = true := fun u hu => by
  rw [fcells, List.mem_flatMap] at hu
  obtain ⟨x, _, hx⟩ := hu
  simp [FE.cells] at hx
  rcases hx with rfl | rfl | rfl <;> rfl
/-- .. and its block holds no number -/
structure FRow (w : World) (B : Nat) (A : Option Addr) (c : Nat) (fs : List FE) : Prop where
  own : FOwn w B A c fs
  ni : ∀ ad, A = some ad → NoI w ad.block
section
variable {w w' : World} {B c : Nat} {A : Option Addr} {fs : List FE}
theorem FRow.nil (w : World) (B : Nat) : FRow w B none 0 [] := ⟨FOwn.nil w B, fun ad h => by cases h⟩
theorem FRow.ext (h : FRow w B A c fs) (hb : Below w.heap.size w w') : FRow w' B A c fs := ⟨h.own.ext hb, fun ad e => (h.ni ad e).ext hb⟩
theorem FRow.far (h : FRow w B A c fs) {p : Addr} (hp : ∀ ad, A = some ad → ad.block ≠ p.block) (v : Value) : FRow (w.setCell p v) B A c fs :=
  ⟨h.own.far hp v, fun ad e => (h.ni ad e).of (Below.heap_setCell w p v _ (hp ad e))⟩
theorem FRow.blk (h : FRow w B A c fs) : ∀ ad, A = some ad → ad.block < w.heap.size := h.own.blk
theorem FRow.row (h : FRow w B A c fs) : FS w A fs := h.own.row
end
/-- append of one fraction, behind the operation that laid it in a block of its own -/
theorem op_fpush {o : Oper} {a : Act} {K : Act → World → Prop} {Q : Exit → Act → World → Prop} (w : World) (s x : Operand) (hop : o.op = Op.call { callee := Callee.builtin Builtin.append, args := #[s, x], argTypes := #[51, 51] })
    {B c k : Nat} {A : Option Addr} {fs : List FE} (y : FE) (hs : a.eval s = .slice A k c) (hk : k = fs.length) (hx : a.eval x = .slice (some ⟨w.heap.size, 0, none⟩) 1 1) (hown : FRow w B A c fs)
    (hl : fs.length ≤ 1000000) (hB : B ≤ w.heap.size)
    (hK : ∀ A' c' w', FRow w' B A' c' (fs ++ [y]) → Below B w w' → Keep w w' → w.heap.size < w'.heap.size → K (a.put o.dst (.slice A' (k + 1) c')) w') :
    Oper.wp Tryz.prog o a (w.alloc (.cells #[.bool y.s, .slice y.A y.n y.c, .slice y.B y.m y.d] 33)) K Q := by
  subst hk
  obtain ⟨i, hi, hz, h1, h2⟩ := info_parts infoFrac
  have hnews : ∀ j u, y.cells[j]? = some u → (w.alloc (.cells #[.bool y.s, .slice y.A y.n y.c, .slice y.B y.m y.d] 33)).cell? ((⟨w.heap.size, 0, none⟩ : Addr).add j) = some u := by
    intro j u hj
    match j, hj with
    | 0, hj => simp [FE.cells] at hj; subst hj; exact al_at (by simp) _ rfl
    | 1, hj => simp [FE.cells] at hj; subst hj; exact al_at (by simp) _ rfl
    | 2, hj => simp [FE.cells] at hj; subst hj; exact al_at (by simp) _ rfl
    | j + 3, hj => simp [FE.cells] at hj
  have hone : ∀ u ∈ y.cells, u.oneCell' = true := by
    intro u hu
    simp [FE.cells] at hu
    rcases hu with rfl | rfl | rfl <;> rfl
  obtain ⟨v', w', hrun, h3, h4, h5, h6⟩ := run_append_ni (P := Tryz.prog) (w.alloc (.cells #[.bool y.s, .slice y.A y.n y.c, .slice y.B y.m y.d] 33)) B 51 o.type _ i _ 3 56 undFrac hi hz h1 h2 (by rfl) (by decide) (.slice A fs.length c) fs.length (fcells fs) (World.ownsRow.alloc hown.own _) ⟨w.heap.size, 0, none⟩ 1 1 y.cells rfl hnews hone (by omega) (by unfold maxLen; omega) (by omega) (by simp; omega)
    (fun g hg => by
      cases hA : A with
      | none => rw [hA] at hg; cases hg
      | some ad =>
        rw [hA] at hg
        simp [Value.ownBlock] at hg
        subst hg
        exact (hown.ni ad hA).ext (below_alloc _ _)) (fcells_ni fs) (by
      intro u hu
      simp [FE.cells] at hu
      rcases hu with rfl | rfl | rfl <;> rfl) (by decide)
  have hb : w.grownBy w' (Value.slice A fs.length c).ownBlock := ⟨h4.os, h4.tape, h4.output, Nat.le_trans (by simp) h4.size, fun k hk hne => (h4.block k (by simp; omega) hne).trans (Below.heap_alloc w _ k hk)⟩
  have hlt : w.heap.size < w'.heap.size := by have := h4.size; simp at this; omega
  obtain ⟨A', c', rfl⟩ : ∃ A' c', v' = .slice A' (fs.length + 1) c' := by
    rcases h3.2 with ⟨_, h0⟩ | ⟨g, cap, cur, hv, _⟩
    · omega
    · exact ⟨_, _, hv⟩
  have hfin := hK A' c' w' ⟨by rw [FOwn, fcells_snoc, List.length_append]; exact h3, fun ad e => h6 ad.block (by rw [e]; rfl)⟩ (below_of_grown hb hB fun k hk => ((World.ownsRow.lt hown.own) k hk).1) (((Keep.refl w).alloc _).trans h5) hlt
  unfold Oper.wp
  simp [execOp, hop, resolve, invoke, builtin, hs, hx, hrun, Result.andThen]
  exact hfin
theorem wp_fpush {ops : Array Oper} {rest : List Oper} {o : Oper} {a : Act} {Q : Exit → Act → World → Prop} (w : World) (hg : o.guard = none) (s x : Operand) (hop : o.op = Op.call { callee := Callee.builtin Builtin.append, args := #[s, x], argTypes := #[51, 51] })
    {B c k : Nat} {A : Option Addr} {fs : List FE} (y : FE) (hs : a.eval s = .slice A k c) (hk : k = fs.length) (hx : a.eval x = .slice (some ⟨w.heap.size, 0, none⟩) 1 1) (hown : FRow w B A c fs)
    (hl : fs.length ≤ 1000000) (hB : B ≤ w.heap.size)
    (hK : ∀ A' c' w', FRow w' B A' c' (fs ++ [y]) → Below B w w' → Keep w w' → w.heap.size < w'.heap.size → wpList Tryz.prog ops Q rest (a.put o.dst (.slice A' (k + 1) c')) w') :
    wpList Tryz.prog ops Q (o :: rest) a (w.alloc (.cells #[.bool y.s, .slice y.A y.n y.c, .slice y.B y.m y.d] 33)) :=
  wpList_plain hg fun _ hK' => op_fpush w s x hop y hs hk hx hown hl hB fun A' c' w' h1 h2 h3 h4 => hK' _ _ (hK A' c' w' h1 h2 h3 h4)
end Go.Proofs.YthempimelfmipaaGreatDoor

namespace Go.Proofs.YthempimelfmipaaGreatDoor
open Go.RowKit Go.Proofs Go

/-- a hoard's cells and its entries -/
structure HR where
  id : Int
  A : Option Addr
  c : Nat
  l : List (Int × Int)
  f : Int
  t : Int
def HR.cells (x : HR) : List Value := [.int .i64 x.id, .slice x.A x.l.length x.c, .int .i64 x.f, .int .i64 x.t]
def HR.V (x : HR) : Prop := HV x.id x.l x.f x.t
/-- the slice at A reads as hoards -/
def HRow (w : World) (A : Option Addr) (hs : List HR) : Prop :=
  0 < hs.length → ∃ ad, A = some ad ∧ ad.block < w.heap.size ∧ ∀ (i : Nat) (x : HR), hs[i]? = some x → w.cell? (ad.add (i * 4)) = some (.int .i64 x.id) ∧ w.cell? ⟨(ad.add (i * 4)).block, (ad.add (i * 4)).off + 1, none⟩ = some (.slice x.A x.l.length x.c) ∧ w.cell? ⟨(ad.add (i * 4)).block, (ad.add (i * 4)).off + 2, none⟩ = some (.int .i64 x.f) ∧ w.cell? ⟨(ad.add (i * 4)).block, (ad.add (i * 4)).off + 3, none⟩ = some (.int .i64 x.t)
/-- .. and the hoards' entries -/
structure HL (w : World) (A : Option Addr) (hs : List HR) : Prop where
  row : HRow w A hs
  es : ∀ (i : Nat) (x : HR), hs[i]? = some x → Es w x.A x.l ∧ x.l.length ≤ 9223372036854775807
section
variable {w w' : World} {A : Option Addr} {hs : List HR}
theorem HL.ext (h : HL w A hs) (hb : Below w.heap.size w w') : HL w' A hs := by
  refine ⟨fun h0 => ?_, fun i x hx => ⟨(h.es i x hx).1.ext hb, (h.es i x hx).2⟩⟩
  obtain ⟨ad, h1, h2, h3⟩ := h.row h0
  refine ⟨ad, h1, Nat.lt_of_lt_of_le h2 hb.size, fun i x hx => ?_⟩
  obtain ⟨a, b, c, d⟩ := h3 i x hx
  exact ⟨by rw [hb.cell (cell_lt a)]; exact a, by rw [hb.cell (cell_lt b)]; exact b, by rw [hb.cell (cell_lt c)]; exact c, by rw [hb.cell (cell_lt d)]; exact d⟩
theorem HL.at_ (h : HL w A hs) {i : Nat} {x : HR} (hx : hs[i]? = some x) : ∃ ad, A = some ad ∧ ad.block < w.heap.size ∧ w.cell? (ad.add (i * 4)) = some (.int .i64 x.id) ∧ w.cell? ⟨(ad.add (i * 4)).block, (ad.add (i * 4)).off + 1, none⟩ = some (.slice x.A x.l.length x.c) ∧ w.cell? ⟨(ad.add (i * 4)).block, (ad.add (i * 4)).off + 2, none⟩ = some (.int .i64 x.f) ∧ w.cell? ⟨(ad.add (i * 4)).block, (ad.add (i * 4)).off + 3, none⟩ = some (.int .i64 x.t) ∧ Es w x.A x.l ∧ x.l.length ≤ 9223372036854775807 := by
  have hi := (List.getElem?_eq_some_iff.1 hx).1
  obtain ⟨ad, h1, h2, h3⟩ := h.row (by omega)
  obtain ⟨a, b, c, d⟩ := h3 i x hx
  exact ⟨ad, h1, h2, a, b, c, d, h.es i x hx⟩
theorem HR.flat_at : ∀ (hs : List HR) (i j : Nat) (x : HR), hs[i]? = some x → j < 4 → (hs.flatMap HR.cells)[i * 4 + j]? = x.cells[j]?
  | [], i, j, x, h, _ => by simp at h
  | y :: hs, 0, j, x, h, hj => by
    simp at h; subst h
    rw [List.flatMap_cons, List.getElem?_append_left (by simp [HR.cells]; omega), Nat.zero_mul, Nat.zero_add]
  | y :: hs, i + 1, j, x, h, hj => by
    rw [List.flatMap_cons, List.getElem?_append_right (by simp [HR.cells]; omega)]
    rw [show (i + 1) * 4 + j - y.cells.length = i * 4 + j from by simp [HR.cells]; omega]
    exact HR.flat_at hs i j x (by simpa using h) hj
/-- a literal row of hoards, whose entries lie in the world before -/
theorem HL.lit (W : World) (T : TypeId) (hs : List HR) (cs : Array Value) (hcs : cs.toList = hs.flatMap HR.cells) (he : ∀ (i : Nat) (x : HR), hs[i]? = some x → Es W x.A x.l ∧ x.l.length ≤ 9223372036854775807) : HL (W.alloc (.cells cs T)) (some ⟨W.heap.size, 0, none⟩) hs := by
  refine ⟨fun _ => ⟨_, rfl, by simp, fun i x hx => ?_⟩, fun i x hx => ⟨(he i x hx).1.ext (below_alloc _ _), (he i x hx).2⟩⟩
  have key : ∀ j, j < 4 → (W.alloc (.cells cs T)).cell? ⟨W.heap.size, i * 4 + j, none⟩ = x.cells[j]? := fun j hj => by
    rw [World.cell?_alloc_at _ _ _ _ rfl, ← Array.getElem?_toList, hcs]
    exact HR.flat_at hs i j x hx hj
  rw [Addr.add_lit, Nat.zero_add]
  exact ⟨key 0 (by omega), key 1 (by omega), key 2 (by omega), key 3 (by omega)⟩
end
/-- fractions at hand, of at most k limbs -/
structure FK (k : Nat) (w : World) (fs : List FE) (qs : List Rat) : Prop where
  len : fs.length = qs.length
  fr : ∀ (i : Nat) (x : FE) (q : Rat), fs[i]? = some x → qs[i]? = some q → Fr w x.s x.A x.n x.c x.B x.m x.d q k
section
variable {k : Nat} {w w' : World} {fs : List FE} {qs : List Rat}
theorem FK.nil (k : Nat) (w : World) : FK k w [] [] := ⟨rfl, fun i x q h => by simp at h⟩
theorem FK.ext (h : FK k w fs qs) (hb : Below w.heap.size w w') : FK k w' fs qs := ⟨h.len, fun i x q h1 h2 => (h.fr i x q h1 h2).ext hb⟩
theorem FK.stay (h : FK k w fs qs) (hb : Keep w w') : FK k w' fs qs := ⟨h.len, fun i x q h1 h2 => (h.fr i x q h1 h2).stay hb⟩
theorem FK.snoc (h : FK k w fs qs) {y : FE} {q : Rat} (hy : Fr w y.s y.A y.n y.c y.B y.m y.d q k) : FK k w (fs ++ [y]) (qs ++ [q]) := ⟨by simp [h.len], fun i x p h1 h2 => by
  rcases Nat.lt_or_ge i fs.length with hi | hi
  · rw [List.getElem?_append_left hi] at h1
    rw [List.getElem?_append_left (by rw [← h.len]; exact hi)] at h2
    exact h.fr i x p h1 h2
  · rw [List.getElem?_append_right hi] at h1
    rw [List.getElem?_append_right (by rw [← h.len]; exact hi), ← h.len] at h2
    have hi0 : i - fs.length = 0 := by
      have := (List.getElem?_eq_some_iff.1 h1).1
      simp at this; omega
    rw [hi0] at h1 h2
    simp at h1 h2
    subst h1 h2
    exact hy⟩
theorem FK.mono (h : FK k w fs qs) {m : Nat} (hm : k ≤ m) : FK m w fs qs := ⟨h.len, fun i x q h1 h2 => (h.fr i x q h1 h2).mono hm⟩
end
/-- a row: where its fractions lie, and their numbers -/
structure RR where
  A : Option Addr
  c : Nat
  fs : List FE
  qs : List Rat
/-- the slice at A reads as rows -/
def MRow (w : World) (A : Option Addr) (rs : List RR) : Prop :=
  0 < rs.length → ∃ ad, A = some ad ∧ ad.block < w.heap.size ∧ ∀ (i : Nat) (r : RR), rs[i]? = some r → w.cell? (ad.add i) = some (.slice r.A r.fs.length r.c)
/-- the rows' fractions -/
def MFs (w : World) (rs : List RR) : Prop := ∀ (i : Nat) (r : RR), rs[i]? = some r → FS w r.A r.fs ∧ FK 6 w r.fs r.qs ∧ r.fs.length ≤ 9223372036854775807
structure ML (w : World) (A : Option Addr) (rs : List RR) : Prop where
  row : MRow w A rs
  fs : MFs w rs
section
variable {w w' : World} {A : Option Addr} {rs : List RR}
theorem MRow.ext (h : MRow w A rs) (hb : Below w.heap.size w w') : MRow w' A rs := fun h0 => by
  obtain ⟨ad, h1, h2, h3⟩ := h h0
  exact ⟨ad, h1, Nat.lt_of_lt_of_le h2 hb.size, fun i r hr => by rw [hb.cell (cell_lt (h3 i r hr))]; exact h3 i r hr⟩
theorem MFs.ext (h : MFs w rs) (hb : Below w.heap.size w w') : MFs w' rs := fun i r hr => ⟨(h i r hr).1.ext hb, (h i r hr).2.1.ext hb, (h i r hr).2.2⟩
theorem MFs.nil (w : World) : MFs w [] := fun i r h => by simp at h
theorem MFs.snoc (h : MFs w rs) {r : RR} (h1 : FS w r.A r.fs) (h2 : FK 6 w r.fs r.qs) (h3 : r.fs.length ≤ 9223372036854775807) : MFs w (rs ++ [r]) := fun i x hx => by
  rcases Nat.lt_or_ge i rs.length with hi | hi
  · rw [List.getElem?_append_left hi] at hx
    exact h i x hx
  · rw [List.getElem?_append_right hi] at hx
    have hi0 : i - rs.length = 0 := by
      have := (List.getElem?_eq_some_iff.1 hx).1
      simp at this; omega
    rw [hi0] at hx
    simp at hx
    subst hx
    exact ⟨h1, h2, h3⟩
theorem ML.ext (h : ML w A rs) (hb : Below w.heap.size w w') : ML w' A rs := ⟨h.row.ext hb, h.fs.ext hb⟩
/-- a row's slice -/
theorem ML.at_ (h : ML w A rs) {i : Nat} {r : RR} (hr : rs[i]? = some r) : ∃ ad, A = some ad ∧ ad.block < w.heap.size ∧ w.cell? (ad.add i) = some (.slice r.A r.fs.length r.c) ∧ FS w r.A r.fs ∧ FK 6 w r.fs r.qs ∧ r.fs.length ≤ 9223372036854775807 := by
  have hi := (List.getElem?_eq_some_iff.1 hr).1
  obtain ⟨ad, h1, h2, h3⟩ := h.row (by omega)
  exact ⟨ad, h1, h2, h3 i r hr, h.fs i r hr⟩
/-- an element's three cells -/
theorem FS.at_ {fs : List FE} (h : FS w A fs) {i : Nat} {x : FE} (hx : fs[i]? = some x) : ∃ ad, A = some ad ∧ ad.block < w.heap.size ∧ w.cell? (ad.add (i * 3)) = some (.bool x.s) ∧ w.cell? ⟨(ad.add (i * 3)).block, (ad.add (i * 3)).off + 1, none⟩ = some (.slice x.A x.n x.c) ∧ w.cell? ⟨(ad.add (i * 3)).block, (ad.add (i * 3)).off + 2, none⟩ = some (.slice x.B x.m x.d) := by
  have hi := (List.getElem?_eq_some_iff.1 hx).1
  obtain ⟨ad, h1, h2, h3⟩ := h (by omega)
  exact ⟨ad, h1, h2, h3 i x hx⟩
end
/-- the number in row i, place j -/
def mq (qss : List (List Rat)) (i j : Int) : Rat := ((qss[i.toNat]?).getD [])[j.toNat]?.getD 0
/-- the rows' numbers -/
def qOf (rs : List RR) : List (List Rat) := rs.map RR.qs
theorem mq_at {rs : List RR} {i j : Nat} {r : RR} {q : Rat} (hr : rs[i]? = some r) (hq : r.qs[j]? = some q) : mq (qOf rs) (i : Int) (j : Int) = q := by
  rw [mq, qOf, Int.toNat_natCast, Int.toNat_natCast, List.getElem?_map, hr]
  show (r.qs[j]?).getD 0 = q
  rw [hq]; rfl
/-- square: n rows of n -/
def Sqr (rs : List RR) (n : Nat) : Prop := rs.length = n ∧ ∀ (i : Nat) (r : RR), rs[i]? = some r → r.fs.length = n
/-- the element in row i, place j: its row's slice, its cells, its number -/
theorem ML.el {w : World} {A : Option Addr} {rs : List RR} (h : ML w A rs) {n : Nat} (hs : Sqr rs n) {a b : Int} (ha : 0 ≤ a ∧ a < n) (hb : 0 ≤ b ∧ b < n) :
    ∃ (ad : Addr) (i j : Nat) (r : RR) (ad2 : Addr) (x : FE), A = some ad ∧ ad.block < w.heap.size ∧ a = (i : Int) ∧ b = (j : Int) ∧ i < n ∧ j < n ∧ r.A = some ad2 ∧ ad2.block < w.heap.size ∧ w.cell? (ad.add i) = some (.slice (some ad2) n r.c) ∧ w.cell? (ad2.add (j * 3)) = some (.bool x.s) ∧ w.cell? ⟨(ad2.add (j * 3)).block, (ad2.add (j * 3)).off + 1, none⟩ = some (.slice x.A x.n x.c) ∧ w.cell? ⟨(ad2.add (j * 3)).block, (ad2.add (j * 3)).off + 2, none⟩ = some (.slice x.B x.m x.d) ∧ Fr w x.s x.A x.n x.c x.B x.m x.d (mq (qOf rs) a b) 6 := by
  obtain ⟨i, rfl⟩ := Int.eq_ofNat_of_zero_le ha.1
  obtain ⟨j, rfl⟩ := Int.eq_ofNat_of_zero_le hb.1
  have hi : i < n := by omega
  have hj : j < n := by omega
  have hr := List.getElem?_eq_getElem (show i < rs.length by rw [hs.1]; exact hi)
  have hn := hs.2 i _ hr
  obtain ⟨ad, h1, h2, h3, h4, h5, h6⟩ := h.at_ hr
  have hx := List.getElem?_eq_getElem (show j < (rs[i]'(by rw [hs.1]; exact hi)).fs.length by rw [hn]; exact hj)
  obtain ⟨ad2, g1, g2, c0, c1, c2⟩ := h4.at_ hx
  have hq := List.getElem?_eq_getElem (show j < (rs[i]'(by rw [hs.1]; exact hi)).qs.length by rw [← h5.len, hn]; exact hj)
  have hf := h5.fr j _ _ hx hq
  refine ⟨ad, i, j, _, ad2, _, h1, h2, rfl, rfl, hi, hj, g1, g2, ?_, c0, c1, c2, ?_⟩
  · rw [h3, g1, hn]
  · rw [mq_at hr hq]; exact hf
end Go.Proofs.YthempimelfmipaaGreatDoor

namespace Go.Proofs.YthempimelfmipaaGreatDoor

/-- valid hoards of different numbers -/
def Good (hs : List HR) : Prop := (∀ x ∈ hs, x.V) ∧ (hs.map HR.id).Nodup
/-- the error of a list of hoards -/
def ChkIs (hs : List HR) (e : Int) : Prop := (8 < hs.length ∧ e = 6) ∨ (hs.length ≤ 8 ∧ Good hs ∧ e = 0) ∨ (hs.length ≤ 8 ∧ ¬ Good hs ∧ e = 1)
theorem ChkIs.ex (hs : List HR) : ∃ e, ChkIs hs e := by
  by_cases h1 : hs.length ≤ 8
  · by_cases h2 : Good hs
    · exact ⟨0, .inr (.inl ⟨h1, h2, rfl⟩)⟩
    · exact ⟨1, .inr (.inr ⟨h1, h2, rfl⟩)⟩
  · exact ⟨6, .inl ⟨by omega, rfl⟩⟩
theorem ChkIs.ok {hs : List HR} (h : ChkIs hs 0) : hs.length ≤ 8 ∧ Good hs := by
  rcases h with ⟨_, h⟩ | ⟨h1, h2, _⟩ | ⟨_, _, h⟩
  · cases h
  · exact ⟨h1, h2⟩
  · cases h
theorem ChkIs.of {hs : List HR} (h1 : hs.length ≤ 8) (h2 : Good hs) : ChkIs hs 0 := .inr (.inl ⟨h1, h2, rfl⟩)
/-- the coefficients of a hoard with all -/
def rowQ (a : HR) (hs : List HR) : List Rat := hs.map fun b => coD a.l b.l 99
/-- the coefficients of all pairs -/
def matQ (hs : List HR) : List (List Rat) := hs.map fun a => rowQ a hs
theorem mq_matQ {hs : List HR} {i j : Nat} {x y : HR} (hx : hs[i]? = some x) (hy : hs[j]? = some y) : mq (matQ hs) (i : Int) (j : Int) = coD x.l y.l 99 := by
  rw [mq, matQ, Int.toNat_natCast, Int.toNat_natCast, List.getElem?_map, hx]
  show ((rowQ x hs)[j]?).getD 0 = _
  rw [rowQ, List.getElem?_map, hy]; rfl
theorem mq_sym {hs : List HR} {a b : Int} (ha : 0 ≤ a ∧ a < hs.length) (hb : 0 ≤ b ∧ b < hs.length) : mq (matQ hs) a b = mq (matQ hs) b a := by
  obtain ⟨i, rfl⟩ := Int.eq_ofNat_of_zero_le ha.1
  obtain ⟨j, rfl⟩ := Int.eq_ofNat_of_zero_le hb.1
  have hx := List.getElem?_eq_getElem (show i < hs.length by omega)
  have hy := List.getElem?_eq_getElem (show j < hs.length by omega)
  rw [mq_matQ hx hy, mq_matQ hy hx, coD_comm]
theorem rowQ_take {a : HR} {hs : List HR} {j : Nat} {y : HR} (hy : hs[j]? = some y) : rowQ a (hs.take (j + 1)) = rowQ a (hs.take j) ++ [coD a.l y.l 99] := by
  obtain ⟨hj, rfl⟩ := List.getElem?_eq_some_iff.1 hy
  rw [List.take_succ_eq_append_getElem hj, rowQ, rowQ, List.map_append]; rfl
theorem listed1 {lo hi a b : Int} (h1 : 1 ≤ a ∧ a ≤ 99) (h4 : lo ≤ b ∧ b ≤ hi) : Listed lo hi [(a, b)] := by
  intro i x hx
  match i, hx with
  | 0, hx => simp at hx; subst hx; exact ⟨h1, h4, fun j y h => absurd h (by omega)⟩
  | i + 1, hx => simp at hx
theorem v1 : HV 1 [(1, 5)] 1 1 := ⟨by omega, by simp, listed1 (by omega) (by omega), by unfold YV; omega⟩
theorem v2 : HV 2 [(1, 1), (2, 1)] 1 1 := ⟨by omega, by simp, listed2 (by omega) (by omega) (by omega) (by omega) (by omega), by unfold YV; omega⟩
theorem v3 : HV 3 [(2, 7)] 1 1 := ⟨by omega, by simp, listed1 (by omega) (by omega), by unfold YV; omega⟩
theorem co_of {a b : List (Int × Int)} {s x y n : Int} (h1 : sumD a b 99 = s) (h2 : totE a = x) (h3 : totE b = y) (h4 : 0 < x * y) (h5 : 200 * (x * y) - 100 * s = n * (x * y)) : coD a b 99 = quo n 1 := by
  rw [coD, h1, h2, h3]
  exact quo_eq (by omega) (by decide) (by omega)
theorem c11 : coD [(1, 5)] [(1, 5)] 99 = quo 200 1 := co_of (s := 0) (x := 5) (y := 5) (by decide +kernel) (by decide +kernel) (by decide +kernel) (by decide) (by decide)
theorem c12 : coD [(1, 5)] [(1, 1), (2, 1)] 99 = quo 100 1 := co_of (s := 10) (x := 5) (y := 2) (by decide +kernel) (by decide +kernel) (by decide +kernel) (by decide) (by decide)
theorem c13 : coD [(1, 5)] [(2, 7)] 99 = quo 0 1 := co_of (s := 70) (x := 5) (y := 7) (by decide +kernel) (by decide +kernel) (by decide +kernel) (by decide) (by decide)
theorem c22 : coD [(1, 1), (2, 1)] [(1, 1), (2, 1)] 99 = quo 200 1 := co_of (s := 0) (x := 2) (y := 2) (by decide +kernel) (by decide +kernel) (by decide +kernel) (by decide) (by decide)
theorem c23 : coD [(1, 1), (2, 1)] [(2, 7)] 99 = quo 100 1 := co_of (s := 14) (x := 2) (y := 7) (by decide +kernel) (by decide +kernel) (by decide +kernel) (by decide) (by decide)
theorem c33 : coD [(2, 7)] [(2, 7)] 99 = quo 200 1 := co_of (s := 0) (x := 7) (y := 7) (by decide +kernel) (by decide +kernel) (by decide +kernel) (by decide) (by decide)
/-- the hoards of the fixed results -/
def h3 (A1 A2 A3 : Option Addr) : List HR := [⟨1, A1, 1, [(1, 5)], 1, 1⟩, ⟨2, A2, 2, [(1, 1), (2, 1)], 1, 1⟩, ⟨3, A3, 1, [(2, 7)], 1, 1⟩]
def q3 : List (List Rat) := [[quo 200 1, quo 100 1, quo 0 1], [quo 100 1, quo 200 1, quo 100 1], [quo 0 1, quo 100 1, quo 200 1]]
theorem mat3 (A1 A2 A3 : Option Addr) : matQ (h3 A1 A2 A3) = q3 := by
  simp only [matQ, rowQ, h3, List.map_cons, List.map_nil, c11, c12, c13, coD_comm [(1, 1), (2, 1)] [(1, 5)], coD_comm [(2, 7)] [(1, 5)], coD_comm [(2, 7)] [(1, 1), (2, 1)], c22, c23, c33, q3]
theorem good3 (A1 A2 A3 : Option Addr) : Good (h3 A1 A2 A3) := by
  refine ⟨fun x hx => ?_, show ([1, 2, 3] : List Int).Nodup by decide⟩
  simp only [h3, List.mem_cons, List.not_mem_nil, or_false] at hx
  rcases hx with rfl | rfl | rfl
  · exact v1
  · exact v2
  · exact v3
theorem best3 : bestO (mq q3) 3 = ([0, 1, 2], 0) := by decide +kernel
theorem evs3 : evs (mq q3) [0, 2, 1] = 1 := by decide +kernel
end Go.Proofs.YthempimelfmipaaGreatDoor

namespace Go.Proofs.YthempimelfmipaaGreatDoor
open Go.RowKit Go.Proofs Go

def RR.val (r : RR) : Value := .slice r.A r.fs.length r.c
/-- the call owns a row of slices, whose block holds no number -/
structure ORow (w : World) (B : Nat) (A : Option Addr) (c : Nat) (rs : List RR) : Prop where
  own : Own w B 51 A rs.length c (rs.map RR.val)
  ni : ∀ ad, A = some ad → NoI w ad.block
/-- rows of fractions, each of the call's own -/
def RowsOK (w : World) (rs : List RR) : Prop := ∀ (i : Nat) (r : RR), rs[i]? = some r → ∃ B, FRow w B r.A r.c r.fs ∧ FK 2 w r.fs r.qs ∧ r.fs.length ≤ 9223372036854775807
theorem undRow : Tryz.prog.underlying 49 = some (.slice 51) := Tryz.underlying49
theorem infoRow : (Tryz.prog.info? 51).map (fun i => (i.zero, i.size, i.bytes)) = some (some (.slice none 0 0), 1, 24) := by kernel_rfl
theorem ty_ne : 51 ≠ 33 := by decide
section
variable {w w' : World} {B c : Nat} {A : Option Addr} {rs : List RR}
theorem ORow.nil (w : World) (B : Nat) : ORow w B none 0 [] := ⟨World.ownsRow_nil w B _ 1, fun ad h => by cases h⟩
theorem ORow.ext (h : ORow w B A c rs) (hb : Below w.heap.size w w') : ORow w' B A c rs := ⟨h.own.ext hb, fun ad e => (h.ni ad e).ext hb⟩
theorem RowsOK.ext (h : RowsOK w rs) (hb : Below w.heap.size w w') : RowsOK w' rs := fun i r hr => by
  obtain ⟨B, h1, h2, h3⟩ := h i r hr
  exact ⟨B, h1.ext hb, h2.ext hb, h3⟩
theorem RowsOK.nil (w : World) : RowsOK w [] := fun i r h => by simp at h
theorem RowsOK.snoc (h : RowsOK w rs) {r : RR} {B : Nat} (h1 : FRow w B r.A r.c r.fs) (h2 : FK 2 w r.fs r.qs) (h3 : r.fs.length ≤ 9223372036854775807) : RowsOK w (rs ++ [r]) := fun i x hx => by
  rcases Nat.lt_or_ge i rs.length with hi | hi
  · rw [List.getElem?_append_left hi] at hx
    exact h i x hx
  · rw [List.getElem?_append_right hi] at hx
    have hi0 : i - rs.length = 0 := by
      have := (List.getElem?_eq_some_iff.1 hx).1
      simp at this; omega
    rw [hi0] at hx
    simp at hx
    subst hx
    exact ⟨B, h1, h2, h3⟩
theorem RowsOK.mfs (h : RowsOK w rs) : MFs w rs := fun i r hr => by
  obtain ⟨B, h1, h2, h3⟩ := h i r hr
  exact ⟨h1.row, h2.mono (by omega), h3⟩
theorem ORow.row (h : ORow w B A c rs) : MRow w A rs := fun h0 => by
  have h1 := h.own
  rcases h1.2 with ⟨_, h2⟩ | ⟨g, cap, cur, hv, _, hg, _⟩
  · omega
  · injection hv with hA _ _
    subst hA
    refine ⟨_, rfl, (Array.getElem?_eq_some_iff.1 hg).1, fun i x hx => ?_⟩
    exact World.ownsRow.cells h1 rfl i _ (by rw [List.getElem?_map, hx]; rfl)
/-- a row of fractions lies elsewhere than a row of slices -/
theorem FRow.apart {B2 c2 : Nat} {A2 : Option Addr} {fs : List FE} (h : FRow w B2 A2 c2 fs) (hO : ORow w B A c rs) {ad ad2 : Addr} (e : A = some ad) (e2 : A2 = some ad2) : ad.block ≠ ad2.block := by
  rcases h.own.2 with ⟨hv, _⟩ | ⟨g, cap, cur, hv, _, hg, _⟩
  · injection hv with hA _ _
    rw [e2] at hA; cases hA
  · rcases hO.own.2 with ⟨hv2, _⟩ | ⟨g2, cap2, cur2, hv2, _, hg2, _⟩
    · injection hv2 with hA _ _
      rw [e] at hA; cases hA
    · injection hv with hA _ _
      injection hv2 with hA2 _ _
      rw [e2] at hA
      rw [e] at hA2
      obtain rfl := Option.some.inj hA
      obtain rfl := Option.some.inj hA2
      intro hb
      have hb : g2 = g := hb
      rw [hb, hg] at hg2
      injection hg2 with h1
      injection h1 with _ h2 _
      exact ty_ne h2.symm
theorem FRow.kept {B2 c2 : Nat} {A2 : Option Addr} {fs : List FE} {k : Nat} (h : FRow w B2 A2 c2 fs) (hO : ORow w B A c rs) (hg : w.grownBy w' (Value.slice A k c).ownBlock) : FRow w' B2 A2 c2 fs := by
  have hne : ∀ ad2, A2 = some ad2 → some ad2.block ≠ (Value.slice A k c).ownBlock := fun ad2 e2 e => by
    cases hA : A with
    | none => rw [hA] at e; cases e
    | some ad =>
      rw [hA] at e
      simp [Value.ownBlock] at e
      exact h.apart hO hA e2 e.symm
  refine ⟨World.ownsRow.kept h.own hg ?_, fun ad e => (h.ni ad e).of (hg.block _ (h.blk ad e) (hne ad e))⟩
  cases hA2 : A2 with
  | none => left; rfl
  | some ad2 => right; exact hne ad2 hA2
theorem RowsOK.kept {rs2 : List RR} {k : Nat} (h : RowsOK w rs2) (hO : ORow w B A c rs) (hg : w.grownBy w' (Value.slice A k c).ownBlock) (hk : Keep w w') : RowsOK w' rs2 := fun i r hr => by
  obtain ⟨B2, h1, h2, h3⟩ := h i r hr
  exact ⟨B2, h1.kept hO hg, h2.stay hk, h3⟩
end
theorem vals_ni (rs : List RR) : ∀ u ∈ rs.map RR.val, Value.noInt u = true := fun u hu => by
  obtain ⟨r, _, rfl⟩ := List.mem_map.1 hu
  rfl
/-- append of one row, behind the operation that laid it in a block of its own -/
theorem wp_rpush {ops : Array Oper} {rest : List Oper} {o : Oper} {a : Act} {Q : Exit → Act → World → Prop} (w : World) (hg : o.guard = none) (s x : Operand) (hop : o.op = Op.call { callee := Callee.builtin Builtin.append, args := #[s, x], argTypes := #[49, 49] })
    {B c k : Nat} {A : Option Addr} {rs : List RR} (r : RR) {v : Value} (hv : r.val = v) (hs : a.eval s = .slice A k c) (hk : k = rs.length) (hx : a.eval x = .slice (some ⟨w.heap.size, 0, none⟩) 1 1) (hown : ORow w B A c rs)
    (hl : rs.length ≤ 1000000) (hB : B ≤ w.heap.size)
    (hK : ∀ A' c' w', ORow w' B A' c' (rs ++ [r]) → w.grownBy w' (Value.slice A k c).ownBlock → Below B w w' → Keep w w' → wpList Tryz.prog ops Q rest (a.put o.dst (.slice A' (k + 1) c')) w') :
    wpList Tryz.prog ops Q (o :: rest) a (w.alloc (.cells #[v] 51)) := by
  refine wpList_plain hg fun K' hK' => ?_
  subst hk hv
  obtain ⟨i, hi, hz, h1, h2⟩ := info_parts infoRow
  have hnews : ∀ j u, [r.val][j]? = some u → (w.alloc (.cells #[r.val] 51)).cell? ((⟨w.heap.size, 0, none⟩ : Addr).add j) = some u := by
    intro j u hj
    match j, hj with
    | 0, hj => simp at hj; subst hj; exact al_at (by simp) _ rfl
    | j + 1, hj => simp at hj
  obtain ⟨v', w', hrun, h3, h4, h5, h6⟩ := run_append_ni (P := Tryz.prog) (w.alloc (.cells #[r.val] 51)) B 49 o.type _ i _ 1 24 undRow hi hz h1 h2 (by rfl) (by decide) (.slice A rs.length c) rs.length (rs.map RR.val) (World.ownsRow.alloc hown.own _) ⟨w.heap.size, 0, none⟩ 1 1 [r.val] rfl hnews (by intro u hu; simp at hu; subst hu; rfl) (by omega) (by unfold maxLen; omega) (by omega) (by simp; omega)
    (fun g hg => by
      cases hA : A with
      | none => rw [hA] at hg; cases hg
      | some ad =>
        rw [hA] at hg
        simp [Value.ownBlock] at hg
        subst hg
        exact (hown.ni ad hA).ext (below_alloc _ _)) (vals_ni rs) (by intro u hu; simp at hu; subst hu; rfl) (by decide)
  have hb : w.grownBy w' (Value.slice A rs.length c).ownBlock := ⟨h4.os, h4.tape, h4.output, Nat.le_trans (by simp) h4.size, fun k hk hne => (h4.block k (by simp; omega) hne).trans (Below.heap_alloc w _ k hk)⟩
  obtain ⟨A', c', rfl⟩ : ∃ A' c', v' = .slice A' (rs.length + 1) c' := by
    rcases h3.2 with ⟨_, h0⟩ | ⟨g, cap, cur, hv, _⟩
    · omega
    · exact ⟨_, _, hv⟩
  have hfin := hK' _ _ (hK A' c' w' ⟨by rw [List.map_append, List.length_append]; exact h3, fun ad e => h6 ad.block (by rw [e]; rfl)⟩ hb (below_of_grown hb hB fun k hk => ((World.ownsRow.lt hown.own) k hk).1) (((Keep.refl w).alloc _).trans h5))
  unfold Oper.wp
  simp [execOp, hop, resolve, invoke, builtin, hs, hx, hrun, Result.andThen]
  exact hfin
/-- a matrix, its numbers, its error -/
def RetMx (w : World) (n : Nat) (qss : List (List Rat)) (e : Ending) (w' : World) : Prop :=
  ∃ A c rs, e = .returned (.tuple #[.slice A n c, .int .i64 0]) ∧ Sqr rs n ∧ qOf rs = qss ∧ ML w' A rs ∧ Below w.heap.size w w'
/-- no matrix, but an error -/
def RetMxE (w : World) (E : Int) (e : Ending) (w' : World) : Prop := e = .returned (.tuple #[.slice none 0 0, .int .i64 E]) ∧ Below w.heap.size w w'
theorem qOf_snoc (rs : List RR) (r : RR) : qOf (rs ++ [r]) = qOf rs ++ [r.qs] := by simp [qOf]
theorem matQ_take {hs : List HR} {j : Nat} {x : HR} (hx : hs[j]? = some x) : (matQ hs).take (j + 1) = (matQ hs).take j ++ [rowQ x hs] := by
  obtain ⟨hj, rfl⟩ := List.getElem?_eq_some_iff.1 hx
  rw [matQ, ← List.map_take, ← List.map_take, List.take_succ_eq_append_getElem hj, List.map_append]; rfl
theorem Sqr.of {rs : List RR} {n j : Nat} (h1 : rs.length = j) (h2 : ∀ (i : Nat) (r : RR), rs[i]? = some r → r.fs.length = n) (h : j = n) : Sqr rs n := ⟨h1.trans h, h2⟩
end Go.Proofs.YthempimelfmipaaGreatDoor

namespace Go.Proofs.YthempimelfmipaaGreatDoor
open Go.RowKit Go.Proofs Go Go.Maps

theorem ownsMap_ext {P : Program} {w w' : World} {k : TypeId} {R : Value → Option (DataW Unit × List MemPlace)} {b n : Nat} {D : DataW Unit} (h : w.ownsMap P k R b n D) (hb : Below w.heap.size w w') : w'.ownsMap P k R b n D :=
  h.kept (grown_of_below hb none) (by simp)
theorem plainElem_bool_inv {P : Program} {e : TypeId} (he : P.underlying e = some .bool) {v : Value} {z : DataW Unit × List MemPlace} (h : plainElem P e v = some z) : ∃ a, v = .bool a ∧ z = (.lit (.bool a), []) := by
  unfold plainElem at h
  rw [he] at h
  cases v <;> simp at h
  exact ⟨_, rfl, h.symm⟩
/-- a look-up in a map of truth values that the call made -/
theorem wp_lookup_bool {P : Program} (w : World) {ops : Array Oper} {rest : List Oper} {o : Oper} {a : Act} {Q : Exit → Act → World → Prop}
    (hw : Region.wanted o (yielded ops a.tmps) = true) (m x : Operand) (t : TypeId) (hop : o.op = Op.lookup t m x false)
    (k e : TypeId) (K : Keyed P k) (ht : P.underlying t = some (.map k e)) (he : P.underlying e = some .bool) (hz : (zeroValue e).run P w = .ok (.bool false) w) (b n : Nat) (D : DataW Unit)
    (hm : a.eval m = .map (some b)) (hown : w.ownsMap P k (plainElem P e) b n D) (key : Value) (kl : Lit) (hx : a.eval x = key) (hkey : keyOf P k key = some kl)
    (hK : ∀ c : Bool, D.atKey kl (.lit (.bool false)) = .lit (.bool c) → wpList P ops Q rest (a.put o.dst (.bool c)) w) :
    wpList P ops Q (o :: rest) a w := by
  rw [wpList, if_pos hw]
  refine .inl ?_
  obtain ⟨v, ps, hrun, hv⟩ := hown.lookup K ht hz (plainElem_bool he false) hkey
  obtain ⟨c, rfl, hc⟩ := plainElem_bool_inv he hv
  simp only [Prod.mk.injEq] at hc
  unfold Oper.wp
  simp [execOp, hop, hm, hx, hrun, Result.andThen]
  exact hK c hc.1
/-- the numbers seen -/
def ksOf (hs : List HR) : List Lit := hs.map fun x => .int .i64 x.id
theorem ks_key (hs : List HR) : ∀ x ∈ ksOf hs, WideAt.IsKeyLit x := fun x hx => by
  obtain ⟨y, _, rfl⟩ := List.mem_map.1 hx
  exact True.intro
theorem at_set (u z : DataW Unit) (k : Lit) : ∀ (acc : List Lit) (m : DataW Unit), IsMap m → (∀ x ∈ acc, WideAt.IsKeyLit x) → (k ∈ acc ∧ (acc.foldl (fun m x => m.put x u) m).atKey k z = u) ∨ (k ∉ acc ∧ (acc.foldl (fun m x => m.put x u) m).atKey k z = m.atKey k z)
  | [], m, _, _ => .inr ⟨by simp, rfl⟩
  | x :: acc, m, hm, ha => by
    have ih := at_set u z k acc (m.put x u) (hm.put x u) fun y hy => ha y (List.mem_cons_of_mem _ hy)
    rw [List.foldl_cons]
    rcases ih with ⟨h1, h2⟩ | ⟨h1, h2⟩
    · exact .inl ⟨List.mem_cons_of_mem _ h1, h2⟩
    · by_cases h3 : k = x
      · subst h3
        rw [atKey_put_same hm (ha _ List.mem_cons_self)] at h2
        exact .inl ⟨List.mem_cons_self, h2⟩
      · rw [atKey_put_other h3] at h2
        exact .inr ⟨fun h => by
          rcases List.mem_cons.1 h with h | h
          · exact h3 h
          · exact h1 h, h2⟩
def seen (hs : List HR) : DataW Unit := setOf (.lit (.bool true)) (ksOf hs)
theorem seen_at {hs : List HR} {n : Int} {c : Bool} (h : (seen hs).atKey (.int .i64 n) (.lit (.bool false)) = .lit (.bool c)) : c = true ↔ n ∈ hs.map HR.id := by
  have e : Lit.int .i64 n ∈ ksOf hs ↔ n ∈ hs.map HR.id := by
    rw [ksOf, List.mem_map, List.mem_map]
    constructor
    · rintro ⟨x, hx, h⟩
      injection h with _ h
      exact ⟨x, hx, h⟩
    · rintro ⟨x, hx, h⟩
      exact ⟨x, hx, by rw [h]⟩
  rcases at_set (.lit (.bool true)) (.lit (.bool false)) (.int .i64 n) (ksOf hs) (.map []) isMap_empty (ks_key hs) with ⟨h1, h2⟩ | ⟨h1, h2⟩
  · rw [seen, setOf, h2] at h
    injection h with h; injection h with h
    exact ⟨fun _ => e.1 h1, fun _ => h.symm⟩
  · rw [seen, setOf, h2] at h
    have h : DataW.lit (H := Unit) (.bool false) = .lit (.bool c) := h
    injection h with h; injection h with h
    subst h
    exact ⟨fun x => (by cases x), fun x => absurd (e.2 x) h1⟩
theorem seen_snoc (hs : List HR) (x : HR) : seen (hs ++ [x]) = (seen hs).put (.int .i64 x.id) (.lit (.bool true)) := by
  rw [seen, seen, ksOf, ksOf, List.map_append]
  exact setOf_snoc _ _ _
theorem zeroB (w : World) : (zeroValue 4).run Tryz.prog w = .ok (.bool false) w := by kernel_rfl
theorem lawI : Keyed Tryz.prog 3 := int_keyed Tryz.underlying3
/-- the first hoards are in order -/
def GoodTo (hs : List HR) (k : Nat) : Prop := Good (hs.take k)
theorem GoodTo.step {hs : List HR} {k : Nat} {x : HR} (h : GoodTo hs k) (hx : hs[k]? = some x) (hv : x.V) (hn : x.id ∉ (hs.take k).map HR.id) : GoodTo hs (k + 1) := by
  obtain ⟨hk, rfl⟩ := List.getElem?_eq_some_iff.1 hx
  rw [GoodTo, List.take_succ_eq_append_getElem hk]
  refine ⟨fun y hy => ?_, ?_⟩
  · rcases List.mem_append.1 hy with hy | hy
    · exact h.1 y hy
    · rw [List.mem_singleton.1 hy]; exact hv
  · rw [List.map_append, List.nodup_append]
    refine ⟨h.2, by simp, fun a ha b hb => ?_⟩
    simp at hb
    subst hb
    exact fun e => hn (e ▸ ha)
theorem Good.nv {hs : List HR} {k : Nat} {x : HR} (hx : hs[k]? = some x) (hv : ¬ x.V) : ¬ Good hs := fun h => hv (h.1 x (List.mem_of_getElem? hx))
theorem Good.dup {hs : List HR} {k : Nat} {x : HR} (hx : hs[k]? = some x) (hn : x.id ∈ (hs.take k).map HR.id) : ¬ Good hs := fun h => by
  obtain ⟨hk, rfl⟩ := List.getElem?_eq_some_iff.1 hx
  have h2 := h.2
  rw [← List.take_append_drop k hs, List.map_append, List.nodup_append] at h2
  refine h2.2.2 _ hn _ (List.mem_map.2 ⟨hs[k], ?_, rfl⟩) rfl
  rw [List.drop_eq_getElem_cons hk]; exact List.mem_cons_self
theorem wf_id {x : HR} (h : x.V) : (Lit.int .i64 x.id).wf = true := WalkArith.wf_i64 (by have := h.1; omega)
set_option maxHeartbeats 4000000 in
set_option maxRecDepth 100000 in
theorem check_any {e0 : Int} (A : Option Addr) (c : Nat) (hs : List HR) (w : World) (H : HL w A hs) (hl : hs.length ≤ 9223372036854775807) (he : Hid (ChkIs hs e0)) :
    Calls Tryz.prog 61 #[.slice A hs.length c] w (RetI w e0) := by
  have hmm := @run_makeMap Tryz.prog
  by_cases h8 : hs.length ≤ 8
  · have h8b : decide ((8 : Int) < (hs.length : Int)) = false := decide_eq_false (by omega)
    have hM0 := World.ownsMap_made (H := Unit) w Tryz.prog 3 (plainElem Tryz.prog 4)
    have hb0 := below_alloc w (.map #[] 0)
    have hg0 := Lib.hid (show GoodTo hs 0 from ⟨fun x h => by simp at h, by simp⟩)
    go_enter Tryz.func61, Tryz.ntmps61
    go_upto_block 4 with fail
    go_wp2
    go_loopg [12] hs.length (fun g i wr => ∃ k : Nat, k + g = hs.length ∧ i = .int .i64 (k : Int) ∧ Hid (GoodTo hs k) ∧ wr.ownsMap Tryz.prog 3 (plainElem Tryz.prog 4) w.heap.size k (seen (hs.take k)) ∧ Below w.heap.size w wr)
    case atStart => exact ⟨0, by omega, rfl, hg0, hM0, hb0⟩
    case round =>
      clear hM0 hb0 hg0
      obtain ⟨k, hk, rfl, hg, HM, hbw⟩ := hrel
      by_cases hk0 : k < hs.length
      · have hx := Lib.hid (List.getElem?_eq_getElem hk0)
        obtain ⟨ad, rfl, hbk, c0, c1, c2, c3, HE, hxl⟩ := (H.ext hbw).at_ hx.out
        have hsn := Lib.hid (show seen (hs.take (k + 1)) = (seen (hs.take k)).put (.int .i64 (hs[k]).id) (.lit (.bool true)) by rw [List.take_succ_eq_append_getElem hk0]; exact seen_snoc _ _)
        generalize hs[k] = x at *
        have HX : BL w wr [] := ⟨hbw, fun i p hp => by simp at hp⟩
        go_upto_region 7 with fail
        have hb := below_alloc wr (.cells #[.int .i64 x.id, .slice x.A x.l.length x.c, .int .i64 x.f, .int .i64 x.t] 26)
        replace HX := HX.new #[.int .i64 x.id, .slice x.A x.l.length x.c, .int .i64 x.f, .int .i64 x.t] 26
        simp only [List.nil_append] at HX
        replace HE := HE.ext hb
        replace HM := ownsMap_ext HM hb
        clear hb c0 c1 c2 c3 hbk hbw
        generalize wr.alloc (.cells #[.int .i64 x.id, .slice x.A x.l.length x.c, .int .i64 x.f, .int .i64 x.t] 26) = W4 at *
        generalize wr.heap.size = g4 at *
        by_cases hv : x.V
        · have YV := yes hv
          have WF := wf_id hv
          have VV := Lib.hid hv
          clear hv
          have hc00 := HX.cell 0 0 rfl rfl
          have hc01 := HX.cell 0 1 rfl rfl
          have hc02 := HX.cell 0 2 rfl rfl
          have hc03 := HX.cell 0 3 rfl rfl
          try simp only [List.getElem_toArray, List.getElem_cons_zero, List.getElem_cons_succ] at hc00 hc01 hc02 hc03
          by_cases hd0 : x.id ∈ (hs.take k).map HR.id
          · have hno := Lib.hid (Good.dup hx.out hd0)
            have hd := Lib.hid hd0
            clear hd0
            obtain rfl : e0 = 1 := by
              rcases he.out with ⟨h, _⟩ | ⟨_, h, _⟩ | ⟨_, _, h⟩
              · omega
              · exact absurd h hno.out
              · exact h
            go_wp2_with (first
              | (go_at_call 15; refine (hvalid_any (b := true) x.A x.c x.l _ HE hxl YV).mono ?_; rintro e w5 ⟨rfl, hb⟩; replace HX := HX.ext hb; replace HM := ownsMap_ext HM hb; clear hb hc00 hc01 hc02 hc03; have hc00 := HX.cell 0 0 rfl rfl; have hc01 := HX.cell 0 1 rfl rfl; have hc02 := HX.cell 0 2 rfl rfl; have hc03 := HX.cell 0 3 rfl rfl; (try simp only [List.getElem_toArray, List.getElem_cons_zero, List.getElem_cons_succ] at hc00 hc01 hc02 hc03))
              | (at_lookup; refine wp_lookup_bool _ (by kernel_rfl) _ _ 114 rfl 3 4 lawI Tryz.underlying114 Tryz.underlying4 (zeroB _) w.heap.size k _ rfl HM _ _ rfl (keyOf_int_mk Tryz.underlying3 WF) ?_; intro cc hcc; obtain rfl : cc = true := (seen_at hcc).2 hd.out; clear hcc))
            go_ret
            exact ⟨rfl, HX.below⟩
          · have hgn := Lib.hid (GoodTo.step hg.out hx.out VV.out hd0)
            have hd := Lib.hid hd0
            clear hd0
            go_wp2_with (first
              | (go_at_call 15; refine (hvalid_any (b := true) x.A x.c x.l _ HE hxl YV).mono ?_; rintro e w5 ⟨rfl, hb⟩; replace HX := HX.ext hb; replace HM := ownsMap_ext HM hb; clear hb hc00 hc01 hc02 hc03; have hc00 := HX.cell 0 0 rfl rfl; have hc01 := HX.cell 0 1 rfl rfl; have hc02 := HX.cell 0 2 rfl rfl; have hc03 := HX.cell 0 3 rfl rfl; (try simp only [List.getElem_toArray, List.getElem_cons_zero, List.getElem_cons_succ] at hc00 hc01 hc02 hc03))
              | (at_lookup; refine wp_lookup_bool _ (by kernel_rfl) _ _ 114 rfl 3 4 lawI Tryz.underlying114 Tryz.underlying4 (zeroB _) w.heap.size k _ rfl HM _ _ rfl (keyOf_int_mk Tryz.underlying3 WF) ?_; intro cc hcc; obtain rfl : cc = false := (by cases cc; rfl; exact absurd ((seen_at hcc).1 rfl) hd.out); clear hcc)
              | (at_mapUpdate; refine wpList_mapUpdate_own _ rfl _ _ _ 114 rfl 3 4 lawI Tryz.underlying114 _ w.heap.size k _ rfl HM (by unfold maxLen; omega) _ _ _ rfl rfl (keyOf_int_mk Tryz.underlying3 WF) _ [] (plainElem_bool Tryz.underlying4 true) ?_; intro w6 HM6 hgr))
            have hb6 : Below w.heap.size w w6 := HX.below.grown hgr HX.below.size (fun j hj => by cases hj; exact Nat.le_refl _)
            rw [← hsn.out] at HM6
            go_wp2
            go_roundg (hs.length - (k + 1))
            case measure => omega
            case rel => exact ⟨k + 1, by omega, by go_num, hgn, HM6, hb6⟩
        · have NV := no hv
          have hno := Lib.hid (Good.nv hx.out hv)
          clear hv
          obtain rfl : e0 = 1 := by
            rcases he.out with ⟨h, _⟩ | ⟨_, h, _⟩ | ⟨_, _, h⟩
            · omega
            · exact absurd h hno.out
            · exact h
          have hc00 := HX.cell 0 0 rfl rfl
          have hc01 := HX.cell 0 1 rfl rfl
          have hc02 := HX.cell 0 2 rfl rfl
          have hc03 := HX.cell 0 3 rfl rfl
          try simp only [List.getElem_toArray, List.getElem_cons_zero, List.getElem_cons_succ] at hc00 hc01 hc02 hc03
          go_wp2_with fail
          refine (hvalid_any (b := false) x.A x.c x.l _ HE hxl NV).mono ?_
          rintro e w5 ⟨rfl, hb⟩
          replace HX := HX.ext hb
          go_wp2
          go_ret
          exact ⟨rfl, HX.below⟩
      · have hok := Lib.hid (show Good hs by
          have := hg.out
          rwa [GoodTo, List.take_of_length_le (by omega)] at this)
        obtain rfl : e0 = 0 := by
          rcases he.out with ⟨h, _⟩ | ⟨_, _, h⟩ | ⟨_, h, _⟩
          · omega
          · exact h
          · exact absurd hok.out h
        go_wp2
        go_ret
        exact ⟨rfl, hbw⟩
  · have h8b : decide ((8 : Int) < (hs.length : Int)) = true := decide_eq_true (by omega)
    obtain rfl : e0 = 6 := by
      rcases he.out with ⟨_, h⟩ | ⟨h, _⟩ | ⟨h, _⟩
      · exact h
      · exact absurd h h8
      · exact absurd h h8
    go_enter Tryz.func61, Tryz.ntmps61
    go_wp2
    go_ret
    exact ⟨rfl, Below.refl _ _⟩
end Go.Proofs.YthempimelfmipaaGreatDoor

namespace Go.Proofs.YthempimelfmipaaGreatDoor
open Go.RowKit Go.Proofs Go

/-- row i of a square matrix: its slice, its fractions, its numbers -/
theorem ML.rowN {w : World} {A : Option Addr} {rs : List RR} (h : ML w A rs) {n i : Nat} (hs : Sqr rs n) (hi : i < n) :
    ∃ (ad ad2 : Addr) (rc : Nat) (fs : List FE) (qs : List Rat), A = some ad ∧ ad.block < w.heap.size ∧ ad2.block < w.heap.size ∧ w.cell? (ad.add i) = some (.slice (some ad2) n rc) ∧ fs.length = n ∧ FS w (some ad2) fs ∧ FK 6 w fs qs ∧ ∀ j : Nat, qs[j]?.getD 0 = mq (qOf rs) (i : Int) (j : Int) := by
  have hr := List.getElem?_eq_getElem (show i < rs.length by rw [hs.1]; exact hi)
  have hn := hs.2 i _ hr
  obtain ⟨ad, h1, h2, h3, h4, h5, h6⟩ := h.at_ hr
  obtain ⟨ad2, g1, g2, _⟩ := h4 (by omega)
  refine ⟨ad, ad2, _, _, _, h1, h2, g2, by rw [h3, g1, hn], hn, g1 ▸ h4, h5, fun j => ?_⟩
  rw [mq, qOf, Int.toNat_natCast, Int.toNat_natCast, List.getElem?_map, hr]; rfl
/-- an element of a row -/
theorem elN {w : World} {ad : Addr} {fs : List FE} {qs : List Rat} {n j : Nat} (h : FS w (some ad) fs) (hk : FK 6 w fs qs) (hn : fs.length = n) (hj : j < n) :
    ∃ x : FE, w.cell? (ad.add (j * 3)) = some (.bool x.s) ∧ w.cell? ⟨(ad.add (j * 3)).block, (ad.add (j * 3)).off + 1, none⟩ = some (.slice x.A x.n x.c) ∧ w.cell? ⟨(ad.add (j * 3)).block, (ad.add (j * 3)).off + 2, none⟩ = some (.slice x.B x.m x.d) ∧ Fr w x.s x.A x.n x.c x.B x.m x.d (qs[j]?.getD 0) 6 := by
  have hx := List.getElem?_eq_getElem (show j < fs.length by omega)
  obtain ⟨ad2, e, _, c0, c1, c2⟩ := h.at_ hx
  obtain rfl := Option.some.inj e
  have hq := List.getElem?_eq_getElem (show j < qs.length by rw [← hk.len]; omega)
  refine ⟨_, c0, c1, c2, ?_⟩
  rw [hq]; exact hk.fr j _ _ hx hq
theorem el_get {l : List Int} {i : Nat} (h : i < l.length) : l[i]? = some (el l i) := by rw [el, List.getElem?_eq_getElem h]; rfl
theorem below_up {V W : World} {p : Addr} {v : Value} (hb : Below V.heap.size V W) (h : V.cell? p = some v) : W.cell? p = some v := by rw [hb.cell (cell_lt h)]; exact h
theorem gtQ_cmp {x y : Rat} {s : Int} (h : cmpQ x y = s) : gtQ x y = if 0 < s then 1 else 0 := by
  rw [gtQ, ← h]
  by_cases h1 : y < x
  · rw [if_pos h1, if_pos (cmpQ_pos.2 h1)]
  · rw [if_neg h1, if_neg fun h => h1 (cmpQ_pos.1 h)]
set_option maxHeartbeats 8000000 in
set_option maxRecDepth 100000 in
theorem events_any {ev : Nat} (A Ao : Option Addr) (c co : Nat) (rs : List RR) (l : List Int) (n : Nat) (w : World) (H : ML w A rs) (hs : Sqr rs n) (Ho : IEs w Ao l) (hl : l.length ≤ 10) (hbd : ∀ x ∈ l, 0 ≤ x ∧ x < n) (_hn : n ≤ 1000000) (hev : Hid (evs (mq (qOf rs)) l = ev)) :
    Calls Tryz.prog 55 #[.slice A n c, .slice Ao l.length co] w (RetI w ev) := by
  obtain ⟨M, hM⟩ : ∃ M, Hid (mq (qOf rs) = M) := ⟨_, Lib.hid rfl⟩
  obtain ⟨T, hT⟩ : ∃ T : Nat → Nat → Nat → Nat, Hid ((fun p q r => tri M (el l p) (el l q) (el l r)) = T) := ⟨_, Lib.hid rfl⟩
  obtain ⟨G, hG⟩ : ∃ G : Nat → Nat → Nat, Hid ((fun q r => sumB (fun p => T p q r) q) = G) := ⟨_, Lib.hid rfl⟩
  obtain ⟨F, hF⟩ : ∃ F : Nat → Nat, Hid ((fun r => sumB (fun q => G q r) r) = F) := ⟨_, Lib.hid rfl⟩
  have hE := Lib.hid (show sumB F l.length = ev by rw [← hF.out, ← hG.out, ← hT.out, hM.out.symm]; exact hev.out)
  have HS := Lib.hid hs
  have HB := Lib.hid hbd
  have hT2 : Hid (∀ p q r, T p q r ≤ 2) := Lib.hid (fun p q r => by rw [← hT.out]; exact tri_le _ _ _ _)
  have hG2 : Hid (∀ q r, q ≤ 10 → sumB (fun p => T p q r) q ≤ 20) := Lib.hid (fun q r h => by have := sumB_le (n := q) (f := fun p => T p q r) fun i _ => hT2.out i q r; omega)
  have hF2 : Hid (∀ q r, q ≤ 10 → r ≤ 10 → sumB (fun q => G q r) q ≤ 200) := Lib.hid (fun q r h h' => by
    have := sumB_le (n := q) (f := fun q => G q r) (b := 20) fun i hi => by rw [← hG.out]; exact hG2.out i r (by omega)
    omega)
  have hE2 : Hid (∀ r, r ≤ 10 → sumB F r ≤ 2000) := Lib.hid (fun r h => by
    have := sumB_le (n := r) (f := F) (b := 200) fun i hi => by rw [← hF.out]; exact hF2.out i i (by omega) (by omega)
    omega)
  clear hs hbd hev
  go_enter Tryz.func55, Tryz.ntmps55
  go_upto_block 3 with fail
  go_loopg [5, 12] l.length (fun g u i wr => ∃ r : Nat, r + g = l.length ∧ u = .int .i64 ((sumB F r : Nat) : Int) ∧ i = .int .i64 (r : Int) ∧ Below w.heap.size w wr)
  case atStart => exact ⟨0, by omega, rfl, rfl, Below.refl _ _⟩
  case round =>
    obtain ⟨r, hr, rfl, rfl, hbw⟩ := hrel
    by_cases hr0 : r < l.length
    · have hE3 := hE2.out r (by omega)
      have hsr := Lib.hid (show sumB F (r + 1) = sumB F r + sumB (fun q => G q r) r by rw [sumB, ← hF.out])
      generalize sumB F r = s1 at *
      go_upto_block 6 with fail
      go_loopg [5, 16] r (fun g u i wr => ∃ q : Nat, q + g = r ∧ u = .int .i64 (((s1 + sumB (fun q => G q r) q : Nat)) : Int) ∧ i = .int .i64 (q : Int) ∧ Below w.heap.size w wr)
      case atStart => exact ⟨0, by omega, rfl, rfl, hbw⟩
      case round =>
        clear hbw
        obtain ⟨q, hq, rfl, rfl, hbw⟩ := hrel
        by_cases hq0 : q < r
        · have hF3 := hF2.out q r (by omega) (by omega)
          have hsq := Lib.hid (show sumB (fun q => G q r) (q + 1) = sumB (fun q => G q r) q + sumB (fun p => T p q r) q by rw [sumB, ← hG.out])
          generalize sumB (fun q => G q r) q = s2 at *
          go_upto_block 9 with fail
          go_loopg [5, 20] q (fun g u i wr => ∃ p : Nat, p + g = q ∧ u = .int .i64 (((s1 + s2 + sumB (fun p => T p q r) p : Nat)) : Int) ∧ i = .int .i64 (p : Int) ∧ Below w.heap.size w wr)
          case atStart => exact ⟨0, by omega, rfl, rfl, hbw⟩
          case round =>
            clear hbw
            obtain ⟨p, hp, rfl, rfl, hbw⟩ := hrel
            by_cases hp0 : p < q
            · have hG3 := hG2.out q r (by omega)
              have hG4 := sumB_le (n := p) (f := fun p => T p q r) fun i _ => hT2.out i q r
              have hsu0 := show sumB (fun p => T p q r) (p + 1) = sumB (fun p => T p q r) p + tri M (el l p) (el l q) (el l r) by rw [sumB, ← hT.out]
              generalize sumB (fun p => T p q r) p = s3 at *
              obtain ⟨ao, hao, hbo, op⟩ := (Ho.ext hbw).at_ (el_get (show p < l.length by omega))
              obtain ⟨ao2, hao2, _, oq⟩ := (Ho.ext hbw).at_ (el_get (show q < l.length by omega))
              obtain ⟨ao3, hao3, _, or_⟩ := (Ho.ext hbw).at_ (el_get (show r < l.length by omega))
              obtain rfl := Option.some.inj (hao.symm.trans hao2)
              obtain rfl := Option.some.inj (hao.symm.trans hao3)
              have bp := HB.out _ (el_mem (show p < l.length by omega))
              have bq := HB.out _ (el_mem (show q < l.length by omega))
              have br := HB.out _ (el_mem (show r < l.length by omega))
              generalize el l p = xp at *
              generalize el l q = xq at *
              generalize el l r = xr at *
              obtain ⟨i, rfl⟩ := Int.eq_ofNat_of_zero_le bp.1
              obtain ⟨j, rfl⟩ := Int.eq_ofNat_of_zero_le bq.1
              obtain ⟨k, rfl⟩ := Int.eq_ofNat_of_zero_le br.1
              have hi : i < n := by omega
              have hj : j < n := by omega
              have hk : k < n := by omega
              clear bp bq br hao2 hao3
              obtain ⟨ad, ra, rca, fa, qa, hA1, hb1, hb2, ra0, na, FSa, FKa, ea⟩ := (H.ext hbw).rowN HS.out hi
              obtain ⟨ad', rb, rcb, fb, qb, hA2, hb3, hb4, rb0, nb, FSb, FKb, eb⟩ := (H.ext hbw).rowN HS.out hj
              obtain rfl := Option.some.inj (hA1.symm.trans hA2)
              clear hA2
              obtain ⟨z, z0, z1, z2, Fz⟩ := elN FSa FKa na hk
              obtain ⟨x, x0, x1, x2, Fx⟩ := elN FSa FKa na hj
              obtain ⟨y, y0, y1, y2, Fy⟩ := elN FSb FKb nb hk
              rw [ea k, hM.out] at Fz
              rw [ea j, hM.out] at Fx
              rw [eb k, hM.out] at Fy
              clear FSa FSb FKa FKb na nb ea eb
              obtain ⟨s1c, H1⟩ : ∃ s, Hid (cmpQ (M i k) (M i j) = s) := ⟨_, Lib.hid rfl⟩
              obtain ⟨s2c, H2⟩ : ∃ s, Hid (cmpQ (M i k) (M j k) = s) := ⟨_, Lib.hid rfl⟩
              rw [tri, gtQ_cmp H1.out, gtQ_cmp H2.out] at hsu0
              have HSU := Lib.hid hsu0
              clear hsu0
              subst hA1
              subst hao
              have hpl : p < l.length := by omega
              have hql : q < l.length := by omega
              have hrl : r < l.length := by omega
              go_upto_region 11 with fail
              have HX := BL.nil wr
              refine wp_region_x (al := [13]) (late := []) (dst := fun i => 9) (zt := fun _ => (#[.bool false, .slice none 0 0, .slice none 0 0], 33)) (B := wr.heap.size) (n := 13) (r := 1) (by kernel_rfl) (by kernel_rfl) (by decide) ?_ (by kernel_rfl) (by kernel_rfl) (by intro _ _ _ d _ h; cases d <;> exact h) (sz := 15) (by rfl) (by rfl) (Nat.le_refl _) ?_
              · intro i hi
                simp only [List.mem_cons, List.not_mem_nil, or_false] at hi
                subst hi
                exact ⟨_, rfl, rfl, rfl, rfl, fun _ _ => by kernel_rfl⟩
              have hE : Ext wr wr.drew := drew_ext wr
              replace HX := HX.ext hE
              replace Fz := Fz.ext hE
              replace Fx := Fx.ext hE
              replace Fy := Fy.ext hE
              clear hE
              refine wpX_take (i := 0) (v := .slice (some ad) n c) (by simp only [List.getElem?_toArray, List.getElem?_cons_zero]; rfl) (by kernel_rfl) (by kernel_rfl) (by kernel_rfl) (by exact fun _ _ _ h => h) (Or.inl ⟨by rfl, fun W hW => ?_⟩) ?_
              · go_simp
                try rfl
              try simp only [Act.put, List.setIfInBounds_toArray, List.set_cons_zero, List.set_cons_succ]
              refine wpX_take (i := 1) (v := .slice (some ao) l.length co) (by simp only [List.getElem?_toArray, List.getElem?_cons_succ, List.getElem?_cons_zero]; rfl) (by kernel_rfl) (by kernel_rfl) (by kernel_rfl) (by exact fun _ _ _ h => h) (Or.inl ⟨by rfl, fun W hW => ?_⟩) ?_
              · go_simp
                try rfl
              try simp only [Act.put, List.setIfInBounds_toArray, List.set_cons_zero, List.set_cons_succ]
              refine wpX_take (i := 2) (v := .int .i64 (p : Int)) (by simp only [List.getElem?_toArray, List.getElem?_cons_succ, List.getElem?_cons_zero]; rfl) (by kernel_rfl) (by kernel_rfl) (by kernel_rfl) (by exact fun _ _ _ h => h) (Or.inl ⟨by rfl, fun W hW => ?_⟩) ?_
              · go_simp
                try rfl
              try simp only [Act.put, List.setIfInBounds_toArray, List.set_cons_zero, List.set_cons_succ]
              refine wpX_take (i := 3) (v := .pointer (some (ao.add p))) (by simp only [List.getElem?_toArray, List.getElem?_cons_succ, List.getElem?_cons_zero]; rfl) (by kernel_rfl) (by kernel_rfl) (by kernel_rfl) (by exact fun _ _ _ h => h) (Or.inl ⟨by rfl, fun W hW => ?_⟩) ?_
              · go_simp
                try rfl
              try simp only [Act.put, List.setIfInBounds_toArray, List.set_cons_zero, List.set_cons_succ]
              refine wpX_take (i := 4) (v := .int .i64 (i : Int)) (by simp only [List.getElem?_toArray, List.getElem?_cons_succ, List.getElem?_cons_zero]; rfl) (by kernel_rfl) (by kernel_rfl) (by kernel_rfl) (by exact fun _ _ _ h => h) (Or.inl ⟨by rfl, fun W hW => ?_⟩) ?_
              · have h0 := below_up (bel_trans HX.below hW) op
                go_simp
                try rfl
              try simp only [Act.put, List.setIfInBounds_toArray, List.set_cons_zero, List.set_cons_succ]
              refine wpX_take (i := 5) (v := .pointer (some (ad.add i))) (by simp only [List.getElem?_toArray, List.getElem?_cons_succ, List.getElem?_cons_zero]; rfl) (by kernel_rfl) (by kernel_rfl) (by kernel_rfl) (by exact fun _ _ _ h => h) (Or.inl ⟨by rfl, fun W hW => ?_⟩) ?_
              · go_simp
                try rfl
              try simp only [Act.put, List.setIfInBounds_toArray, List.set_cons_zero, List.set_cons_succ]
              refine wpX_take (i := 6) (v := .slice (some ra) n rca) (by simp only [List.getElem?_toArray, List.getElem?_cons_succ, List.getElem?_cons_zero]; rfl) (by kernel_rfl) (by kernel_rfl) (by kernel_rfl) (by exact fun _ _ _ h => h) (Or.inl ⟨by rfl, fun W hW => ?_⟩) ?_
              · have h0 := below_up (bel_trans HX.below hW) ra0
                go_simp
                try rfl
              try simp only [Act.put, List.setIfInBounds_toArray, List.set_cons_zero, List.set_cons_succ]
              refine wpX_take (i := 7) (v := .slice (some ao) l.length co) (by simp only [List.getElem?_toArray, List.getElem?_cons_succ, List.getElem?_cons_zero]; rfl) (by kernel_rfl) (by kernel_rfl) (by kernel_rfl) (by exact fun _ _ _ h => h) (Or.inl ⟨by rfl, fun W hW => ?_⟩) ?_
              · go_simp
                try rfl
              try simp only [Act.put, List.setIfInBounds_toArray, List.set_cons_zero, List.set_cons_succ]
              refine wpX_take (i := 8) (v := .int .i64 (r : Int)) (by simp only [List.getElem?_toArray, List.getElem?_cons_succ, List.getElem?_cons_zero]; rfl) (by kernel_rfl) (by kernel_rfl) (by kernel_rfl) (by exact fun _ _ _ h => h) (Or.inl ⟨by rfl, fun W hW => ?_⟩) ?_
              · go_simp
                try rfl
              try simp only [Act.put, List.setIfInBounds_toArray, List.set_cons_zero, List.set_cons_succ]
              refine wpX_take (i := 9) (v := .pointer (some (ao.add r))) (by simp only [List.getElem?_toArray, List.getElem?_cons_succ, List.getElem?_cons_zero]; rfl) (by kernel_rfl) (by kernel_rfl) (by kernel_rfl) (by exact fun _ _ _ h => h) (Or.inl ⟨by rfl, fun W hW => ?_⟩) ?_
              · go_simp
                try rfl
              try simp only [Act.put, List.setIfInBounds_toArray, List.set_cons_zero, List.set_cons_succ]
              refine wpX_take (i := 10) (v := .int .i64 (k : Int)) (by simp only [List.getElem?_toArray, List.getElem?_cons_succ, List.getElem?_cons_zero]; rfl) (by kernel_rfl) (by kernel_rfl) (by kernel_rfl) (by exact fun _ _ _ h => h) (Or.inl ⟨by rfl, fun W hW => ?_⟩) ?_
              · have h0 := below_up (bel_trans HX.below hW) or_
                go_simp
                try rfl
              try simp only [Act.put, List.setIfInBounds_toArray, List.set_cons_zero, List.set_cons_succ]
              refine wpX_take (i := 11) (v := .pointer (some (ra.add (k * 3)))) (by simp only [List.getElem?_toArray, List.getElem?_cons_succ, List.getElem?_cons_zero]; rfl) (by kernel_rfl) (by kernel_rfl) (by kernel_rfl) (by exact fun _ _ _ h => h) (Or.inl ⟨by rfl, fun W hW => ?_⟩) ?_
              · go_simp
                try rfl
              try simp only [Act.put, List.setIfInBounds_toArray, List.set_cons_zero, List.set_cons_succ]
              refine wpX_take (i := 12) (v := .agg #[.bool z.s, .slice z.A z.n z.c, .slice z.B z.m z.d]) (by simp only [List.getElem?_toArray, List.getElem?_cons_succ, List.getElem?_cons_zero]; rfl) (by kernel_rfl) (by kernel_rfl) (by kernel_rfl) (by exact fun _ _ _ h => h) (Or.inl ⟨by rfl, fun W hW => ?_⟩) ?_
              · have h0 := below_up (bel_trans HX.below hW) z0
                have h1 := below_up (bel_trans HX.below hW) z1
                have h2 := below_up (bel_trans HX.below hW) z2
                go_simp
                try rfl
              try simp only [Act.put, List.setIfInBounds_toArray, List.set_cons_zero, List.set_cons_succ]
              refine wpX_end (by kernel_rfl) (fun W5 ga m hE hg hm => ?_)
              replace HX := HX.ext hE
              replace Fz := Fz.ext hE
              replace Fx := Fx.ext hE
              replace Fy := Fy.ext hE
              clear hE
              have hgg := hg.1 13 (by simp)
              have hlg9 := hgg.1
              have hkg9 := hgg.2
              clear hgg
              clear hg
              simp only [putAll]
              try simp only [Act.put, List.setIfInBounds_toArray, List.set_cons_zero, List.set_cons_succ]
              generalize ga 13 = g9 at hlg9 hkg9 ⊢
              try clear ga
              replace HX := HX.add hkg9
              clear hkg9
              simp only [List.nil_append] at HX
              have hc00 := HX.cell 0 0 rfl rfl
              have hf00 := HX.free 0 0 rfl
              have hc01 := HX.cell 0 1 rfl rfl
              have hf01 := HX.free 0 1 rfl
              have hc02 := HX.cell 0 2 rfl rfl
              have hf02 := HX.free 0 2 rfl
              try simp only [List.getElem_toArray, List.getElem_cons_zero, List.getElem_cons_succ] at hc00 hf00 hc01 hf01 hc02 hf02
              refine wpAny_step (i := 14) (by kernel_rfl) (by simp only [List.getElem?_toArray, List.getElem?_cons_succ, List.getElem?_cons_zero]; rfl) (by omega) (fun K hK => ?_)
              go_simp
              refine hK.out _ _ ?_
              clear hK K
              clear hc00 hf00 hc01 hf01 hc02 hf02
              have hk := HX.keep3 0 rfl rfl rfl rfl (by omega) (.bool z.s) (.slice z.A z.n z.c) (.slice z.B z.m z.d)
              replace HX := HX.put3 0 rfl (by omega) (by intro k q hk hne; match k, hk with | 0, hk => (simp at hk; subst hk; simp at hne ⊢; try omega) | k + 1, hk => simp at hk) (.bool z.s) (.slice z.A z.n z.c) (.slice z.B z.m z.d)
              replace Fz := Fz.stay hk
              replace Fx := Fx.stay hk
              replace Fy := Fy.stay hk
              clear hk
              simp only [List.set_cons_zero] at HX
              generalize ((W5.setCell ⟨g9, 0, none⟩ (.bool z.s)).setCell ⟨g9, 1, none⟩ (.slice z.A z.n z.c)).setCell ⟨g9, 2, none⟩ (.slice z.B z.m z.d) = V9 at HX Fz Fx Fy ⊢
              refine wpAny_done (by kernel_rfl) ?_ _
              by_cases hx1 : 0 < s1c
              · have hd1 : decide (0 < s1c) = true := decide_eq_true hx1
                go_upto_region 12 with fail
                have held : ∀ {W' : World}, BL wr W' [(g9, #[.bool z.s, .slice z.A z.n z.c, .slice z.B z.m z.d], 33)] → W'.cell? ⟨g9, 0, none⟩ = some (.bool z.s) ∧ W'.cell? ⟨g9, 1, none⟩ = some (.slice z.A z.n z.c) ∧ W'.cell? ⟨g9, 2, none⟩ = some (.slice z.B z.m z.d) ∧ W'.cell? (ao.add p) = some (.int .i64 (i : Int)) ∧ W'.cell? (ad.add i) = some (.slice (some ra) n rca) ∧ W'.cell? (ao.add q) = some (.int .i64 (j : Int)) ∧ W'.cell? (ra.add (j * 3)) = some (.bool x.s) ∧ W'.cell? ⟨(ra.add (j * 3)).block, (ra.add (j * 3)).off + 1, none⟩ = some (.slice x.A x.n x.c) ∧ W'.cell? ⟨(ra.add (j * 3)).block, (ra.add (j * 3)).off + 2, none⟩ = some (.slice x.B x.m x.d) := fun h => ⟨h.cell 0 0 rfl rfl, h.cell 0 1 rfl rfl, h.cell 0 2 rfl rfl, below_up h.below op, below_up h.below ra0, below_up h.below oq, below_up h.below x0, below_up h.below x1, below_up h.below x2⟩
                replace HX := HX.ext (drew_ext _)
                replace Fz := Fz.ext (drew_ext _)
                replace Fx := Fx.ext (drew_ext _)
                replace Fy := Fy.ext (drew_ext _)
                go_region_held3 (fun W' => W'.cell? ⟨g9, 0, none⟩ = some (.bool z.s) ∧ W'.cell? ⟨g9, 1, none⟩ = some (.slice z.A z.n z.c) ∧ W'.cell? ⟨g9, 2, none⟩ = some (.slice z.B z.m z.d) ∧ W'.cell? (ao.add p) = some (.int .i64 (i : Int)) ∧ W'.cell? (ad.add i) = some (.slice (some ra) n rca) ∧ W'.cell? (ao.add q) = some (.int .i64 (j : Int)) ∧ W'.cell? (ra.add (j * 3)) = some (.bool x.s) ∧ W'.cell? ⟨(ra.add (j * 3)).block, (ra.add (j * 3)).off + 1, none⟩ = some (.slice x.A x.n x.c) ∧ W'.cell? ⟨(ra.add (j * 3)).block, (ra.add (j * 3)).off + 2, none⟩ = some (.slice x.B x.m x.d))
                  (exact held HX)
                  (first
                    | (go_at_call 17; refine (fcmp_h H1 Fz Fx (by omega) (by omega)).mono ?_; rintro e wz ⟨rfl, hb⟩; replace HX := HX.ext hb; replace Fz := Fz.ext hb; replace Fx := Fx.ext hb; replace Fy := Fy.ext hb; clear hb))
                clear held
                all_goals (
                  clear Fx
                  by_cases hx2 : 0 < s2c
                  · have hd2 : decide (0 < s2c) = true := decide_eq_true hx2
                    go_upto_region 14 with fail
                    have held : ∀ {W' : World}, BL wr W' [(g9, #[.bool z.s, .slice z.A z.n z.c, .slice z.B z.m z.d], 33)] → W'.cell? ⟨g9, 0, none⟩ = some (.bool z.s) ∧ W'.cell? ⟨g9, 1, none⟩ = some (.slice z.A z.n z.c) ∧ W'.cell? ⟨g9, 2, none⟩ = some (.slice z.B z.m z.d) ∧ W'.cell? (ao.add q) = some (.int .i64 (j : Int)) ∧ W'.cell? (ad.add j) = some (.slice (some rb) n rcb) ∧ W'.cell? (ao.add r) = some (.int .i64 (k : Int)) ∧ W'.cell? (rb.add (k * 3)) = some (.bool y.s) ∧ W'.cell? ⟨(rb.add (k * 3)).block, (rb.add (k * 3)).off + 1, none⟩ = some (.slice y.A y.n y.c) ∧ W'.cell? ⟨(rb.add (k * 3)).block, (rb.add (k * 3)).off + 2, none⟩ = some (.slice y.B y.m y.d) := fun h => ⟨h.cell 0 0 rfl rfl, h.cell 0 1 rfl rfl, h.cell 0 2 rfl rfl, below_up h.below oq, below_up h.below rb0, below_up h.below or_, below_up h.below y0, below_up h.below y1, below_up h.below y2⟩
                    replace HX := HX.ext (drew_ext _)
                    replace Fz := Fz.ext (drew_ext _)
                    replace Fy := Fy.ext (drew_ext _)
                    go_region_held3 (fun W' => W'.cell? ⟨g9, 0, none⟩ = some (.bool z.s) ∧ W'.cell? ⟨g9, 1, none⟩ = some (.slice z.A z.n z.c) ∧ W'.cell? ⟨g9, 2, none⟩ = some (.slice z.B z.m z.d) ∧ W'.cell? (ao.add q) = some (.int .i64 (j : Int)) ∧ W'.cell? (ad.add j) = some (.slice (some rb) n rcb) ∧ W'.cell? (ao.add r) = some (.int .i64 (k : Int)) ∧ W'.cell? (rb.add (k * 3)) = some (.bool y.s) ∧ W'.cell? ⟨(rb.add (k * 3)).block, (rb.add (k * 3)).off + 1, none⟩ = some (.slice y.A y.n y.c) ∧ W'.cell? ⟨(rb.add (k * 3)).block, (rb.add (k * 3)).off + 2, none⟩ = some (.slice y.B y.m y.d))
                      (exact held HX)
                      (first
                        | (go_at_call 17; refine (fcmp_h H2 Fz Fy (by omega) (by omega)).mono ?_; rintro e wz ⟨rfl, hb⟩; replace HX := HX.ext hb; replace Fz := Fz.ext hb; replace Fy := Fy.ext hb; clear hb))
                    clear held
                    all_goals (
                      go_wp2
                      go_roundg (q - (p + 1))
                      case measure => omega
                      case rel => exact ⟨p + 1, by omega, by rw [HSU.out, if_pos (by omega), if_pos (by omega)]; try go_num, by go_num, bel_trans hbw HX.below⟩)
                  · have hd2 : decide (0 < s2c) = false := decide_eq_false hx2
                    go_upto_region 14 with fail
                    have held : ∀ {W' : World}, BL wr W' [(g9, #[.bool z.s, .slice z.A z.n z.c, .slice z.B z.m z.d], 33)] → W'.cell? ⟨g9, 0, none⟩ = some (.bool z.s) ∧ W'.cell? ⟨g9, 1, none⟩ = some (.slice z.A z.n z.c) ∧ W'.cell? ⟨g9, 2, none⟩ = some (.slice z.B z.m z.d) ∧ W'.cell? (ao.add q) = some (.int .i64 (j : Int)) ∧ W'.cell? (ad.add j) = some (.slice (some rb) n rcb) ∧ W'.cell? (ao.add r) = some (.int .i64 (k : Int)) ∧ W'.cell? (rb.add (k * 3)) = some (.bool y.s) ∧ W'.cell? ⟨(rb.add (k * 3)).block, (rb.add (k * 3)).off + 1, none⟩ = some (.slice y.A y.n y.c) ∧ W'.cell? ⟨(rb.add (k * 3)).block, (rb.add (k * 3)).off + 2, none⟩ = some (.slice y.B y.m y.d) := fun h => ⟨h.cell 0 0 rfl rfl, h.cell 0 1 rfl rfl, h.cell 0 2 rfl rfl, below_up h.below oq, below_up h.below rb0, below_up h.below or_, below_up h.below y0, below_up h.below y1, below_up h.below y2⟩
                    replace HX := HX.ext (drew_ext _)
                    replace Fz := Fz.ext (drew_ext _)
                    replace Fy := Fy.ext (drew_ext _)
                    go_region_held3 (fun W' => W'.cell? ⟨g9, 0, none⟩ = some (.bool z.s) ∧ W'.cell? ⟨g9, 1, none⟩ = some (.slice z.A z.n z.c) ∧ W'.cell? ⟨g9, 2, none⟩ = some (.slice z.B z.m z.d) ∧ W'.cell? (ao.add q) = some (.int .i64 (j : Int)) ∧ W'.cell? (ad.add j) = some (.slice (some rb) n rcb) ∧ W'.cell? (ao.add r) = some (.int .i64 (k : Int)) ∧ W'.cell? (rb.add (k * 3)) = some (.bool y.s) ∧ W'.cell? ⟨(rb.add (k * 3)).block, (rb.add (k * 3)).off + 1, none⟩ = some (.slice y.A y.n y.c) ∧ W'.cell? ⟨(rb.add (k * 3)).block, (rb.add (k * 3)).off + 2, none⟩ = some (.slice y.B y.m y.d))
                      (exact held HX)
                      (first
                        | (go_at_call 17; refine (fcmp_h H2 Fz Fy (by omega) (by omega)).mono ?_; rintro e wz ⟨rfl, hb⟩; replace HX := HX.ext hb; replace Fz := Fz.ext hb; replace Fy := Fy.ext hb; clear hb))
                    clear held
                    all_goals (
                      go_wp2
                      go_roundg (q - (p + 1))
                      case measure => omega
                      case rel => exact ⟨p + 1, by omega, by rw [HSU.out, if_pos (by omega), if_neg (by omega)]; try go_num, by go_num, bel_trans hbw HX.below⟩))
              · have hd1 : decide (0 < s1c) = false := decide_eq_false hx1
                go_upto_region 12 with fail
                have held : ∀ {W' : World}, BL wr W' [(g9, #[.bool z.s, .slice z.A z.n z.c, .slice z.B z.m z.d], 33)] → W'.cell? ⟨g9, 0, none⟩ = some (.bool z.s) ∧ W'.cell? ⟨g9, 1, none⟩ = some (.slice z.A z.n z.c) ∧ W'.cell? ⟨g9, 2, none⟩ = some (.slice z.B z.m z.d) ∧ W'.cell? (ao.add p) = some (.int .i64 (i : Int)) ∧ W'.cell? (ad.add i) = some (.slice (some ra) n rca) ∧ W'.cell? (ao.add q) = some (.int .i64 (j : Int)) ∧ W'.cell? (ra.add (j * 3)) = some (.bool x.s) ∧ W'.cell? ⟨(ra.add (j * 3)).block, (ra.add (j * 3)).off + 1, none⟩ = some (.slice x.A x.n x.c) ∧ W'.cell? ⟨(ra.add (j * 3)).block, (ra.add (j * 3)).off + 2, none⟩ = some (.slice x.B x.m x.d) := fun h => ⟨h.cell 0 0 rfl rfl, h.cell 0 1 rfl rfl, h.cell 0 2 rfl rfl, below_up h.below op, below_up h.below ra0, below_up h.below oq, below_up h.below x0, below_up h.below x1, below_up h.below x2⟩
                replace HX := HX.ext (drew_ext _)
                replace Fz := Fz.ext (drew_ext _)
                replace Fx := Fx.ext (drew_ext _)
                replace Fy := Fy.ext (drew_ext _)
                go_region_held3 (fun W' => W'.cell? ⟨g9, 0, none⟩ = some (.bool z.s) ∧ W'.cell? ⟨g9, 1, none⟩ = some (.slice z.A z.n z.c) ∧ W'.cell? ⟨g9, 2, none⟩ = some (.slice z.B z.m z.d) ∧ W'.cell? (ao.add p) = some (.int .i64 (i : Int)) ∧ W'.cell? (ad.add i) = some (.slice (some ra) n rca) ∧ W'.cell? (ao.add q) = some (.int .i64 (j : Int)) ∧ W'.cell? (ra.add (j * 3)) = some (.bool x.s) ∧ W'.cell? ⟨(ra.add (j * 3)).block, (ra.add (j * 3)).off + 1, none⟩ = some (.slice x.A x.n x.c) ∧ W'.cell? ⟨(ra.add (j * 3)).block, (ra.add (j * 3)).off + 2, none⟩ = some (.slice x.B x.m x.d))
                  (exact held HX)
                  (first
                    | (go_at_call 17; refine (fcmp_h H1 Fz Fx (by omega) (by omega)).mono ?_; rintro e wz ⟨rfl, hb⟩; replace HX := HX.ext hb; replace Fz := Fz.ext hb; replace Fx := Fx.ext hb; replace Fy := Fy.ext hb; clear hb))
                clear held
                all_goals (
                  clear Fx
                  by_cases hx2 : 0 < s2c
                  · have hd2 : decide (0 < s2c) = true := decide_eq_true hx2
                    go_upto_region 14 with fail
                    have held : ∀ {W' : World}, BL wr W' [(g9, #[.bool z.s, .slice z.A z.n z.c, .slice z.B z.m z.d], 33)] → W'.cell? ⟨g9, 0, none⟩ = some (.bool z.s) ∧ W'.cell? ⟨g9, 1, none⟩ = some (.slice z.A z.n z.c) ∧ W'.cell? ⟨g9, 2, none⟩ = some (.slice z.B z.m z.d) ∧ W'.cell? (ao.add q) = some (.int .i64 (j : Int)) ∧ W'.cell? (ad.add j) = some (.slice (some rb) n rcb) ∧ W'.cell? (ao.add r) = some (.int .i64 (k : Int)) ∧ W'.cell? (rb.add (k * 3)) = some (.bool y.s) ∧ W'.cell? ⟨(rb.add (k * 3)).block, (rb.add (k * 3)).off + 1, none⟩ = some (.slice y.A y.n y.c) ∧ W'.cell? ⟨(rb.add (k * 3)).block, (rb.add (k * 3)).off + 2, none⟩ = some (.slice y.B y.m y.d) := fun h => ⟨h.cell 0 0 rfl rfl, h.cell 0 1 rfl rfl, h.cell 0 2 rfl rfl, below_up h.below oq, below_up h.below rb0, below_up h.below or_, below_up h.below y0, below_up h.below y1, below_up h.below y2⟩
                    replace HX := HX.ext (drew_ext _)
                    replace Fz := Fz.ext (drew_ext _)
                    replace Fy := Fy.ext (drew_ext _)
                    go_region_held3 (fun W' => W'.cell? ⟨g9, 0, none⟩ = some (.bool z.s) ∧ W'.cell? ⟨g9, 1, none⟩ = some (.slice z.A z.n z.c) ∧ W'.cell? ⟨g9, 2, none⟩ = some (.slice z.B z.m z.d) ∧ W'.cell? (ao.add q) = some (.int .i64 (j : Int)) ∧ W'.cell? (ad.add j) = some (.slice (some rb) n rcb) ∧ W'.cell? (ao.add r) = some (.int .i64 (k : Int)) ∧ W'.cell? (rb.add (k * 3)) = some (.bool y.s) ∧ W'.cell? ⟨(rb.add (k * 3)).block, (rb.add (k * 3)).off + 1, none⟩ = some (.slice y.A y.n y.c) ∧ W'.cell? ⟨(rb.add (k * 3)).block, (rb.add (k * 3)).off + 2, none⟩ = some (.slice y.B y.m y.d))
                      (exact held HX)
                      (first
                        | (go_at_call 17; refine (fcmp_h H2 Fz Fy (by omega) (by omega)).mono ?_; rintro e wz ⟨rfl, hb⟩; replace HX := HX.ext hb; replace Fz := Fz.ext hb; replace Fy := Fy.ext hb; clear hb))
                    clear held
                    all_goals (
                      go_wp2
                      go_roundg (q - (p + 1))
                      case measure => omega
                      case rel => exact ⟨p + 1, by omega, by rw [HSU.out, if_neg (by omega), if_pos (by omega)]; try go_num, by go_num, bel_trans hbw HX.below⟩)
                  · have hd2 : decide (0 < s2c) = false := decide_eq_false hx2
                    go_upto_region 14 with fail
                    have held : ∀ {W' : World}, BL wr W' [(g9, #[.bool z.s, .slice z.A z.n z.c, .slice z.B z.m z.d], 33)] → W'.cell? ⟨g9, 0, none⟩ = some (.bool z.s) ∧ W'.cell? ⟨g9, 1, none⟩ = some (.slice z.A z.n z.c) ∧ W'.cell? ⟨g9, 2, none⟩ = some (.slice z.B z.m z.d) ∧ W'.cell? (ao.add q) = some (.int .i64 (j : Int)) ∧ W'.cell? (ad.add j) = some (.slice (some rb) n rcb) ∧ W'.cell? (ao.add r) = some (.int .i64 (k : Int)) ∧ W'.cell? (rb.add (k * 3)) = some (.bool y.s) ∧ W'.cell? ⟨(rb.add (k * 3)).block, (rb.add (k * 3)).off + 1, none⟩ = some (.slice y.A y.n y.c) ∧ W'.cell? ⟨(rb.add (k * 3)).block, (rb.add (k * 3)).off + 2, none⟩ = some (.slice y.B y.m y.d) := fun h => ⟨h.cell 0 0 rfl rfl, h.cell 0 1 rfl rfl, h.cell 0 2 rfl rfl, below_up h.below oq, below_up h.below rb0, below_up h.below or_, below_up h.below y0, below_up h.below y1, below_up h.below y2⟩
                    replace HX := HX.ext (drew_ext _)
                    replace Fz := Fz.ext (drew_ext _)
                    replace Fy := Fy.ext (drew_ext _)
                    go_region_held3 (fun W' => W'.cell? ⟨g9, 0, none⟩ = some (.bool z.s) ∧ W'.cell? ⟨g9, 1, none⟩ = some (.slice z.A z.n z.c) ∧ W'.cell? ⟨g9, 2, none⟩ = some (.slice z.B z.m z.d) ∧ W'.cell? (ao.add q) = some (.int .i64 (j : Int)) ∧ W'.cell? (ad.add j) = some (.slice (some rb) n rcb) ∧ W'.cell? (ao.add r) = some (.int .i64 (k : Int)) ∧ W'.cell? (rb.add (k * 3)) = some (.bool y.s) ∧ W'.cell? ⟨(rb.add (k * 3)).block, (rb.add (k * 3)).off + 1, none⟩ = some (.slice y.A y.n y.c) ∧ W'.cell? ⟨(rb.add (k * 3)).block, (rb.add (k * 3)).off + 2, none⟩ = some (.slice y.B y.m y.d))
                      (exact held HX)
                      (first
                        | (go_at_call 17; refine (fcmp_h H2 Fz Fy (by omega) (by omega)).mono ?_; rintro e wz ⟨rfl, hb⟩; replace HX := HX.ext hb; replace Fz := Fz.ext hb; replace Fy := Fy.ext hb; clear hb))
                    clear held
                    all_goals (
                      go_wp2
                      go_roundg (q - (p + 1))
                      case measure => omega
                      case rel => exact ⟨p + 1, by omega, by rw [HSU.out, if_neg (by omega), if_neg (by omega)]; try go_num, by go_num, bel_trans hbw HX.below⟩))
            · obtain rfl : p = q := by omega
              have hG3 := hG2.out p r (by omega)
              go_wp2
              go_roundg (r - (p + 1))
              case measure => omega
              case rel => exact ⟨p + 1, by omega, by rw [hsq.out]; try go_num, by go_num, hbw⟩
        · obtain rfl : q = r := by omega
          have hF3 := hF2.out q q (by omega) (by omega)
          go_wp2
          go_roundg (l.length - (q + 1))
          case measure => omega
          case rel => exact ⟨q + 1, by omega, by rw [hsr.out]; try go_num, by go_num, hbw⟩
    · obtain rfl : r = l.length := by omega
      have hE3 := hE2.out l.length (by omega)
      have hfin := hE.out
      go_wp2
      go_ret
      exact ⟨by rw [hfin]; rfl, hbw⟩
end Go.Proofs.YthempimelfmipaaGreatDoor

namespace Go.Proofs.YthempimelfmipaaGreatDoor
open Go.RowKit Go.Proofs Go

set_option maxHeartbeats 1000000 in
set_option maxRecDepth 100000 in
theorem matrix_err {E : Int} (A : Option Addr) (c : Nat) (hs : List HR) (w : World) (H : HL w A hs) (hl : hs.length ≤ 9223372036854775807) (hE : Hid (ChkIs hs E)) (hn : (E != 0) = true) :
    Calls Tryz.prog 27 #[.slice A hs.length c] w (RetMxE w E) := by
  go_enter Tryz.func27, Tryz.ntmps27
  go_wp2_with fail
  refine (check_any A c hs _ H hl hE).mono ?_
  rintro e w1 ⟨rfl, hb⟩
  go_wp2
  go_ret2
  exact ⟨rfl, hb⟩
set_option maxHeartbeats 8000000 in
set_option maxRecDepth 100000 in
theorem matrix_ok {qss : List (List Rat)} (A : Option Addr) (c : Nat) (hs : List HR) (w : World) (H : HL w A hs) (hE : Hid (ChkIs hs 0)) (hq : Hid (matQ hs = qss)) :
    Calls Tryz.prog 27 #[.slice A hs.length c] w (RetMx w hs.length qss) := by
  have h8 := hE.out.ok.1
  have hG := Lib.hid hE.out.ok.2
  have hl : hs.length ≤ 9223372036854775807 := by omega
  go_enter Tryz.func27, Tryz.ntmps27
  go_wp2_with fail
  refine (check_any A c hs _ H hl hE).mono ?_
  rintro e w1 ⟨rfl, hb1⟩
  replace H := H.ext hb1
  have HO := ORow.nil w1 w1.heap.size
  have HR0 := RowsOK.nil w1
  go_upto_block 5 with fail
  go_loopg [5, 18] hs.length (fun g u i wr => ∃ (j : Nat) (A5 : Option Addr) (c5 : Nat) (rs : List RR), j + g = hs.length ∧ u = .slice A5 j c5 ∧ i = .int .i64 (j : Int) ∧ ORow wr w1.heap.size A5 c5 rs ∧ RowsOK wr rs ∧ Hid (rs.length = j) ∧ Hid (qOf rs = (matQ hs).take j) ∧ Hid (∀ (i : Nat) (r : RR), rs[i]? = some r → r.fs.length = hs.length) ∧ Below w1.heap.size w1 wr)
  case atStart => exact ⟨0, none, 0, [], by omega, rfl, rfl, HO, HR0, Lib.hid rfl, Lib.hid rfl, Lib.hid (fun i r h => by simp at h), Below.refl _ _⟩
  case round =>
    clear HO HR0
    obtain ⟨j, A5, c5, rs, hj, rfl, rfl, HO, HRs, hrl, hrq, hrn, hbw⟩ := hrel
    by_cases hj0 : j < hs.length
    · have HLr := H.ext hbw
      have hx := Lib.hid (List.getElem?_eq_getElem hj0)
      obtain ⟨ad, rfl, hbk, c0, c1, c2, c3, HEx, hxl⟩ := HLr.at_ hx.out
      have VX := Lib.hid (hG.out.1 _ (List.mem_of_getElem? hx.out))
      have hmt := Lib.hid (matQ_take hx.out)
      generalize hs[j] = x at *
      go_upto_region 8 with fail
      have hb := below_alloc wr (.cells #[.int .i64 x.id, .slice x.A x.l.length x.c, .int .i64 x.f, .int .i64 x.t] 26)
      have HX := (BL.nil wr).new #[.int .i64 x.id, .slice x.A x.l.length x.c, .int .i64 x.f, .int .i64 x.t] 26
      simp only [List.nil_append] at HX
      replace HO := HO.ext hb
      replace HRs := HRs.ext hb
      replace HLr := HLr.ext hb
      replace HEx := HEx.ext hb
      have hsz := hbw.size
      replace hbw := bel_trans hbw hb
      have hg7 := HX.lt 0 rfl
      simp only [] at hg7
      clear hb c0 c1 c2 c3 hbk
      generalize wr.alloc (.cells #[.int .i64 x.id, .slice x.A x.l.length x.c, .int .i64 x.f, .int .i64 x.t] 26) = V7 at *
      generalize wr.heap.size = g7 at *
      have HX : BL V7 V7 [(g7, #[.int .i64 x.id, .slice x.A x.l.length x.c, .int .i64 x.f, .int .i64 x.t], 26)] := ⟨Below.refl _ _, HX.blk⟩
      obtain ⟨B8, hB8⟩ : ∃ B, V7.heap.size = B := ⟨_, rfl⟩
      have HF := FRow.nil V7 B8
      have HK := FK.nil 2 V7
      go_upto_block 10 with fail
      go_loopg [8, 24] hs.length (fun g u i wr => ∃ (m : Nat) (A8 : Option Addr) (c8 : Nat) (fs : List FE), m + g = hs.length ∧ u = .slice A8 m c8 ∧ i = .int .i64 (m : Int) ∧ FRow wr B8 A8 c8 fs ∧ FK 2 wr fs (rowQ x (hs.take m)) ∧ BL V7 wr [(g7, #[.int .i64 x.id, .slice x.A x.l.length x.c, .int .i64 x.f, .int .i64 x.t], 26)])
      case atStart => exact ⟨0, none, 0, [], by omega, rfl, rfl, HF, HK, HX⟩
      case round =>
        clear HF HK HX
        obtain ⟨m, A8, c8, fs, hm, rfl, rfl, HF, HK, HX⟩ := hrel
        have hfl := Lib.hid (show fs.length = m by have := HK.len; rw [this, rowQ, List.length_map, List.length_take]; omega)
        by_cases hm0 : m < hs.length
        · have hbv := HX.below
          have hy := Lib.hid (List.getElem?_eq_getElem hm0)
          obtain ⟨ad2, hade, hbk, c0, c1, c2, c3, HEy, hyl⟩ := (HLr.ext hbv).at_ hy.out
          obtain rfl := Option.some.inj hade
          have VY := Lib.hid (hG.out.1 _ (List.mem_of_getElem? hy.out))
          have hrt := Lib.hid (rowQ_take (a := x) hy.out)
          generalize hs[m] = y at *
          obtain ⟨u, hu⟩ : ∃ u, Hid (coD x.l y.l 99 = u) := ⟨_, Lib.hid rfl⟩
          rw [hu.out] at hrt
          have HEx2 := HEx.ext hbv
          go_upto_region 12 with fail
          have hl0 := HX.lt 0 rfl
          simp only [] at hl0
          have hb := below_alloc wr (.cells #[.int .i64 y.id, .slice y.A y.l.length y.c, .int .i64 y.f, .int .i64 y.t] 26)
          replace HX := HX.new #[.int .i64 y.id, .slice y.A y.l.length y.c, .int .i64 y.f, .int .i64 y.t] 26
          simp only [List.cons_append, List.nil_append] at HX
          replace HF := HF.ext hb
          replace HK := HK.ext hb
          replace HEx2 := HEx2.ext hb
          replace HEy := HEy.ext hb
          clear hb c0 c1 c2 c3 hbk hade hbv
          generalize wr.alloc (.cells #[.int .i64 y.id, .slice y.A y.l.length y.c, .int .i64 y.f, .int .i64 y.t] 26) = V8 at *
          generalize wr.heap.size = g8 at *
          have hc00 := HX.cell 0 0 rfl rfl
          have hc01 := HX.cell 0 1 rfl rfl
          have hc02 := HX.cell 0 2 rfl rfl
          have hc03 := HX.cell 0 3 rfl rfl
          try simp only [List.getElem_toArray, List.getElem_cons_zero, List.getElem_cons_succ] at hc00 hc01 hc02 hc03
          have hc10 := HX.cell 1 0 rfl rfl
          have hc11 := HX.cell 1 1 rfl rfl
          have hc12 := HX.cell 1 2 rfl rfl
          have hc13 := HX.cell 1 3 rfl rfl
          try simp only [List.getElem_toArray, List.getElem_cons_zero, List.getElem_cons_succ] at hc10 hc11 hc12 hc13
          go_wp2_with fail
          refine (coef_any x.A y.A x.c y.c x.l y.l _ HEx2 HEy hxl hyl VX.out VY.out hu).mono ?_
          rintro e w9 ⟨A9, c9, B9, d9, rfl, F9, hb⟩
          clear hc00 hc01 hc02 hc03
          clear hc10 hc11 hc12 hc13
          replace HX := HX.ext hb
          replace HF := HF.ext hb
          replace HK := HK.ext hb
          clear hb HEx2 HEy
          have hsz9 := HX.below.size
          go_wp2_with (at_builtin; refine wp_fpush _ rfl _ _ rfl (⟨sg u, A9, (dig (nu u)).length, c9, B9, (dig u.den).length, d9⟩ : FE) rfl hfl.out.symm rfl HF (by rw [hfl.out]; omega) (by omega) ?_)
          intro A11 c11 u11 HF2 hb11 hk11 _
          have hQ2 := (HK.snoc (y := (⟨sg u, A9, (dig (nu u)).length, c9, B9, (dig u.den).length, d9⟩ : FE)) F9.fr).stay hk11
          rw [← hrt.out] at hQ2
          have HX2 : BL V7 u11 [(g7, #[.int .i64 x.id, .slice x.A x.l.length x.c, .int .i64 x.f, .int .i64 x.t], 26)] := ⟨HX.below.trans (by rw [hB8]; exact hb11), fun i p hp => by
            match i, hp with
            | 0, hp => simp at hp; subst hp; rw [hb11.block _ (show g7 < B8 by omega)]; exact HX.blk 0 _ rfl
            | i + 1, hp => simp at hp⟩
          clear hb11 hk11 HX HF HK
          go_wp2
          go_roundg (hs.length - (m + 1))
          case measure => omega
          case rel => exact ⟨m + 1, A11, c11, _, by omega, by go_num, by go_num, HF2, hQ2, HX2⟩
        · obtain rfl : m = hs.length := by omega
          have hbv := HX.below
          rw [List.take_length] at HK
          replace HO := HO.ext hbv
          replace HRs := HRs.ext hbv
          replace hbw := bel_trans hbw hbv
          clear HX
          have hszw := hbw.size
          go_wp2_with (at_builtin; refine wp_rpush _ rfl _ _ rfl (⟨A8, c8, fs, rowQ x hs⟩ : RR) (by show Value.slice A8 fs.length c8 = _; rw [hfl.out]) rfl hrl.out.symm rfl HO (by rw [hrl.out]; omega) (by omega) ?_)
          intro A9 c9 w9 HO2 hgr hb9 hk9
          have HR2 := (HRs.snoc (r := (⟨A8, c8, fs, rowQ x hs⟩ : RR)) HF HK (by show fs.length ≤ _; rw [hfl.out]; omega)).kept HO hgr hk9
          have hb10 : Below w1.heap.size w1 w9 := hbw.trans hb9
          have hrl2 := Lib.hid (show (rs ++ [(⟨A8, c8, fs, rowQ x hs⟩ : RR)]).length = j + 1 by rw [List.length_append, hrl.out]; rfl)
          have hrq2 := Lib.hid (show qOf (rs ++ [(⟨A8, c8, fs, rowQ x hs⟩ : RR)]) = (matQ hs).take (j + 1) by rw [qOf_snoc, hrq.out, hmt.out])
          have hrn2 := Lib.hid (show ∀ (i : Nat) (r : RR), (rs ++ [(⟨A8, c8, fs, rowQ x hs⟩ : RR)])[i]? = some r → r.fs.length = hs.length from fun i r hr => by
            rcases Nat.lt_or_ge i rs.length with hi | hi
            · rw [List.getElem?_append_left hi] at hr
              exact hrn.out i r hr
            · rw [List.getElem?_append_right hi] at hr
              have hi0 : i - rs.length = 0 := by
                have := (List.getElem?_eq_some_iff.1 hr).1
                simp at this; omega
              rw [hi0] at hr
              simp at hr
              subst hr
              exact hfl.out)
          clear hgr hb9 hk9 HO HRs HF HK
          go_wp2
          go_roundg (hs.length - (j + 1))
          case measure => omega
          case rel => exact ⟨j + 1, A9, c9, _, by omega, by go_num, by go_num, HO2, HR2, hrl2, hrq2, hrn2, hb10⟩
    · obtain rfl : j = hs.length := by omega
      have hfin := Lib.hid (show qOf rs = qss by rw [hrq.out, ← hq.out]; exact List.take_of_length_le (by rw [matQ, List.length_map]; omega))
      go_wp2
      go_ret2
      exact ⟨A5, c5, rs, rfl, Sqr.of hrl.out hrn.out rfl, hfin.out, ⟨HO.row, HRs.mfs⟩, bel_trans hb1 hbw⟩
end Go.Proofs.YthempimelfmipaaGreatDoor
