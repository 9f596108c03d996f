/- The package fraction's contracts, their results under a name of the caller's choice. -/
import Derived.Test.YtajddhkepbnilaaGreatDoorLaw3
namespace Go.Proofs.YtajddhkepbnilaaGreatDoor
open Go.RowKit Go.Proofs Go

/-- the canonical fraction of a number, its terms in at most j limbs -/
structure Fc (w : World) (A : Option Addr) (c : Nat) (B : Option Addr) (d : Nat) (u : Rat) (j : Nat) : Prop where
  num : Lim w A c (dig (nu u))
  den : Lim w B d (dig u.den)
  sz : Sz u j
section
variable {w w' : World} {A B : Option Addr} {c d : Nat} {u : Rat} {j : Nat}
theorem Fc.ext (h : Fc w A c B d u j) (hb : Below w.heap.size w w') : Fc w' A c B d u j := ⟨h.num.ext hb, h.den.ext hb, h.sz⟩
theorem Fc.fr (h : Fc w A c B d u j) : Fr w (sg u) A (dig (nu u)).length c B (dig u.den).length d u j := Fr.of h.num h.den h.sz
theorem Fc.stay (h : Fc w A c B d u j) (hk : Keep w w') : Fc w' A c B d u j := ⟨h.num.stay hk, h.den.stay hk, h.sz⟩
end
def RetG (w : World) (u : Rat) (j : Nat) (e : Ending) (w' : World) : Prop :=
  ∃ A c B d, e = .returned (.agg #[.bool (sg u), .slice A (dig (nu u)).length c, .slice B (dig u.den).length d]) ∧ Fc w' A c B d u j ∧ Below w.heap.size w w'
def RetGE (w : World) (u : Rat) (j : Nat) (e : Ending) (w' : World) : Prop :=
  ∃ A c B d, e = .returned (.tuple #[.agg #[.bool (sg u), .slice A (dig (nu u)).length c, .slice B (dig u.den).length d], .int .i64 0]) ∧ Fc w' A c B d u j ∧ Below w.heap.size w w'
theorem RetQ.toF {w w' : World} {q u : Rat} {e : Ending} {j : Nat} (h : RetQ w q e w') (hu : Hid (q = u)) (hs : Sz u j) : RetG w u j e w' := by
  obtain rfl := hu.out
  obtain ⟨A, c, B, d, h1, h2, h3, h4⟩ := h
  exact ⟨A, c, B, d, h1, ⟨h2, h3, hs⟩, h4⟩
theorem RetQE.toF {w w' : World} {q u : Rat} {e : Ending} {j : Nat} (h : RetQE w q e w') (hu : Hid (q = u)) (hs : Sz u j) : RetGE w u j e w' := by
  obtain rfl := hu.out
  obtain ⟨A, c, B, d, h1, h2, h3, h4⟩ := h
  exact ⟨A, c, B, d, h1, ⟨h2, h3, hs⟩, h4⟩

section
variable {w : World} {s t : Bool} {A B A' B' : Option Addr} {n c m d n' c' m' d' : Nat} {p q u : Rat} {k k' j : Nat}
theorem fadd_h (hu : Hid (p + q = u)) (hs : Sz u j) (h : Fr w s A n c B m d p k) (h' : Fr w t A' n' c' B' m' d' q k') (hk : k ≤ 134217726) (hk' : k' ≤ 134217726) :
    Calls Tryz.prog 25 #[.agg #[.bool s, .slice A n c, .slice B m d], .agg #[.bool t, .slice A' n' c', .slice B' m' d']] w (RetG w u j) := (fadd_any w h h' (by omega) (by omega)).mono fun _ _ h => h.toF hu hs
theorem fsub_h (hu : Hid (p - q = u)) (hs : Sz u j) (h : Fr w s A n c B m d p k) (h' : Fr w t A' n' c' B' m' d' q k') (hk : k ≤ 134217726) (hk' : k' ≤ 134217726) :
    Calls Tryz.prog 24 #[.agg #[.bool s, .slice A n c, .slice B m d], .agg #[.bool t, .slice A' n' c', .slice B' m' d']] w (RetG w u j) := (fsub_any w h h' (by omega) (by omega)).mono fun _ _ h => h.toF hu hs
theorem fmul_h (hu : Hid (p * q = u)) (hs : Sz u j) (h : Fr w s A n c B m d p k) (h' : Fr w t A' n' c' B' m' d' q k') (hk : k ≤ 134217726) (hk' : k' ≤ 134217726) :
    Calls Tryz.prog 23 #[.agg #[.bool s, .slice A n c, .slice B m d], .agg #[.bool t, .slice A' n' c', .slice B' m' d']] w (RetG w u j) := (fmul_any w h h' (by omega) (by omega)).mono fun _ _ h => h.toF hu hs
theorem fdiv_h (hu : Hid (p * q⁻¹ = u)) (h0 : Hid (q ≠ 0)) (hs : Sz u j) (h : Fr w s A n c B m d p k) (h' : Fr w t A' n' c' B' m' d' q k') (hk : k ≤ 134217726) (hk' : k' ≤ 134217726) :
    Calls Tryz.prog 36 #[.agg #[.bool s, .slice A n c, .slice B m d], .agg #[.bool t, .slice A' n' c', .slice B' m' d']] w (RetGE w u j) := (fdiv_any w h h' (by omega) (by omega) h0.out).mono fun _ _ h => h.toF hu hs
theorem fdivz_h (h0 : Hid (q = 0)) (h' : Fr w t A' n' c' B' m' d' q k') (hk' : k' ≤ 134217726) :
    Calls Tryz.prog 36 #[.agg #[.bool s, .slice A n c, .slice B m d], .agg #[.bool t, .slice A' n' c', .slice B' m' d']] w (RetZE w 12) := fdiv_zero w h' (by omega) h0.out
theorem fnorm_s (hs : Sz p j) (h : Fr w s A n c B m d p k) (hk : k ≤ 134217726) :
    Calls Tryz.prog 16 #[.agg #[.bool s, .slice A n c, .slice B m d]] w (RetG w p j) := (fnorm_any w h (by omega)).mono fun _ _ h => h.toF (Lib.hid rfl) hs
theorem fneg_h (hu : Hid (-p = u)) (hs : Sz u j) (h : Fr w s A n c B m d p k) (hk : k ≤ 134217726) :
    Calls Tryz.prog 64 #[.agg #[.bool s, .slice A n c, .slice B m d]] w (RetG w u j) := (fneg_any w h (by omega)).mono fun _ _ h => h.toF hu hs
theorem fnorm_h (hu : Hid (p = u)) (hs : Sz u j) (h : Fr w s A n c B m d p k) (hk : k ≤ 134217726) :
    Calls Tryz.prog 16 #[.agg #[.bool s, .slice A n c, .slice B m d]] w (RetG w u j) := (fnorm_any w h (by omega)).mono fun _ _ h => h.toF hu hs
theorem fof_h {x y : Int} (hu : Hid (rv (!(decide (x < 0) == decide (y < 0))) x.natAbs y.natAbs = u)) (hs : Sz u j) (h1 : -9223372036854775808 ≤ x) (h2 : x ≤ 9223372036854775807) (h3 : -9223372036854775808 ≤ y) (h4 : y ≤ 9223372036854775807) :
    Calls Tryz.prog 22 #[.int .i64 x, .int .i64 y] w (RetG w u j) := (fof_any x y h1 h2 h3 h4 w).mono fun _ _ h => h.toF hu hs
theorem fsign_h {x : Int} (hu : Hid (sgn p = x)) (h : Fr w s A n c B m d p k) (hk : k ≤ 134217726) :
    Calls Tryz.prog 26 #[.agg #[.bool s, .slice A n c, .slice B m d]] w (RetI w x) := (fsign_any w h (by omega)).mono fun _ _ h => ⟨by rw [h.1, hu.out], h.2⟩
theorem fcmp_h {x : Int} (hu : Hid (cmpQ p q = x)) (h : Fr w s A n c B m d p k) (h' : Fr w t A' n' c' B' m' d' q k') (hk : k ≤ 134217726) (hk' : k' ≤ 134217726) :
    Calls Tryz.prog 17 #[.agg #[.bool s, .slice A n c, .slice B m d], .agg #[.bool t, .slice A' n' c', .slice B' m' d']] w (RetI w x) := (fcmp_any w h h' (by omega) (by omega)).mono fun _ _ h => ⟨by rw [h.1, hu.out], h.2⟩
theorem bfrac_h {b : Bool} (hb : Hid (decide (p = q) = b)) (h : Fc w A c B d p k) (h' : Fc w A' c' B' d' q k') (hk : k ≤ 134217726) (hk' : k' ≤ 134217726) :
    Calls Tryz.prog 12 #[.agg #[.bool (sg p), .slice A (dig (nu p)).length c, .slice B (dig p.den).length d], .agg #[.bool (sg q), .slice A' (dig (nu q)).length c', .slice B' (dig q.den).length d']] w (RetB w b) := (bfrac_q w h.num h.den h'.num h'.den h.sz h'.sz (by omega) (by omega)).mono fun _ _ h => ⟨by rw [h.1, hb.out], h.2⟩
theorem bfrac_s (h : Fc w A c B d p k) (h' : Fc w A' c' B' d' p k') (hk : k ≤ 134217726) (hk' : k' ≤ 134217726) :
    Calls Tryz.prog 12 #[.agg #[.bool (sg p), .slice A (dig (nu p)).length c, .slice B (dig p.den).length d], .agg #[.bool (sg p), .slice A' (dig (nu p)).length c', .slice B' (dig p.den).length d']] w (RetB w true) := bfrac_h (Lib.hid (decide_eq_true rfl)) h h' hk hk'
end
theorem awake_h {w : World} (hT : Tab w) : Calls Tryz.prog 9 #[] w (RetB w true) := awake_any w hT

def FE.cells (x : FE) : List Value := [.bool x.s, .slice x.A x.n x.c, .slice x.B x.m x.d]
theorem FE.flat_at : ∀ (fs : List FE) (i j : Nat) (x : FE), fs[i]? = some x → j < 3 → (fs.flatMap FE.cells)[i * 3 + j]? = x.cells[j]?
  | [], i, j, x, h, _ => by simp at h
  | y :: fs, 0, j, x, h, hj => by
    simp at h; subst h
    rw [List.flatMap_cons, List.getElem?_append_left (by simp [FE.cells]; omega), Nat.zero_mul, Nat.zero_add]
  | y :: fs, i + 1, j, x, h, hj => by
    rw [List.flatMap_cons, List.getElem?_append_right (by simp [FE.cells]; omega)]
    rw [show (i + 1) * 3 + j - y.cells.length = i * 3 + j from by simp [FE.cells]; omega]
    exact FE.flat_at fs i j x (by simpa using h) hj
/-- a slice literal of fractions -/
theorem FS.lit (W : World) (T : TypeId) (fs : List FE) (cs : Array Value) (hcs : cs.toList = fs.flatMap FE.cells) : FS (W.alloc (.cells cs T)) (some ⟨W.heap.size, 0, none⟩) fs := by
  intro _
  refine ⟨_, rfl, by simp, fun i x hx => ?_⟩
  have key : ∀ j, j < 3 → (W.alloc (.cells cs T)).cell? ⟨W.heap.size, i * 3 + j, none⟩ = x.cells[j]? := fun j hj => by
    rw [World.cell?_alloc_at _ _ _ _ rfl, ← Array.getElem?_toList, hcs]
    exact FE.flat_at fs i j x hx hj
  rw [Addr.add_lit, Nat.zero_add]
  exact ⟨key 0 (by omega), key 1 (by omega), key 2 (by omega)⟩
/-- an argument of a law: a fraction of any kind -/
structure Arg (w : World) (s : Bool) (A : Option Addr) (n c : Nat) (B : Option Addr) (m d : Nat) : Prop where
  ex : ∃ l r, Lim w A c l ∧ Lim w B d r ∧ n = l.length ∧ m = r.length
  hn : n ≤ 9223372036854775807
  hm : m ≤ 9223372036854775807
theorem Arg.fr {w : World} {s : Bool} {A : Option Addr} {n c : Nat} {B : Option Addr} {m d : Nat} (h : Arg w s A n c B m d) (h1 : n ≤ 6) (h2 : m ≤ 6) : ∃ q, Fr w s A n c B m d q 6 := by
  obtain ⟨⟨l, r, a1, a2, a3, a4⟩, _, _⟩ := h
  exact ⟨_, ⟨l, r, a1, a2, a3, a4, rfl⟩, h1, h2⟩
theorem fewB1 {x : FE} : fewB [x] = (decide (x.n ≤ 6) && decide (x.m ≤ 6)) := by simp [fewB]
theorem fewB2 {x y : FE} : fewB [x, y] = (decide (x.n ≤ 6 ∧ x.m ≤ 6) && decide (y.n ≤ 6 ∧ y.m ≤ 6)) := by simp [fewB]
theorem fewB3 {x y z : FE} : fewB [x, y, z] = (decide (x.n ≤ 6 ∧ x.m ≤ 6) && (decide (y.n ≤ 6 ∧ y.m ≤ 6) && decide (z.n ≤ 6 ∧ z.m ≤ 6))) := by simp [fewB]
end Go.Proofs.YtajddhkepbnilaaGreatDoor
