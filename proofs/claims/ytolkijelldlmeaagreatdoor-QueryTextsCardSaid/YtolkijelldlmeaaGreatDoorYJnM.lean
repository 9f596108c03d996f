/- The program's joined: kids of the kind give way to theirs. -/
import Derived.Test.YtolkijelldlmeaaGreatDoorW3
import Derived.Test.YtolkijelldlmeaaGreatDoorYPmM
import Derived.Test.YtolkijelldlmeaaGreatDoorBase
import Derived.ArgAppend
namespace Go.Proofs.YtolkijelldlmeaaGreatDoor
open Go.RowKit Go.Proofs Go

theorem grown_drew {w W : World} {r : Option Nat} (h : w.grownBy W r) (n : Nat) : w.grownBy (W.drewN n) r := ⟨h.os, h.tape, h.output, h.size, h.block⟩
theorem grown_refl (w : World) (r : Option Nat) : w.grownBy w r := ⟨rfl, rfl, rfl, Nat.le_refl _, fun _ _ _ => rfl⟩
theorem grown_trans {w W W' : World} {r : Option Nat} (h : w.grownBy W r) (k : W.grownBy W' r) : w.grownBy W' r :=
  ⟨k.os.trans h.os, k.tape.trans h.tape, k.output.trans h.output, Nat.le_trans h.size k.size, fun i hi hne => (k.block i (Nat.lt_of_lt_of_le hi h.size) hne).trans (h.block i hi hne)⟩
theorem grown_below {w W W' : World} {r : Option Nat} (h : w.grownBy W r) (k : Below W.heap.size W W') : w.grownBy W' r := grown_trans h (grown_of_below k r)
end Go.Proofs.YtolkijelldlmeaaGreatDoor

namespace Go.Proofs.YtolkijelldlmeaaGreatDoor
open Go.RowKit Go.Proofs Go

/-- a term, and where its kids lie -/
inductive TT where
  | mk (k f o v : Int) (A : Option Addr) (c : Nat) (ks : List TT)
namespace TT
def k : TT → Int | .mk k _ _ _ _ _ _ => k
def f : TT → Int | .mk _ f _ _ _ _ _ => f
def o : TT → Int | .mk _ _ o _ _ _ _ => o
def v : TT → Int | .mk _ _ _ v _ _ _ => v
def A : TT → Option Addr | .mk _ _ _ _ A _ _ => A
def c : TT → Nat | .mk _ _ _ _ _ c _ => c
def ks : TT → List TT | .mk _ _ _ _ _ _ ks => ks
def cells (t : TT) : List Value := [.int .i64 t.k, .int .i64 t.f, .int .i64 t.o, .int .i64 t.v, .slice t.A t.ks.length t.c]
def val (t : TT) : Value := .agg #[.int .i64 t.k, .int .i64 t.f, .int .i64 t.o, .int .i64 t.v, .slice t.A t.ks.length t.c]
mutual
/-- the term -/
def tm : TT → Tm | .mk k f o v _ _ ks => .mk k f o v (tmL ks)
def tmL : List TT → List Tm
  | [] => []
  | t :: ts => tm t :: tmL ts
end
theorem tmL_map : ∀ ks : List TT, tmL ks = ks.map tm
  | [] => rfl
  | t :: ts => by rw [tmL, tmL_map ts, List.map_cons]
theorem tm_eq (t : TT) : t.tm = .mk t.k t.f t.o t.v (t.ks.map tm) := by
  cases t; rw [tm, tmL_map]; rfl
/-- a slice reads as these terms -/
def KS (w : World) (A : Option Addr) (ks : List TT) : Prop := 0 < ks.length → ∃ ad, A = some ad ∧ ad.block < w.heap.size ∧ ∀ (i : Nat) (x : TT), ks[i]? = some x →
  w.cell? (ad.add (i * 5)) = some (.int .i64 x.k) ∧ w.cell? ⟨(ad.add (i * 5)).block, (ad.add (i * 5)).off + 1, none⟩ = some (.int .i64 x.f) ∧ w.cell? ⟨(ad.add (i * 5)).block, (ad.add (i * 5)).off + 2, none⟩ = some (.int .i64 x.o) ∧ w.cell? ⟨(ad.add (i * 5)).block, (ad.add (i * 5)).off + 3, none⟩ = some (.int .i64 x.v) ∧ w.cell? ⟨(ad.add (i * 5)).block, (ad.add (i * 5)).off + 4, none⟩ = some (.slice x.A x.ks.length x.c)
mutual
/-- the term lies in memory, all the way down -/
def Mem (w : World) : TT → Prop | .mk _ _ _ _ A _ ks => KS w A ks ∧ ks.length ≤ 9223372036854775807 ∧ MemL w ks
def MemL (w : World) : List TT → Prop
  | [] => True
  | t :: ts => Mem w t ∧ MemL w ts
end
mutual
/-- the blocks of its kids' slices -/
def Bl (p : Nat → Prop) : TT → Prop | .mk _ _ _ _ A _ ks => (0 < ks.length → ∀ ad, A = some ad → p ad.block) ∧ BlL p ks
def BlL (p : Nat → Prop) : List TT → Prop
  | [] => True
  | t :: ts => Bl p t ∧ BlL p ts
end
theorem MemL_iff {w : World} : ∀ {ks : List TT}, MemL w ks ↔ ∀ t ∈ ks, Mem w t
  | [] => by simp [MemL]
  | u :: us => by rw [MemL, MemL_iff (ks := us)]; simp
theorem BlL_iff {p : Nat → Prop} : ∀ {ks : List TT}, BlL p ks ↔ ∀ t ∈ ks, Bl p t
  | [] => by simp [BlL]
  | u :: us => by rw [BlL, BlL_iff (ks := us)]; simp
theorem Mem_iff {w : World} {t : TT} : Mem w t ↔ KS w t.A t.ks ∧ t.ks.length ≤ 9223372036854775807 ∧ ∀ x ∈ t.ks, Mem w x := by
  cases t; rw [Mem, MemL_iff]; rfl
theorem Bl_iff {p : Nat → Prop} {t : TT} : Bl p t ↔ (0 < t.ks.length → ∀ ad, t.A = some ad → p ad.block) ∧ ∀ x ∈ t.ks, Bl p x := by
  cases t; rw [Bl, BlL_iff]; rfl
theorem size_kid {t : TT} {x : TT} (h : x ∈ t.ks) : x.tm.size < t.tm.size := by
  rw [tm_eq t, Tm.size]
  have := Tm.sizeL_mem (List.mem_map_of_mem (f := tm) h)
  omega
/-- induction over the kids -/
theorem ind {P : TT → Prop} (h : ∀ t, (∀ x ∈ t.ks, P x) → P t) : ∀ t, P t := by
  have key : ∀ n t, t.tm.size ≤ n → P t := by
    intro n
    induction n with
    | zero => intro t ht; have := Tm.size_pos t.tm; omega
    | succ n ih => exact fun t ht => h t fun x hx => ih x (by have := size_kid hx; omega)
  exact fun t => key _ t (Nat.le_refl _)
theorem Mem.leaf {w : World} {k f o v : Int} {A : Option Addr} {c : Nat} : Mem w (.mk k f o v A c []) := by
  rw [Mem]
  exact ⟨fun h => absurd h (by simp), by simp, trivial⟩
theorem Bl.leaf {p : Nat → Prop} {k f o v : Int} {A : Option Addr} {c : Nat} : Bl p (.mk k f o v A c []) := by
  rw [Bl]
  exact ⟨fun h => absurd h (by simp), trivial⟩
section
variable {w w' : World} {A : Option Addr} {ks : List TT}
theorem KS.ext (h : KS w A ks) (hb : Below w.heap.size w w') : KS w' A ks := fun h0 => by
  obtain ⟨ad, h1, h2, h3⟩ := h h0
  refine ⟨ad, h1, Nat.lt_of_lt_of_le h2 hb.size, fun i x hx => ?_⟩
  obtain ⟨a, b, c, d, e⟩ := h3 i x hx
  exact ⟨by rw [hb.cell (cell_lt a)]; exact a, by rw [hb.cell (cell_lt b)]; exact b, by rw [hb.cell (cell_lt c)]; exact c, by rw [hb.cell (cell_lt d)]; exact d, by rw [hb.cell (cell_lt e)]; exact e⟩
theorem Mem.ext (hb : Below w.heap.size w w') : ∀ {t : TT}, Mem w t → Mem w' t := fun {t} => by
  refine ind (P := fun t => Mem w t → Mem w' t) (fun t ih h => ?_) t
  rw [Mem_iff] at h ⊢
  exact ⟨h.1.ext hb, h.2.1, fun x hx => ih x hx (h.2.2 x hx)⟩
theorem KS.grown {g : Nat} (h : KS w A ks) (hg : w.grownBy w' (some g)) (hne : 0 < ks.length → ∀ ad, A = some ad → ad.block ≠ g) : KS w' A ks := fun h0 => by
  obtain ⟨ad, h1, h2, h3⟩ := h h0
  have hk : ∀ {p : Addr} {u : Value}, p.block = ad.block → w.cell? p = some u → w'.cell? p = some u := fun {p u} e hp => by
    have hb := hg.block p.block (by rw [e]; exact h2) (by rw [e]; intro e2; injection e2 with e2; exact hne h0 ad h1 e2)
    have h3 : w'.cell? p = w.cell? p := by simp only [World.cell?, hb]
    rw [h3]; exact hp
  refine ⟨ad, h1, Nat.lt_of_lt_of_le h2 hg.size, fun i x hx => ?_⟩
  obtain ⟨a, b, c, d, e⟩ := h3 i x hx
  have hB : (ad.add (i * 5)).block = ad.block := addr_add_block _ _
  exact ⟨hk hB a, hk hB b, hk hB c, hk hB d, hk hB e⟩
theorem Mem.grown {g : Nat} (hg : w.grownBy w' (some g)) : ∀ {t : TT}, Mem w t → Bl (· ≠ g) t → Mem w' t := fun {t} => by
  refine ind (P := fun t => Mem w t → Bl (· ≠ g) t → Mem w' t) (fun t ih h hb => ?_) t
  rw [Mem_iff] at h ⊢
  rw [Bl_iff] at hb
  exact ⟨h.1.grown hg hb.1, h.2.1, fun x hx => ih x hx (h.2.2 x hx) (hb.2 x hx)⟩
theorem Bl.mono {p q : Nat → Prop} (hpq : ∀ n, p n → q n) : ∀ {t : TT}, Bl p t → Bl q t := fun {t} => by
  refine ind (P := fun t => Bl p t → Bl q t) (fun t ih h => ?_) t
  rw [Bl_iff] at h ⊢
  exact ⟨fun h0 ad e => hpq _ (h.1 h0 ad e), fun x hx => ih x hx (h.2 x hx)⟩
theorem Bl.and {p q : Nat → Prop} : ∀ {t : TT}, Bl p t → Bl q t → Bl (fun n => p n ∧ q n) t := fun {t} => by
  refine ind (P := fun t => Bl p t → Bl q t → Bl (fun n => p n ∧ q n) t) (fun t ih h k => ?_) t
  rw [Bl_iff] at h k ⊢
  exact ⟨fun h0 ad e => ⟨h.1 h0 ad e, k.1 h0 ad e⟩, fun x hx => ih x hx (h.2 x hx) (k.2 x hx)⟩
/-- what lies in memory lies in its blocks -/
theorem Mem.bl : ∀ {t : TT}, Mem w t → Bl (· < w.heap.size) t := fun {t} => by
  refine ind (P := fun t => Mem w t → Bl (· < w.heap.size) t) (fun t ih h => ?_) t
  rw [Mem_iff] at h
  rw [Bl_iff]
  refine ⟨fun h0 ad e => ?_, fun x hx => ih x hx (h.2.2 x hx)⟩
  obtain ⟨ad2, e2, h3, _⟩ := h.1 h0
  rw [e] at e2
  obtain rfl := Option.some.inj e2
  exact h3
/-- a kid's five cells -/
theorem KS.at_ (h : KS w A ks) {i : Nat} {x : TT} (hx : ks[i]? = some x) : ∃ ad, A = some ad ∧ ad.block < w.heap.size ∧ w.cell? (ad.add (i * 5)) = some (.int .i64 x.k) ∧ w.cell? ⟨(ad.add (i * 5)).block, (ad.add (i * 5)).off + 1, none⟩ = some (.int .i64 x.f) ∧ w.cell? ⟨(ad.add (i * 5)).block, (ad.add (i * 5)).off + 2, none⟩ = some (.int .i64 x.o) ∧ w.cell? ⟨(ad.add (i * 5)).block, (ad.add (i * 5)).off + 3, none⟩ = some (.int .i64 x.v) ∧ w.cell? ⟨(ad.add (i * 5)).block, (ad.add (i * 5)).off + 4, none⟩ = some (.slice x.A x.ks.length x.c) := by
  have hi := (List.getElem?_eq_some_iff.1 hx).1
  obtain ⟨ad, h1, h2, h3⟩ := h (by omega)
  exact ⟨ad, h1, h2, h3 i x hx⟩
end
end TT
end Go.Proofs.YtolkijelldlmeaaGreatDoor

namespace Go.Proofs.YtolkijelldlmeaaGreatDoor
open Go.RowKit Go.Proofs Go

section
variable {P : Program} (w : World)
/-- append to a row of one's own: the new slice lies in the old block or in a new one -/
theorem run_append_far (base : Nat) (t ty e : TypeId) (i : TypeInfo) (z : Value) (size bytes : Nat) (ht : P.underlying t = some (.slice e)) (hi : P.info? e = some i) (hz : i.zero = some z)
    (hsize : i.size = size) (hby : i.bytes = bytes) (hzs : z.cells.size = size) (hsz : 0 < size)
    (v : Value) (n : Nat) (xs : List Value) (hown : w.ownsRow base e size v n xs)
    (a : Addr) (m c : Nat) (news : List Value) (hl : news.length = m * size) (hnews : ∀ j u, news[j]? = some u → w.cell? (a.add j) = some u) (h1 : ∀ u ∈ news, u.oneCell' = true)
    (h63 : n + m ≤ maxLen) (hbytes : (n + m) * bytes ≤ 140737488355328) (hbase : base ≤ w.heap.size) :
    ∃ v' w', (Builtin.append_ #[t, t] ty #[v, .slice (some a) m c]).run P w = .ok v' w' ∧ w'.ownsRow base e size v' (n + m) (xs ++ news) ∧ w.grownBy w' v.ownBlock ∧
      (∀ g, g < w.heap.size → v.ownBlock ≠ some g → v'.ownBlock ≠ some g) := by
  obtain ⟨v', w', hr, h2, h3, _⟩ := run_append_own w base t ty e i z size bytes ht hi hz hsize hby hzs hsz v n xs hown a m c news hl hnews h1 h63 hbytes hbase
  refine ⟨v', w', hr, h2, h3, fun g hg hne => ?_⟩
  rcases hown.2 with ⟨rfl, rfl⟩ | ⟨k, cap, cur, rfl, _, hk, _, _, hcs, _⟩
  · have hx : xs = [] := List.eq_nil_of_length_eq_zero (by simpa using hown.1)
    subst hx
    obtain ⟨v2, w2, hr2, h4, _, _⟩ := run_append_own w w.heap.size t ty e i z size bytes ht hi hz hsize hby hzs hsz (.slice none 0 0) 0 [] (World.ownsRow_nil w _ e size) a m c news hl hnews h1 h63 hbytes (Nat.le_refl _)
    have he := hr2.symm.trans hr
    injection he with he1 he2
    subst he1 he2
    intro hb
    have := (World.ownsRow.lt h4 g hb).1
    omega
  · by_cases hroom : n + m ≤ cap
    · subst hsize
      have hfit : n * i.size + news.length ≤ cur.size := by rw [hl, hcs, ← Nat.add_mul]; exact Nat.mul_le_mul_right _ hroom
      have hr2 := run_append_room (P := P) w t ty e i ht hi k n cap cur hk a m c news hl hnews h1 hroom hfit
      have he := hr2.symm.trans hr
      injection he with he1 he2
      subst he1
      exact hne
    · obtain ⟨v2, w2, hr2, h4, _⟩ := run_append_arg_grows (P := P) w t ty e i z size bytes ht hi hz hsize hby hzs hsz ⟨k, 0, none⟩ n cap xs hown.1 (World.ownsRow.cells hown rfl) a m c news hl hnews (by omega) h63 hbytes
      have he := hr2.symm.trans hr
      injection he with he1 he2
      subst he1 he2
      intro hb
      have := (World.ownsRow.lt h4 g hb).1
      omega
end
/-- two slices lie in different blocks -/
def Far (A C : Option Addr) : Prop := ∀ a c : Addr, A = some a → C = some c → a.block ≠ c.block
theorem Far.symm {A C : Option Addr} (h : Far A C) : Far C A := fun c a hc ha e => h a c ha hc e.symm
theorem Far.nil (A : Option Addr) : Far A none := fun _ _ _ h => by cases h
section
variable {P : Program} {ops : Array Oper} {rest : List Oper} {o : Oper} {a : Act} {Q : Exit → Act → World → Prop} {t e : TypeId} {z : Value} {b : Nat}
/-- append(s, x), behind the operation that laid x in a block of its own; what another slice of the call's own is stays, and lies apart -/
theorem wp_push2 (E : Elt P t e z b) (w : World) (hg : o.guard = none) (s x : Operand) (hop : o.op = Op.call { callee := Callee.builtin Builtin.append, args := #[s, x], argTypes := #[t, t] })
    {B : Nat} {A : Option Addr} {n c : Nat} {xs : List Value} {u : Value} (hs : a.eval s = .slice A n c) (hx : a.eval x = .slice (some ⟨w.heap.size, 0, none⟩) 1 1) (hown : Own w B e A n c xs) (hu : u.oneCell' = true)
    (hn : (n + 1) * b ≤ 140737488355328) (hm : n < 9223372036854775807) (hB : B ≤ w.heap.size)
    {C : Option Addr} {n2 c2 : Nat} {ys : List Value} (hown2 : Own w B e C n2 c2 ys) (hfar : Far A C)
    (hK : ∀ A' c' w', Own w' B e A' (n + 1) c' (xs ++ [u]) → Own w' B e C n2 c2 ys → Far A' C → Below B w w' → w.heap.size < w'.heap.size → wpList P ops Q rest (a.put o.dst (.slice A' (n + 1) c')) w') :
    wpList P ops Q (o :: rest) a (w.alloc (.cells #[u] e)) := by
  obtain ⟨i, hi, hz, h1, h2⟩ := info_parts E.info
  have hnews : ∀ j v, ([u] : List Value)[j]? = some v → (w.alloc (.cells #[u] e)).cell? ((⟨w.heap.size, 0, none⟩ : Addr).add j) = some v := by
    intro j v hj
    match j, hj with
    | 0, hj => simp at hj; subst hj; simp [Addr.add, World.cell?_alloc_at]
  have hone : ∀ v ∈ [u], v.oneCell' = true := by intro v hv; simp at hv; subst hv; exact hu
  obtain ⟨v', w', hrun, h3, h4, h5⟩ := run_append_far (P := P) (w.alloc (.cells #[u] e)) B t o.type e i z 1 b E.und hi hz h1 h2 (by rw [E.one]; rfl) (by decide) _ n xs (World.ownsRow.alloc hown _) ⟨w.heap.size, 0, none⟩ 1 1 [u] rfl hnews hone (by unfold maxLen; omega) hn (by simp; omega)
  have hb : w.grownBy w' (Value.slice A n c).ownBlock := ⟨h4.os, h4.tape, h4.output, Nat.le_trans (by simp) h4.size, fun k hk hne => (h4.block k (by simp; omega) hne).trans (Below.heap_alloc w _ k hk)⟩
  have hlt : w.heap.size < w'.heap.size := by have := h4.size; simp at this; omega
  obtain ⟨A', c', rfl⟩ : ∃ A' c', v' = .slice A' (n + 1) c' := by
    rcases h3.2 with ⟨_, h0⟩ | ⟨g, cap, cur, hv, _⟩
    · omega
    · exact ⟨_, _, hv⟩
  have hC : ∀ c : Addr, C = some c → c.block < w.heap.size := fun c hc => (World.ownsRow.lt hown2 c.block (by rw [hc]; rfl)).2
  have hkeep : Own w' B e C n2 c2 ys := World.ownsRow.kept hown2 hb (by
    cases hCc : C with
    | none => exact .inl rfl
    | some q =>
      right
      cases hAa : A with
      | none => intro h; cases h
      | some p =>
        intro h
        injection h with h
        exact hfar p q hAa hCc h.symm)
  have hfar' : Far A' C := fun p q hp hq he => by
    have := hC q hq
    refine h5 q.block (by simp; omega) (fun h => ?_) (by rw [hp]; show some p.block = _; rw [he])
    cases hAa : A with
    | none => rw [hAa] at h; cases h
    | some r =>
      rw [hAa] at h
      injection h with h
      exact hfar r q hAa hq h
  refine wpList_plain hg fun K hK' => ?_
  unfold Oper.wp
  simp [execOp, hop, resolve, invoke, builtin, hs, hx, hrun, Result.andThen]
  exact hK' _ _ (hK A' c' w' h3 hkeep hfar' (below_of_grown hb hB fun k hk => ((World.ownsRow.lt hown) k hk).1) hlt)
end
end Go.Proofs.YtolkijelldlmeaaGreatDoor

namespace Go.Proofs.YtolkijelldlmeaaGreatDoor
open Go.RowKit Go.Proofs Go

namespace TT
def tcells (ks : List TT) : List Value := ks.flatMap cells
theorem tcells_len : ∀ ks : List TT, (tcells ks).length = ks.length * 5
  | [] => rfl
  | x :: l => by
    have : tcells (x :: l) = x.cells ++ tcells l := rfl
    rw [this, List.length_append, tcells_len l, List.length_cons, show x.cells.length = 5 from rfl]; omega
theorem tcells_append (a b : List TT) : tcells (a ++ b) = tcells a ++ tcells b := by simp [tcells]
theorem tcells_at : ∀ (ks : List TT) (i j : Nat) (x : TT), ks[i]? = some x → j < 5 → (tcells ks)[i * 5 + j]? = x.cells[j]?
  | [], i, j, x, h, _ => by simp at h
  | y :: l, 0, j, x, h, hj => by
    simp at h; subst h
    rw [tcells, List.flatMap_cons, List.getElem?_append_left (by simp [cells]; omega), Nat.zero_mul, Nat.zero_add]
  | y :: l, i + 1, j, x, h, hj => by
    rw [tcells, List.flatMap_cons, List.getElem?_append_right (by simp [cells]; omega)]
    rw [show (i + 1) * 5 + j - y.cells.length = i * 5 + j from by simp [cells]; omega]
    exact tcells_at l i j x (by simpa using h) hj
/-- a slice's cells, one by one -/
theorem KS.cell {w : World} {ad : Addr} {ks : List TT} (h : KS w (some ad) ks) : ∀ j u, (tcells ks)[j]? = some u → w.cell? (ad.add j) = some u := fun j u hu => by
  have hj := (List.getElem?_eq_some_iff.1 hu).1
  rw [tcells_len] at hj
  have hi : j / 5 < ks.length := by omega
  have hx := List.getElem?_eq_getElem hi
  generalize ks[j / 5] = x at *
  obtain ⟨ad2, e, _, c0, c1, c2, c3, c4⟩ := h.at_ hx
  obtain rfl := Option.some.inj e
  have hr := tcells_at ks (j / 5) (j % 5) x hx (Nat.mod_lt _ (by omega))
  rw [show j / 5 * 5 + j % 5 = j by omega, hu] at hr
  have hcell : ∀ (r : Nat) (y : Value), w.cell? ⟨(ad.add (j / 5 * 5)).block, (ad.add (j / 5 * 5)).off + r, none⟩ = some y → j % 5 = r → r ≠ 0 → x.cells[r]? = some y → w.cell? (ad.add j) = some u := fun r y hc hjr hr0 hy => by
    rw [hjr, hy] at hr
    obtain rfl := Option.some.inj hr
    have ha : ∀ a : Addr, (⟨a.block, a.off + r, none⟩ : Addr) = a.add r := fun a => by unfold Addr.add; rw [if_neg hr0]
    rw [ha, addr_add_add, show j / 5 * 5 + r = j by omega] at hc
    exact hc
  have hlt : j % 5 < 5 := Nat.mod_lt _ (by omega)
  obtain h0 | h0 | h0 | h0 | h0 : j % 5 = 0 ∨ j % 5 = 1 ∨ j % 5 = 2 ∨ j % 5 = 3 ∨ j % 5 = 4 := by omega
  · rw [h0] at hr
    obtain rfl := Option.some.inj (hr.trans (show x.cells[0]? = some (.int .i64 x.k) from rfl))
    rw [show j / 5 * 5 = j by omega] at c0
    exact c0
  · exact hcell 1 _ c1 h0 (by decide) rfl
  · exact hcell 2 _ c2 h0 (by decide) rfl
  · exact hcell 3 _ c3 h0 (by decide) rfl
  · exact hcell 4 _ c4 h0 (by decide) rfl
/-- the call owns a row of terms -/
def TOwn (e : TypeId) (w : World) (B : Nat) (A : Option Addr) (c : Nat) (ks : List TT) : Prop := w.ownsRow B e 5 (.slice A ks.length c) ks.length (tcells ks)
section
variable {e : TypeId} {w w' : World} {B c : Nat} {A : Option Addr} {ks : List TT}
theorem TOwn.nil (e : TypeId) (w : World) (B : Nat) : TOwn e w B none 0 [] := World.ownsRow_nil w B e 5
theorem TOwn.alloc (h : TOwn e w B A c ks) (o : Obj) : TOwn e (w.alloc o) B A c ks := World.ownsRow.alloc h o
theorem TOwn.ext (h : TOwn e w B A c ks) (hb : Below w.heap.size w w') : TOwn e w' B A c ks :=
  World.ownsRow.kept h (grown_of_below hb none) (by cases A <;> simp [Value.ownBlock])
theorem TOwn.blk (h : TOwn e w B A c ks) : ∀ ad, A = some ad → B ≤ ad.block ∧ ad.block < w.heap.size := fun ad e => by
  rcases h.2 with ⟨hv, _⟩ | ⟨g, cap, cur, hv, hB, hg, _⟩
  · injection hv with hA _ _
    rw [e] at hA; cases hA
  · injection hv with hA _ _
    rw [e] at hA
    obtain rfl := Option.some.inj hA
    exact ⟨hB, (Array.getElem?_eq_some_iff.1 hg).1⟩
theorem TOwn.reads (h : TOwn e w B A c ks) : KS w A ks := fun h0 => by
  have h1 := h
  rcases h1.2 with ⟨_, h2⟩ | ⟨g, cap, cur, hv, _, hg, _⟩
  · omega
  · injection hv with hA _ _
    subst hA
    refine ⟨_, rfl, (Array.getElem?_eq_some_iff.1 hg).1, fun i x hx => ?_⟩
    have c0 := World.ownsRow.cells h rfl (i * 5 + 0) _ ((tcells_at ks i 0 x hx (by omega)).trans (show x.cells[0]? = some (.int .i64 x.k) from rfl))
    have c1 := World.ownsRow.cells h rfl (i * 5 + 1) _ ((tcells_at ks i 1 x hx (by omega)).trans (show x.cells[1]? = some (.int .i64 x.f) from rfl))
    have c2 := World.ownsRow.cells h rfl (i * 5 + 2) _ ((tcells_at ks i 2 x hx (by omega)).trans (show x.cells[2]? = some (.int .i64 x.o) from rfl))
    have c3 := World.ownsRow.cells h rfl (i * 5 + 3) _ ((tcells_at ks i 3 x hx (by omega)).trans (show x.cells[3]? = some (.int .i64 x.v) from rfl))
    have c4 := World.ownsRow.cells h rfl (i * 5 + 4) _ ((tcells_at ks i 4 x hx (by omega)).trans (show x.cells[4]? = some (.slice x.A x.ks.length x.c) from rfl))
    rw [Addr.add_lit, Nat.zero_add] at c0 c1 c2 c3 c4 ⊢
    exact ⟨c0, c1, c2, c3, c4⟩
end
theorem one_cells (ks : List TT) : ∀ u ∈ tcells ks, u.oneCell' = true := fun u hu => by
  rw [tcells, List.mem_flatMap] at hu
  obtain ⟨x, _, hx⟩ := hu
  simp [cells] at hx
  rcases hx with rfl | rfl | rfl | rfl | rfl <;> rfl
/-- the zero of a term -/
def Z : Value := .agg #[.int .i64 0, .int .i64 0, .int .i64 0, .int .i64 0, .slice none 0 0]
/-- a row of terms of the call's own, and all that its terms reach -/
structure TR (e : TypeId) (w : World) (B : Nat) (A : Option Addr) (c : Nat) (ks : List TT) : Prop where
  own : TOwn e w B A c ks
  mem : ∀ x ∈ ks, x.Mem w
  far : ∀ ad, A = some ad → ∀ x ∈ ks, x.Bl (· ≠ ad.block)
section
variable {e : TypeId} {w w' : World} {B c : Nat} {A : Option Addr} {ks : List TT}
theorem TR.nil (e : TypeId) (w : World) (B : Nat) : TR e w B none 0 [] := ⟨TOwn.nil e w B, by simp, by simp⟩
theorem TR.ext (h : TR e w B A c ks) (hb : Below w.heap.size w w') : TR e w' B A c ks := ⟨h.own.ext hb, fun x hx => (h.mem x hx).ext hb, h.far⟩
theorem TR.grown {g : Nat} (h : TR e w B A c ks) (hg : w.grownBy w' (some g)) (hB : g < B) (hk : ∀ x ∈ ks, x.Bl (· ≠ g)) : TR e w' B A c ks :=
  ⟨World.ownsRow.kept h.own hg (by
    cases hA : A with
    | none => exact .inl rfl
    | some ad =>
      right
      intro h2
      injection h2 with h2
      have := (h.own.blk ad hA).1
      omega), fun x hx => (h.mem x hx).grown hg (hk x hx), h.far⟩
theorem TR.reads (h : TR e w B A c ks) : KS w A ks := h.own.reads
theorem TR.len (h : TR e w B A c ks) : ks.length ≤ c ∧ c ≤ 9223372036854775807 := by
  rcases h.own.2 with ⟨hv, h0⟩ | ⟨g, cap, cur, hv, _, _, h1, h2, _⟩
  · injection hv with _ h1 h2
    omega
  · injection hv with _ _ h3
    unfold maxLen at h2
    omega
end
theorem TR.lit (W : World) {B : Nat} (hB : B ≤ W.heap.size) (T : TypeId) (x : TT) (hx : x.Mem W) (cs : Array Value) (hcs : cs.toList = x.cells) : TR T (W.alloc (.cells cs T)) B (some ⟨W.heap.size, 0, none⟩) 1 [x] := by
  have h1 : cs.size = 5 := by rw [← Array.length_toList, hcs]; rfl
  refine ⟨⟨rfl, .inr ⟨W.heap.size, 1, cs, rfl, hB, heap_alloc_new W _, Nat.le_refl _, by unfold maxLen; omega, by omega, ?_⟩⟩, fun y hy => ?_, fun ad e y hy => ?_⟩
  · rw [hcs, List.take_of_length_le (by simp [cells])]; simp [tcells]
  · rw [List.mem_singleton.1 hy]
    exact hx.ext (below_alloc W _)
  · obtain rfl := Option.some.inj e
    rw [List.mem_singleton.1 hy]
    exact hx.bl.mono fun n hn => by show n ≠ W.heap.size; omega
/-- append(s, x...): s a row of terms of the call's own, x any terms -/
theorem op_tpushes {P : Program} {o : Oper} {a : Act} {K : Act → World → Prop} {Q : Exit → Act → World → Prop} {t e : TypeId} (ht : P.underlying t = some (.slice e)) (hinfo : (P.info? e).map (fun i => (i.zero, i.size, i.bytes)) = some (some Z, 5, 56)) (w : World) (s x : Operand) (hop : o.op = Op.call { callee := Callee.builtin Builtin.append, args := #[s, x], argTypes := #[t, t] })
    {B : Nat} {A X : Option Addr} {n m c cx : Nat} {us ks : List TT} (hs : a.eval s = .slice A n c) (hx : a.eval x = .slice X m cx) (hown : TR e w B A c us) (HX : KS w X ks) (HM : ∀ x ∈ ks, x.Mem w) (HF : ∀ ad, A = some ad → ∀ x ∈ ks, x.Bl (· ≠ ad.block)) (hn : n = us.length) (hm : m = ks.length) (hb : n + m ≤ 1000000) (hB : B ≤ w.heap.size)
    (hK : ∀ A' c' w', TR e w' B A' c' (us ++ ks) → w.grownBy w' (Value.slice A n c).ownBlock → Below B w w' → K (a.put o.dst (.slice A' (n + m) c')) w') : Oper.wp P o a w K Q := by
  subst hn hm
  obtain ⟨i, hi, hz, h1, h2⟩ := info_parts hinfo
  have hbel : ∀ {w'}, w.grownBy w' (Value.slice A us.length c).ownBlock → Below B w w' := fun h4 => below_of_grown h4 hB fun k hk => ((World.ownsRow.lt hown.own) k hk).1
  by_cases h0 : ks.length = 0
  · have hr : ks = [] := List.eq_nil_of_length_eq_zero h0
    subst hr
    have hnc : ¬ c < us.length := by have := hown.len.1; omega
    have hrun : (Builtin.append_ #[t, t] o.type #[.slice A us.length c, .slice X 0 cx]).run P w = .ok (.slice A us.length c) w := by
      cases A <;> cases X <;> simp [hnc, Builtin.append_, run_underlying ht, sizeOf, typeInfo, hi, Builtin.lenOf, Builtin.firstCells, loadCells, loadCellsFrom, storeCells]
    have hk := hK A c w (by rw [List.append_nil]; exact hown) ⟨rfl, rfl, rfl, Nat.le_refl _, fun _ _ _ => rfl⟩ (Below.refl _ _)
    unfold Oper.wp
    simp [execOp, hop, resolve, invoke, builtin, hs, hx, hrun, Result.andThen]
    exact hk
  · obtain ⟨xd, rfl, _⟩ := HX (by omega)
    obtain ⟨v', w', hr, h3, h4, h5⟩ := run_append_far (P := P) w B t o.type e i Z 5 56 ht hi hz h1 h2 rfl (by decide) _ us.length (tcells us) hown.own xd ks.length cx (tcells ks) (tcells_len ks) HX.cell (one_cells ks) (by unfold maxLen; omega) (by omega) hB
    obtain ⟨A', c', rfl⟩ : ∃ A' c', v' = .slice A' (us.length + ks.length) c' := by
      rcases h3.2 with ⟨_, h0⟩ | ⟨g, cap, cur, hv, _⟩
      · omega
      · exact ⟨_, _, hv⟩
    have hM : ∀ x ∈ us ++ ks, x.Mem w := fun x hx => by
      rcases List.mem_append.1 hx with h | h
      · exact hown.mem x h
      · exact HM x h
    have hF : ∀ ad, A = some ad → ∀ x ∈ us ++ ks, x.Bl (· ≠ ad.block) := fun ad e x hx => by
      rcases List.mem_append.1 hx with h | h
      · exact hown.far ad e x h
      · exact HF ad e x h
    have hTR : TR e w' B A' c' (us ++ ks) := by
      refine ⟨by rw [TOwn, tcells_append, List.length_append]; exact h3, fun x hx => ?_, fun ad' e' x hx => ?_⟩
      · cases hA : A with
        | none =>
          rw [hA] at h4
          exact (hM x hx).ext (below_of_grown h4 (Nat.le_refl _) fun k hk => by cases hk)
        | some ad =>
          rw [hA] at h4
          exact (hM x hx).grown h4 (hF ad hA x hx)
      · have hl := (hM x hx).bl
        cases hA : A with
        | none => exact hl.mono fun n hn => show n ≠ ad'.block from fun he => h5 n hn (by rw [hA]; intro h; cases h) (by rw [e', he]; rfl)
        | some ad => exact (hl.and (hF ad hA x hx)).mono fun n hn => show n ≠ ad'.block from fun he => h5 n hn.1 (by rw [hA]; intro h; injection h with h; exact hn.2 h.symm) (by rw [e', he]; rfl)
    unfold Oper.wp
    simp [execOp, hop, resolve, invoke, builtin, hs, hx, hr, Result.andThen]
    exact hK A' c' w' hTR h4 (hbel h4)
theorem wp_tpushes {P : Program} {ops : Array Oper} {rest : List Oper} {o : Oper} {a : Act} {Q : Exit → Act → World → Prop} {t e : TypeId} (ht : P.underlying t = some (.slice e)) (hinfo : (P.info? e).map (fun i => (i.zero, i.size, i.bytes)) = some (some Z, 5, 56)) (w : World) (hg : o.guard = none) (s x : Operand) (hop : o.op = Op.call { callee := Callee.builtin Builtin.append, args := #[s, x], argTypes := #[t, t] })
    {B : Nat} {A X : Option Addr} {n m c cx : Nat} {us ks : List TT} (hs : a.eval s = .slice A n c) (hx : a.eval x = .slice X m cx) (hown : TR e w B A c us) (HX : KS w X ks) (HM : ∀ x ∈ ks, x.Mem w) (HF : ∀ ad, A = some ad → ∀ x ∈ ks, x.Bl (· ≠ ad.block)) (hn : n = us.length) (hm : m = ks.length) (hb : n + m ≤ 1000000) (hB : B ≤ w.heap.size)
    (hK : ∀ A' c' w', TR e w' B A' c' (us ++ ks) → w.grownBy w' (Value.slice A n c).ownBlock → Below B w w' → wpList P ops Q rest (a.put o.dst (.slice A' (n + m) c')) w') : wpList P ops Q (o :: rest) a w :=
  wpList_plain hg fun _ hK' => op_tpushes ht hinfo w s x hop hs hx hown HX HM HF hn hm hb hB fun A' c' w' h1 h2 h3 => hK' _ _ (hK A' c' w' h1 h2 h3)
/-- a slice literal of terms -/
theorem KS.lit (W : World) (T : TypeId) (ks : List TT) (cs : Array Value) (hcs : cs.toList = tcells ks) : KS (W.alloc (.cells cs T)) (some ⟨W.heap.size, 0, none⟩) ks := fun h0 => by
  have hat : ∀ (j : Nat) (u : Value), (tcells ks)[j]? = some u → (W.alloc (.cells cs T)).cell? ((⟨W.heap.size, 0, none⟩ : Addr).add j) = some u := fun j u hu => by
    rw [← hcs, Array.getElem?_toList] at hu
    have : (⟨W.heap.size, 0, none⟩ : Addr).add j = ⟨W.heap.size, j, none⟩ := by unfold Addr.add; split <;> simp_all
    rw [this]
    exact al_at rfl _ hu
  refine ⟨_, rfl, by simp, fun i x hx => ?_⟩
  have key := fun r hr => (tcells_at ks i r x hx hr)
  have c0 := hat (i * 5 + 0) _ ((key 0 (by omega)).trans (show x.cells[0]? = some (.int .i64 x.k) from rfl))
  have c1 := hat (i * 5 + 1) _ ((key 1 (by omega)).trans (show x.cells[1]? = some (.int .i64 x.f) from rfl))
  have c2 := hat (i * 5 + 2) _ ((key 2 (by omega)).trans (show x.cells[2]? = some (.int .i64 x.o) from rfl))
  have c3 := hat (i * 5 + 3) _ ((key 3 (by omega)).trans (show x.cells[3]? = some (.int .i64 x.v) from rfl))
  have c4 := hat (i * 5 + 4) _ ((key 4 (by omega)).trans (show x.cells[4]? = some (.slice x.A x.ks.length x.c) from rfl))
  rw [Addr.add_lit, Nat.zero_add] at c0 c1 c2 c3 c4 ⊢
  exact ⟨c0, c1, c2, c3, c4⟩
/-- append(s, x), behind the operation that laid x in a block of its own -/
theorem wp_tpush {P : Program} {ops : Array Oper} {rest : List Oper} {o : Oper} {a : Act} {Q : Exit → Act → World → Prop} {t e : TypeId} (ht : P.underlying t = some (.slice e)) (hinfo : (P.info? e).map (fun i => (i.zero, i.size, i.bytes)) = some (some Z, 5, 56)) (w : World) (hg : o.guard = none) (s x : Operand) (hop : o.op = Op.call { callee := Callee.builtin Builtin.append, args := #[s, x], argTypes := #[t, t] })
    {B : Nat} {A : Option Addr} {n c : Nat} {us : List TT} {T : TypeId} {cs : Array Value} (y : TT) (hcs : cs.toList = y.cells) (hs : a.eval s = .slice A n c) (hx : a.eval x = .slice (some ⟨w.heap.size, 0, none⟩) 1 1) (hown : TR e w B A c us) (HM : y.Mem w) (HF : ∀ ad, A = some ad → y.Bl (· ≠ ad.block)) (hn : n = us.length) (hb : n + 1 ≤ 1000000) (hB : B ≤ w.heap.size)
    (hK : ∀ A' c' w', TR e w' B A' c' (us ++ [y]) → Below B w w' → w.heap.size < w'.heap.size → wpList P ops Q rest (a.put o.dst (.slice A' (n + 1) c')) w') : wpList P ops Q (o :: rest) a (w.alloc (.cells cs T)) :=
  wp_tpushes ht hinfo (w.alloc (.cells cs T)) hg s x hop hs hx (hown.ext (below_alloc w _)) (KS.lit w T [y] cs (by rw [hcs]; simp [tcells])) (fun x hx => by rw [List.mem_singleton.1 hx]; exact HM.ext (below_alloc w _)) (fun ad e x hx => by rw [List.mem_singleton.1 hx]; exact HF ad e) hn rfl hb (by simp; omega)
    fun A' c' w' h1 h2 h3 => hK A' c' w' h1 (((below_alloc w _).mono hB).trans h3) (by have := h3.size; simp at this; omega)
end TT
/-- a cell of a box changes -/
theorem BL.putc {w0 W : World} {L : List (Nat × Array Value × TypeId)} (h : BL w0 W L) (i : Nat) {g : Nat} {cs : Array Value} {T : TypeId} (hp : L[i]? = some (g, cs, T)) (hg : w0.heap.size ≤ g) (j : Nat) (_hj : j < cs.size) (hne : ∀ (k : Nat) q, L[k]? = some q → k ≠ i → q.1 ≠ g) (v : Value) : BL w0 (W.setCell ⟨g, j, none⟩ v) (L.set i (g, cs.set! j v, T)) := by
  have hb := h.blk i _ hp
  refine ⟨h.below.setCell hg v, fun k q hq => ?_⟩
  by_cases hk : k = i
  · subst hk
    have hi := (List.getElem?_eq_some_iff.1 hp).1
    rw [List.getElem?_set_self hi] at hq
    obtain rfl := Option.some.inj hq
    have hb : W.heap[g]? = some (.cells cs T) := hb
    simp [World.setCell, Array.getElem?_modify, hb]
  · rw [List.getElem?_set_ne (fun e => hk e.symm)] at hq
    rw [Below.heap_setCell W ⟨g, j, none⟩ v q.1 fun e => hne k q hq hk (by first | exact e | exact e.symm)]
    exact h.blk k q hq
/-- all five cells of a box change -/
theorem BL.put5 {w0 W : World} {L : List (Nat × Array Value × TypeId)} (h : BL w0 W L) (i : Nat) {g : Nat} {u0 u1 u2 u3 u4 : Value} {T : TypeId} (hp : L[i]? = some (g, #[u0, u1, u2, u3, u4], T)) (hg : w0.heap.size ≤ g) (hne : ∀ (k : Nat) q, L[k]? = some q → k ≠ i → q.1 ≠ g) (v0 v1 v2 v3 v4 : Value) :
    BL w0 (((((W.setCell ⟨g, 0, none⟩ v0).setCell ⟨g, 1, none⟩ v1).setCell ⟨g, 2, none⟩ v2).setCell ⟨g, 3, none⟩ v3).setCell ⟨g, 4, none⟩ v4) (L.set i (g, #[v0, v1, v2, v3, v4], T)) := by
  have hi := (List.getElem?_eq_some_iff.1 hp).1
  have step : ∀ {W : World} {cs : Array Value} (_ : BL w0 W (L.set i (g, cs, T))) (j : Nat) (_ : j < cs.size) (v : Value), BL w0 (W.setCell ⟨g, j, none⟩ v) (L.set i (g, cs.set! j v, T)) := fun {W cs} H j hj v => by
    have := H.putc i (g := g) (cs := cs) (T := T) (by rw [List.getElem?_set_self hi]) hg j hj (fun k q hq hk => by
      rw [List.getElem?_set_ne (fun e => hk e.symm)] at hq
      exact hne k q hq hk) v
    rw [List.set_set] at this
    exact this
  have h0 := h.putc i hp hg 0 (by simp) hne v0
  have h1 := step h0 1 (by simp) v1
  have h2 := step h1 2 (by simp) v2
  have h3 := step h2 3 (by simp) v3
  have h4 := step h3 4 (by simp) v4
  exact h4
/-- the cell of the kids changes -/
theorem BL.putk {w0 W : World} {L : List (Nat × Array Value × TypeId)} (h : BL w0 W L) (i : Nat) {g : Nat} {u0 u1 u2 u3 u4 : Value} {T : TypeId} (hp : L[i]? = some (g, #[u0, u1, u2, u3, u4], T)) (hg : w0.heap.size ≤ g) (hne : ∀ (k : Nat) q, L[k]? = some q → k ≠ i → q.1 ≠ g) (v : Value) :
    BL w0 (W.setCell ⟨g, 4, none⟩ v) (L.set i (g, #[u0, u1, u2, u3, v], T)) := h.putc i hp hg 4 (by simp) hne v
theorem grown_set {w W : World} {g : Nat} (h : w.grownBy W (some g)) (j : Nat) (v : Value) : w.grownBy (W.setCell ⟨g, j, none⟩ v) (some g) :=
  ⟨h.os, h.tape, h.output, by simpa [World.setCell] using h.size, fun i hi hne => by
    rw [Below.heap_setCell W ⟨g, j, none⟩ v i fun e => hne (by rw [e])]; exact h.block i hi hne⟩
theorem grown_set5 (W : World) (g : Nat) (v0 v1 v2 v3 v4 : Value) : W.grownBy (((((W.setCell ⟨g, 0, none⟩ v0).setCell ⟨g, 1, none⟩ v1).setCell ⟨g, 2, none⟩ v2).setCell ⟨g, 3, none⟩ v3).setCell ⟨g, 4, none⟩ v4) (some g) :=
  grown_set (grown_set (grown_set (grown_set (grown_set (grown_refl W _) 0 v0) 1 v1) 2 v2) 3 v3) 4 v4
/-- a term is returned -/
def RetT (w : World) (X : Tm) (F : TT → Prop) (e : Ending) (w' : World) : Prop := ∃ t : TT, e = .returned t.val ∧ t.Mem w' ∧ t.tm = X ∧ F t ∧ Below w.heap.size w w'
end Go.Proofs.YtolkijelldlmeaaGreatDoor

namespace Go.Proofs.YtolkijelldlmeaaGreatDoor
open Go.RowKit Go.Proofs Go

theorem TT.tm_mk (k f o v : Int) (A : Option Addr) (c : Nat) (ks : List TT) : (TT.mk k f o v A c ks).tm = .mk k f o v (ks.map TT.tm) := TT.tm_eq _
/-- the kids so far -/
def TT.pre (ks : List TT) (i : Nat) : List Tm := (ks.take i).map TT.tm
theorem TT.pre_zero (ks : List TT) : TT.pre ks 0 = [] := rfl
theorem TT.pre_all (ks : List TT) : TT.pre ks ks.length = ks.map TT.tm := by rw [TT.pre, List.take_length]
theorem TT.pre_succ {ks : List TT} {i : Nat} {x : TT} (h : ks[i]? = some x) : TT.pre ks (i + 1) = TT.pre ks i ++ [x.tm] := by
  obtain ⟨hi, rfl⟩ := List.getElem?_eq_some_iff.1 h
  rw [TT.pre, TT.pre, List.take_succ_eq_append_getElem hi, List.map_append]; rfl
theorem TT.pre_split (ks : List TT) (i : Nat) : ks.map TT.tm = TT.pre ks i ++ (ks.drop i).map TT.tm := by
  rw [TT.pre, ← List.map_append, List.take_append_drop]
/-- a kid is read, whole -/
theorem TT.Mem.kids {w : World} {k f o v : Int} {A : Option Addr} {c : Nat} {ks : List TT} (h : TT.Mem w (.mk k f o v A c ks)) : TT.KS w A ks ∧ ks.length ≤ 9223372036854775807 ∧ ∀ x ∈ ks, TT.Mem w x := TT.Mem_iff.1 h
set_option maxHeartbeats 4000000 in
set_option maxRecDepth 100000 in
theorem qsize_any : ∀ (t : TT) (bi : Int) (b : Nat) (w : World), Hid (bi = (b : Int)) → b ≤ 100000 → t.Mem w →
    Calls Tryz.prog 83 #[t.val, .int .i64 bi] w (RetI w (t.tm.cnt b : Nat)) := by
  refine fun t => TT.ind (P := fun t => ∀ (bi : Int) (b : Nat) (w : World), Hid (bi = (b : Int)) → b ≤ 100000 → t.Mem w → Calls Tryz.prog 83 #[t.val, .int .i64 bi] w (RetI w (t.tm.cnt b : Nat))) (fun t ih0 bi b w hbi hb HM0 => ?_) t
  obtain ⟨k, f, o, v, A, c, ks⟩ := t
  obtain ⟨HK, hl, HM⟩ := HM0.kids
  clear HM0
  have ih : ∀ x ∈ ks, ∀ (bi : Int) (b : Nat) (w : World), Hid (bi = (b : Int)) → b ≤ 100000 → x.Mem w → Calls Tryz.prog 83 #[x.val, .int .i64 bi] w (RetI w (x.tm.cnt b : Nat)) := ih0
  clear ih0
  show Calls _ _ #[.agg #[.int .i64 k, .int .i64 f, .int .i64 o, .int .i64 v, .slice A ks.length c], .int .i64 bi] w _
  have hres := Lib.hid (show (TT.mk k f o v A c ks).tm.cnt b = Tm.cntL (ks.map TT.tm) b by rw [TT.tm_mk, Tm.cnt_mk])
  rw [hres.out]
  have h0 := Lib.hid (show Tm.cntL (TT.pre ks 0) b = 1 from Tm.cntL_nil b)
  have HX := BL.one w #[.int .i64 k, .int .i64 f, .int .i64 o, .int .i64 v, .slice A ks.length c] 55
  replace HK := HK.ext (below_alloc w (.cells #[.int .i64 k, .int .i64 f, .int .i64 o, .int .i64 v, .slice A ks.length c] 55))
  replace HM : ∀ x ∈ ks, x.Mem (w.alloc (.cells #[.int .i64 k, .int .i64 f, .int .i64 o, .int .i64 v, .slice A ks.length c] 55)) := fun x hx => (HM x hx).ext (below_alloc w _)
  have hcc := HX.cell 0 4 rfl rfl
  simp only [List.getElem_toArray, List.getElem_cons_zero, List.getElem_cons_succ] at hcc
  have hbW := HX.below
  clear HX
  go_enter Tryz.func83, Tryz.ntmps83
  go_upto_region 1 with fail
  generalize w.alloc (.cells #[.int .i64 k, .int .i64 f, .int .i64 o, .int .i64 v, .slice A ks.length c] 55) = W0 at *
  go_wp2
  go_loopg [5, 11] ks.length (fun g n i wr => ∃ (j m : Nat), j + g = ks.length ∧ i = .int .i64 (j : Int) ∧ n = .int .i64 (m : Int) ∧ Hid (Tm.cntL (TT.pre ks j) b = m) ∧ TT.KS wr A ks ∧ (∀ x ∈ ks, x.Mem wr) ∧ Below w.heap.size w wr)
  case atStart => exact ⟨0, 1, by omega, rfl, rfl, h0, HK, HM, hbW⟩
  case round =>
    clear HK HM h0 hbW hcc
    obtain ⟨j, m, hj, rfl, rfl, hm, HK, HM, hbW⟩ := hrel
    by_cases hjl : j < ks.length
    · obtain ⟨x, hx⟩ : ∃ x, Hid (ks[j]? = some x) := ⟨_, Lib.hid (List.getElem?_eq_getElem hjl)⟩
      have hxm : x ∈ ks := List.mem_of_getElem? hx.out
      obtain ⟨ad, rfl, hadb, e0, e1, e2, e3, e4⟩ := HK.at_ hx.out
      have hmb := Lib.hid (show m ≤ b + 1 by rw [← hm.out, Tm.cntL]; omega)
      by_cases hmB : m ≤ b
      · have hd : decide (bi < (m : Int)) = false := decide_eq_false (by rw [hbi.out]; omega)
        obtain ⟨d, hd2⟩ : ∃ d : Int, Hid (bi - (m : Int) = d) := ⟨_, Lib.hid rfl⟩
        have hdn := Lib.hid (show d = ((b - m : Nat) : Int) by rw [← hd2.out, hbi.out]; omega)
        obtain ⟨s, hs⟩ : ∃ s, Hid (x.tm.cnt (b - m) = s) := ⟨_, Lib.hid rfl⟩
        have hnext := Lib.hid (show Tm.cntL (TT.pre ks (j + 1)) b = m + s by rw [TT.pre_succ hx.out, Tm.cntL_snoc (by rw [hm.out]; exact hmB), hm.out, hs.out])
        have hsb := Lib.hid (show s ≤ b - m + 1 by rw [← hs.out, Tm.cnt]; omega)
        have hmI : (m : Int) ≤ bi := by rw [hbi.out]; omega
        have hbI : bi ≤ 100000 := by rw [hbi.out]; omega
        have HX : BL w wr [] := ⟨hbW, fun i p hp => by simp at hp⟩
        go_upto_region 5 with fail
        have hb := below_alloc wr (.cells #[.int .i64 x.k, .int .i64 x.f, .int .i64 x.o, .int .i64 x.v, .slice x.A x.ks.length x.c] 55)
        replace HX := HX.new #[.int .i64 x.k, .int .i64 x.f, .int .i64 x.o, .int .i64 x.v, .slice x.A x.ks.length x.c] 55
        simp only [List.nil_append] at HX
        replace HK := HK.ext hb
        replace HM : ∀ x ∈ ks, x.Mem _ := fun x hx => (HM x hx).ext hb
        clear hb
        generalize wr.alloc (.cells #[.int .i64 x.k, .int .i64 x.f, .int .i64 x.o, .int .i64 x.v, .slice x.A x.ks.length x.c] 55) = W1 at *
        generalize wr.heap.size = g1 at *
        clear e0 e1 e2 e3 e4 hadb hbW
        have hc00 := HX.cell 0 0 rfl rfl
        have hc01 := HX.cell 0 1 rfl rfl
        have hc02 := HX.cell 0 2 rfl rfl
        have hc03 := HX.cell 0 3 rfl rfl
        have hc04 := HX.cell 0 4 rfl rfl
        try simp only [List.getElem_toArray, List.getElem_cons_zero, List.getElem_cons_succ] at hc00 hc01 hc02 hc03 hc04
        go_wp2_with fail
        rw [hd2.out]
        refine (ih x hxm d (b - m) _ hdn (by omega) (HM x hxm)).mono ?_
        rw [hs.out]
        rintro e w5 ⟨rfl, hb5⟩
        replace HX := HX.ext hb5
        replace HK := HK.ext hb5
        replace HM : ∀ x ∈ ks, x.Mem w5 := fun x hx => (HM x hx).ext hb5
        have hbW := HX.below
        clear HX hb5 hc00 hc01 hc02 hc03 hc04
        have hsb2 := hsb.out
        go_wp2
        go_roundg (ks.length - (j + 1))
        case measure => omega
        case rel => exact ⟨j + 1, m + s, by omega, by go_num, by go_num, hnext, HK, HM, hbW⟩
      · have hd : decide (bi < (m : Int)) = true := decide_eq_true (by rw [hbi.out]; omega)
        have hfin := Lib.hid (show Tm.cntL (ks.map TT.tm) b = m by rw [TT.pre_split ks j, Tm.cntL_stop (by rw [hm.out]; exact hmB), hm.out])
        have HX : BL w wr [] := ⟨hbW, fun i p hp => by simp at hp⟩
        go_upto_region 5 with fail
        have hb := below_alloc wr (.cells #[.int .i64 x.k, .int .i64 x.f, .int .i64 x.o, .int .i64 x.v, .slice x.A x.ks.length x.c] 55)
        replace HX := HX.new #[.int .i64 x.k, .int .i64 x.f, .int .i64 x.o, .int .i64 x.v, .slice x.A x.ks.length x.c] 55
        simp only [List.nil_append] at HX
        clear hb
        generalize wr.alloc (.cells #[.int .i64 x.k, .int .i64 x.f, .int .i64 x.o, .int .i64 x.v, .slice x.A x.ks.length x.c] 55) = W1 at *
        generalize wr.heap.size = g1 at *
        have hbW2 := HX.below
        go_wp2
        go_ret
        exact ⟨by rw [hfin.out]; rfl, hbW2⟩
    · obtain rfl : j = ks.length := by omega
      have hfin := Lib.hid (show Tm.cntL (ks.map TT.tm) b = m by rw [← TT.pre_all, hm.out])
      go_wp2
      go_ret
      exact ⟨by rw [hfin.out]; rfl, hbW⟩
end Go.Proofs.YtolkijelldlmeaaGreatDoor

namespace Go.Proofs.YtolkijelldlmeaaGreatDoor
open Go.RowKit Go.Proofs Go

theorem infoT : (Tryz.prog.info? 55).map (fun i => (i.zero, i.size, i.bytes)) = some (some TT.Z, 5, 56) := by kernel_rfl
/-- what a joined term's blocks are -/
def NewBl (w : World) (ks : List TT) (t : TT) : Prop := ∀ p : Nat → Prop, (∀ x ∈ ks, x.Bl p) → t.Bl (fun n => p n ∨ w.heap.size ≤ n)
set_option maxHeartbeats 4000000 in
set_option maxRecDepth 100000 in
theorem qjoined_any (kind : Int) (A : Option Addr) (c : Nat) (ks : List TT) (w : World) (H : TT.KS w A ks) (HM : ∀ x ∈ ks, x.Mem w) (hs : Tm.sizeL (ks.map TT.tm) ≤ 1000000) :
    Calls Tryz.prog 176 #[.int .i64 kind, .slice A ks.length c] w (RetT w (Tm.joined kind (ks.map TT.tm)) (NewBl w ks)) := by
  have hl : ks.length ≤ 1000000 := by have h1 := Tm.sizeL_len (ks.map TT.tm); rw [List.length_map] at h1; omega
  have HX := BL.one w #[.int .i64 0, .int .i64 0, .int .i64 0, .int .i64 0, .slice none 0 0] 55
  by_cases h1 : ks.length = 1
  · obtain ⟨x, rfl⟩ := List.length_eq_one_iff.1 h1
    clear h1
    have hx : x.Mem (w.alloc (.cells #[.int .i64 0, .int .i64 0, .int .i64 0, .int .i64 0, .slice none 0 0] 55)) := (HM x (by simp)).ext (below_alloc w _)
    have hxl : x.Bl (· ≠ w.heap.size) := (HM x (by simp)).bl.mono fun n hn => by show n ≠ w.heap.size; omega
    obtain ⟨ad, rfl, hadb, e0, e1, e2, e3, e4⟩ := (H.ext (below_alloc w (.cells #[.int .i64 0, .int .i64 0, .int .i64 0, .int .i64 0, .slice none 0 0] 55))).at_ (i := 0) rfl
    rw [Nat.zero_mul, show ad.add 0 = ad from rfl] at e0 e1 e2 e3 e4
    go_enter Tryz.func176, Tryz.ntmps176
    go_upto_region 1 with fail
    generalize w.alloc (.cells #[.int .i64 0, .int .i64 0, .int .i64 0, .int .i64 0, .slice none 0 0] 55) = V at *
    have hc00 := HX.cell 0 0 rfl rfl
    have hc01 := HX.cell 0 1 rfl rfl
    have hc02 := HX.cell 0 2 rfl rfl
    have hc03 := HX.cell 0 3 rfl rfl
    have hc04 := HX.cell 0 4 rfl rfl
    try simp only [List.getElem_toArray, List.getElem_cons_zero, List.getElem_cons_succ] at hc00 hc01 hc02 hc03 hc04
    have hf00 := HX.free 0 0 rfl
    have hf01 := HX.free 0 1 rfl
    have hf02 := HX.free 0 2 rfl
    have hf03 := HX.free 0 3 rfl
    have hf04 := HX.free 0 4 rfl
    try simp only [] at hf00 hf01 hf02 hf03 hf04
    go_wp2
    clear hc00 hc01 hc02 hc03 hc04
    clear hf00 hf01 hf02 hf03 hf04
    have HG := grown_set5 V (w.heap.size) (.int .i64 x.k) (.int .i64 x.f) (.int .i64 x.o) (.int .i64 x.v) (.slice x.A x.ks.length x.c)
    replace HX := HX.put5 0 rfl (by omega) (by intro k q hk hne; match k, hk with | 0, hk => (simp at hk; subst hk; simp at hne ⊢; try omega) | k + 1, hk => simp at hk) (.int .i64 x.k) (.int .i64 x.f) (.int .i64 x.o) (.int .i64 x.v) (.slice x.A x.ks.length x.c)
    simp only [List.set_cons_zero] at HX
    have hx2 := hx.grown HG hxl
    generalize ((((V.setCell ⟨w.heap.size, 0, none⟩ (.int .i64 x.k)).setCell ⟨w.heap.size, 1, none⟩ (.int .i64 x.f)).setCell ⟨w.heap.size, 2, none⟩ (.int .i64 x.o)).setCell ⟨w.heap.size, 3, none⟩ (.int .i64 x.v)).setCell ⟨w.heap.size, 4, none⟩ (.slice x.A x.ks.length x.c) = Wz at *
    have hc00 := HX.cell 0 0 rfl rfl
    have hc01 := HX.cell 0 1 rfl rfl
    have hc02 := HX.cell 0 2 rfl rfl
    have hc03 := HX.cell 0 3 rfl rfl
    have hc04 := HX.cell 0 4 rfl rfl
    try simp only [List.getElem_toArray, List.getElem_cons_zero, List.getElem_cons_succ] at hc00 hc01 hc02 hc03 hc04
    exact bodyPost_ret (v := .agg #[.int .i64 x.k, .int .i64 x.f, .int .i64 x.o, .int .i64 x.v, .slice x.A x.ks.length x.c]) (by simp [results, Tryz.results176, go_sem, hc00, hc01, hc02, hc03, hc04]) rfl ⟨x, rfl, hx2, rfl, fun p hp => (hp x (by simp)).mono fun n hn => .inl hn, HX.below⟩
  · have ql : ((ks.length : Int) == 1) = false := beq_eq_false_iff_ne.2 (by omega)
    have HX := HX.new #[.int .i64 kind, .int .i64 0, .int .i64 0, .int .i64 0, .slice none 0 0] 55
    simp only [List.cons_append, List.nil_append] at HX
    have hsz : (w.alloc (.cells #[.int .i64 0, .int .i64 0, .int .i64 0, .int .i64 0, .slice none 0 0] 55)).heap.size = w.heap.size + 1 := by simp
    rw [hsz] at HX
    obtain ⟨B, hB⟩ : ∃ B, Hid (((w.alloc (.cells #[.int .i64 0, .int .i64 0, .int .i64 0, .int .i64 0, .slice none 0 0] 55)).alloc (.cells #[.int .i64 kind, .int .i64 0, .int .i64 0, .int .i64 0, .slice none 0 0] 55)).heap.size = B) := ⟨_, Lib.hid rfl⟩
    have hB2 : B = w.heap.size + 2 := by rw [← hB.out]; simp
    clear hsz
    go_enter Tryz.func176, Tryz.ntmps176
    go_upto_region 4 with fail
    generalize (w.alloc (.cells #[.int .i64 0, .int .i64 0, .int .i64 0, .int .i64 0, .slice none 0 0] 55)).alloc (.cells #[.int .i64 kind, .int .i64 0, .int .i64 0, .int .i64 0, .slice none 0 0] 55) = V at *
    have hfl0 := Lib.hid (show ([] : List TT).map TT.tm = Tm.flat kind (TT.pre ks 0) from rfl)
    have hbp0 := Lib.hid (show ∀ p : Nat → Prop, (∀ x ∈ ks, x.Bl p) → ∀ x ∈ ([] : List TT), x.Bl p from fun p _ x hx => by simp at hx)
    have HT := TT.TR.nil 55 V B
    go_wp2
    go_loopg [18] ks.length (fun g i wr => ∃ (j : Nat) (A8 : Option Addr) (c8 : Nat) (us : List TT), j + g = ks.length ∧ i = .int .i64 (j : Int) ∧ BL w wr [(w.heap.size, #[.int .i64 0, .int .i64 0, .int .i64 0, .int .i64 0, .slice none 0 0], 55), (w.heap.size + 1, #[.int .i64 kind, .int .i64 0, .int .i64 0, .int .i64 0, .slice A8 us.length c8], 55)] ∧ TT.TR 55 wr B A8 c8 us ∧ Hid (us.map TT.tm = Tm.flat kind (TT.pre ks j)) ∧ Hid (∀ p : Nat → Prop, (∀ x ∈ ks, x.Bl p) → ∀ x ∈ us, x.Bl p) ∧ B ≤ wr.heap.size)
    case atStart => exact ⟨0, none, 0, [], by omega, rfl, HX, HT, hfl0, hbp0, by rw [hB.out]; exact Nat.le_refl _⟩
    case round =>
      clear HX HT hfl0 hbp0
      obtain ⟨j, A8, c8, us, hj, rfl, HX, HT, hfl, hbp, hBr⟩ := hrel
      by_cases hjl : j < ks.length
      · obtain ⟨x, hx⟩ : ∃ x, Hid (ks[j]? = some x) := ⟨_, Lib.hid (List.getElem?_eq_getElem hjl)⟩
        have hxm : x ∈ ks := List.mem_of_getElem? hx.out
        have hxM := (HM x hxm).ext HX.below
        have hxL : x.Bl (· < w.heap.size) := (HM x hxm).bl
        have hpre := Lib.hid (TT.pre_succ hx.out)
        have hle := Lib.hid (show Tm.sizeL (TT.pre ks (j + 1)) ≤ 1000000 by
          have h1 := TT.pre_split ks (j + 1)
          rw [h1, Tm.sizeL_append] at hs
          omega)
        obtain ⟨ad, rfl, hadb, e0, e1, e2, e3, e4⟩ := (H.ext HX.below).at_ hx.out
        obtain ⟨kx, fx, ox, vx, Ax, cx, xs⟩ := x
        change wr.cell? _ = some (.int .i64 kx) at e0
        change wr.cell? _ = some (.int .i64 fx) at e1
        change wr.cell? _ = some (.int .i64 ox) at e2
        change wr.cell? _ = some (.int .i64 vx) at e3
        change wr.cell? _ = some (.slice Ax xs.length cx) at e4
        obtain ⟨hxK, hxl, hxs⟩ := hxM.kids
        have hflen := Lib.hid (show us.length + (if kx = kind then xs.length else 1) ≤ 1000000 by
          have h1 := Tm.sizeL_flat kind (TT.pre ks (j + 1))
          have h2 := Tm.sizeL_len (Tm.flat kind (TT.pre ks (j + 1)))
          have h3 : (Tm.flat kind [(TT.mk kx fx ox vx Ax cx xs).tm]).length = if kx = kind then xs.length else 1 := by
            rw [TT.tm_mk, Tm.flat, Tm.flat, List.append_nil]
            show (if kx = kind then _ else _ : List Tm).length = _
            split
            · show (xs.map TT.tm).length = _; rw [List.length_map]
            · rfl
          have h4 : (Tm.flat kind (TT.pre ks (j + 1))).length = us.length + if kx = kind then xs.length else 1 := by rw [hpre.out, Tm.flat_append, ← hfl.out, List.length_append, List.length_map, h3]
          have := hle.out
          omega)
        go_upto_region 7 with fail
        have hb := below_alloc wr (.cells #[.int .i64 kx, .int .i64 fx, .int .i64 ox, .int .i64 vx, .slice Ax xs.length cx] 55)
        have HXk := BL.one wr #[.int .i64 kx, .int .i64 fx, .int .i64 ox, .int .i64 vx, .slice Ax xs.length cx] 55
        replace HX := HX.ext hb
        replace HT := HT.ext hb
        replace hxK := hxK.ext hb
        replace hxM := hxM.ext hb
        replace hxs : ∀ y ∈ xs, y.Mem _ := fun y hy => (hxs y hy).ext hb
        replace hBr : B ≤ (wr.alloc (.cells #[.int .i64 kx, .int .i64 fx, .int .i64 ox, .int .i64 vx, .slice Ax xs.length cx] 55)).heap.size := Nat.le_trans hBr hb.size
        clear hb e0 e1 e2 e3 e4 hadb
        generalize wr.alloc (.cells #[.int .i64 kx, .int .i64 fx, .int .i64 ox, .int .i64 vx, .slice Ax xs.length cx] 55) = W1 at *
        generalize wr.heap.size = g1 at *
        have hk0 := HXk.cell 0 0 rfl rfl
        have hk1 := HXk.cell 0 1 rfl rfl
        have hk2 := HXk.cell 0 2 rfl rfl
        have hk3 := HXk.cell 0 3 rfl rfl
        have hk4 := HXk.cell 0 4 rfl rfl
        simp only [List.getElem_toArray, List.getElem_cons_zero, List.getElem_cons_succ] at hk0 hk1 hk2 hk3 hk4
        clear HXk
        by_cases hkk : kx = kind
        · subst hkk
          rw [if_pos rfl] at hflen
          have hfl2 := Lib.hid (show (us ++ xs).map TT.tm = Tm.flat kx (TT.pre ks (j + 1)) by
            rw [hpre.out, Tm.flat_append, ← hfl.out, TT.tm_mk, Tm.flat, Tm.flat, List.append_nil, if_pos (by rfl), List.map_append]; rfl)
          have hbp2 := Lib.hid (show ∀ p : Nat → Prop, (∀ x ∈ ks, x.Bl p) → ∀ x ∈ us ++ xs, x.Bl p from fun p hp y hy => by
            rcases List.mem_append.1 hy with h | h
            · exact hbp.out p hp y h
            · exact (TT.Bl_iff.1 (hp _ hxm)).2 y h)
          have hFar : ∀ ad, A8 = some ad → ∀ y ∈ xs, y.Bl (· ≠ ad.block) := fun ad e y hy => ((TT.Bl_iff.1 hxL).2 y hy).mono fun n hn => by have := (HT.own.blk ad e).1; show n ≠ ad.block; omega
          clear hfl hbp hxM hxL hx hpre hle
          have hc14 := HX.cell 1 4 rfl rfl
          try simp only [List.getElem_toArray, List.getElem_cons_zero, List.getElem_cons_succ] at hc14
          have hflo := hflen.out
          go_wp2_with (at_builtin; refine TT.wp_tpushes Tryz.underlying53 infoT _ rfl _ _ rfl rfl rfl HT hxK hxs hFar rfl rfl (by omega) hBr ?_; intro A9 c9 w9 HT9 hg9 hb9; have hBr2 := Nat.le_trans hBr hb9.size; replace HX := HX.low (by omega) (by intro i p hp; match i, hp with | 0, hp => (simp at hp; subst hp; simp; omega) | 1, hp => (simp at hp; subst hp; simp; omega) | i + 2, hp => simp at hp) hb9; have hc14 := HX.cell 1 4 rfl rfl; have hf14 := HX.free 1 4 rfl; (try simp only [List.getElem_toArray, List.getElem_cons_zero, List.getElem_cons_succ] at hc14 hf14))
          try clear hc14
          try clear hf14
          replace HT9 := HT9.grown (g := w.heap.size + 1) (grown_set (grown_refl w9 _) 4 (.slice A9 (us.length + xs.length) c9)) (by omega) (fun x hx => (hbp2.out (· < w.heap.size) (fun y hy => (HM y hy).bl) x hx).mono fun n hn => by show n ≠ w.heap.size + 1; omega)
          replace HX := HX.putk 1 rfl (by omega) (by intro k q hk hne; match k, hk with | 0, hk => (simp at hk; subst hk; simp at hne ⊢; try omega) | 1, hk => (simp at hk; subst hk; simp at hne ⊢; try omega) | k + 2, hk => simp at hk) (.slice A9 (us.length + xs.length) c9)
          simp only [List.set_cons_zero, List.set_cons_succ] at HX
          replace hBr2 : B ≤ (w9.setCell ⟨w.heap.size + 1, 4, none⟩ (.slice A9 (us.length + xs.length) c9)).heap.size := Nat.le_trans hBr2 (grown_set (grown_refl w9 _) 4 _).size
          go_wp2
          go_roundg (ks.length - (j + 1))
          case measure => omega
          case rel => exact ⟨j + 1, A9, c9, us ++ xs, by omega, by go_num, by simpa [List.length_append] using HX, HT9, hfl2, hbp2, hBr2⟩
        · rw [if_neg hkk] at hflen
          have qk : (kx == kind) = false := beq_eq_false_iff_ne.2 hkk
          have hfl2 := Lib.hid (show (us ++ [TT.mk kx fx ox vx Ax cx xs]).map TT.tm = Tm.flat kind (TT.pre ks (j + 1)) by
            rw [hpre.out, Tm.flat_append, ← hfl.out, TT.tm_mk, Tm.flat, Tm.flat, List.append_nil, if_neg (by exact hkk), List.map_append, List.map_cons, TT.tm_mk]; rfl)
          have hbp2 := Lib.hid (show ∀ p : Nat → Prop, (∀ x ∈ ks, x.Bl p) → ∀ x ∈ us ++ [TT.mk kx fx ox vx Ax cx xs], x.Bl p from fun p hp y hy => by
            rcases List.mem_append.1 hy with h | h
            · exact hbp.out p hp y h
            · rw [List.mem_singleton.1 h]; exact hp _ hxm)
          have hFar : ∀ ad, A8 = some ad → (TT.mk kx fx ox vx Ax cx xs).Bl (· ≠ ad.block) := fun ad e => hxL.mono fun n hn => by have := (HT.own.blk ad e).1; show n ≠ ad.block; omega
          clear hfl hbp hxL hx hpre hle hkk
          have hc14 := HX.cell 1 4 rfl rfl
          try simp only [List.getElem_toArray, List.getElem_cons_zero, List.getElem_cons_succ] at hc14
          have hflo := hflen.out
          go_wp2_with (at_builtin; refine TT.wp_tpush Tryz.underlying53 infoT _ rfl _ _ rfl (TT.mk kx fx ox vx Ax cx xs) rfl rfl rfl HT hxM hFar rfl (by omega) hBr ?_; intro A9 c9 w9 HT9 hb9 hs9; have hBr2 := Nat.le_trans hBr hb9.size; replace HX := HX.low (by omega) (by intro i p hp; match i, hp with | 0, hp => (simp at hp; subst hp; simp; omega) | 1, hp => (simp at hp; subst hp; simp; omega) | i + 2, hp => simp at hp) hb9; have hc14 := HX.cell 1 4 rfl rfl; have hf14 := HX.free 1 4 rfl; (try simp only [List.getElem_toArray, List.getElem_cons_zero, List.getElem_cons_succ] at hc14 hf14))
          try clear hc14
          try clear hf14
          replace HT9 := HT9.grown (g := w.heap.size + 1) (grown_set (grown_refl w9 _) 4 (.slice A9 (us.length + 1) c9)) (by omega) (fun x hx => (hbp2.out (· < w.heap.size) (fun y hy => (HM y hy).bl) x hx).mono fun n hn => by show n ≠ w.heap.size + 1; omega)
          replace HX := HX.putk 1 rfl (by omega) (by intro k q hk hne; match k, hk with | 0, hk => (simp at hk; subst hk; simp at hne ⊢; try omega) | 1, hk => (simp at hk; subst hk; simp at hne ⊢; try omega) | k + 2, hk => simp at hk) (.slice A9 (us.length + 1) c9)
          simp only [List.set_cons_zero, List.set_cons_succ] at HX
          replace hBr2 : B ≤ (w9.setCell ⟨w.heap.size + 1, 4, none⟩ (.slice A9 (us.length + 1) c9)).heap.size := Nat.le_trans hBr2 (grown_set (grown_refl w9 _) 4 _).size
          go_wp2
          go_roundg (ks.length - (j + 1))
          case measure => omega
          case rel => exact ⟨j + 1, A9, c9, us ++ [TT.mk kx fx ox vx Ax cx xs], by omega, by go_num, by simpa [List.length_append] using HX, HT9, hfl2, hbp2, hBr2⟩
      · obtain rfl : j = ks.length := by omega
        rw [TT.pre_all] at hfl
        have hfin := Lib.hid (show (TT.mk kind 0 0 0 A8 c8 us).tm = Tm.joined kind (ks.map TT.tm) by
          rw [TT.tm_mk, hfl.out]
          match ks, h1 with
          | [], _ => rfl
          | _ :: _ :: _, _ => rfl)
        have hc10 := HX.cell 1 0 rfl rfl
        have hc11 := HX.cell 1 1 rfl rfl
        have hc12 := HX.cell 1 2 rfl rfl
        have hc13 := HX.cell 1 3 rfl rfl
        have hc14 := HX.cell 1 4 rfl rfl
        try simp only [List.getElem_toArray, List.getElem_cons_zero, List.getElem_cons_succ] at hc10 hc11 hc12 hc13 hc14
        have hnew : NewBl w ks (TT.mk kind 0 0 0 A8 c8 us) := fun p hp => TT.Bl_iff.2 ⟨fun _ ad e => .inr (by have := (HT.own.blk ad e).1; omega), fun y hy => (hbp.out p hp y hy).mono fun n hn => .inl hn⟩
        have hc00 := HX.cell 0 0 rfl rfl
        have hc01 := HX.cell 0 1 rfl rfl
        have hc02 := HX.cell 0 2 rfl rfl
        have hc03 := HX.cell 0 3 rfl rfl
        have hc04 := HX.cell 0 4 rfl rfl
        try simp only [List.getElem_toArray, List.getElem_cons_zero, List.getElem_cons_succ] at hc00 hc01 hc02 hc03 hc04
        have hf00 := HX.free 0 0 rfl
        have hf01 := HX.free 0 1 rfl
        have hf02 := HX.free 0 2 rfl
        have hf03 := HX.free 0 3 rfl
        have hf04 := HX.free 0 4 rfl
        try simp only [] at hf00 hf01 hf02 hf03 hf04
        go_wp2
        clear hc00 hc01 hc02 hc03 hc04
        clear hf00 hf01 hf02 hf03 hf04
        have HG := grown_set5 wr (w.heap.size) (.int .i64 kind) (.int .i64 0) (.int .i64 0) (.int .i64 0) (.slice A8 us.length c8)
        replace HX := HX.put5 0 rfl (by omega) (by intro k q hk hne; match k, hk with | 0, hk => (simp at hk; subst hk; simp at hne ⊢; try omega) | 1, hk => (simp at hk; subst hk; simp at hne ⊢; try omega) | k + 2, hk => simp at hk) (.int .i64 kind) (.int .i64 0) (.int .i64 0) (.int .i64 0) (.slice A8 us.length c8)
        simp only [List.set_cons_zero] at HX
        have HT2 := HT.grown HG (by omega) (fun x hx => (hbp.out (· < w.heap.size) (fun y hy => (HM y hy).bl) x hx).mono fun n hn => by show n ≠ w.heap.size; omega)
        have hmem := (TT.Mem_iff (t := TT.mk kind 0 0 0 A8 c8 us)).2 ⟨HT2.reads, by have := HT2.len; show us.length ≤ _; omega, HT2.mem⟩
        generalize ((((wr.setCell ⟨w.heap.size, 0, none⟩ (.int .i64 kind)).setCell ⟨w.heap.size, 1, none⟩ (.int .i64 0)).setCell ⟨w.heap.size, 2, none⟩ (.int .i64 0)).setCell ⟨w.heap.size, 3, none⟩ (.int .i64 0)).setCell ⟨w.heap.size, 4, none⟩ (.slice A8 us.length c8) = Wz at *
        have hc00 := HX.cell 0 0 rfl rfl
        have hc01 := HX.cell 0 1 rfl rfl
        have hc02 := HX.cell 0 2 rfl rfl
        have hc03 := HX.cell 0 3 rfl rfl
        have hc04 := HX.cell 0 4 rfl rfl
        try simp only [List.getElem_toArray, List.getElem_cons_zero, List.getElem_cons_succ] at hc00 hc01 hc02 hc03 hc04
        exact bodyPost_ret (v := .agg #[.int .i64 kind, .int .i64 0, .int .i64 0, .int .i64 0, .slice A8 us.length c8]) (by simp [results, Tryz.results176, go_sem, hc00, hc01, hc02, hc03, hc04]) rfl (show RetT _ _ _ _ _ from ⟨TT.mk kind 0 0 0 A8 c8 us, rfl, hmem, hfin.out, hnew, HX.below⟩)
end Go.Proofs.YtolkijelldlmeaaGreatDoor
