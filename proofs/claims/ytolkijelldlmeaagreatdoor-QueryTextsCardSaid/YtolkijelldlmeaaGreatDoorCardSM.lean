/- A card's opening where the library's own variable is met: the world's shape is handed on. -/
import Derived.Test.YtolkijelldlmeaaGreatDoorText3
import Derived.Test.YtolkijelldlmeaaGreatDoorBnat
import Derived.Test.YtolkijelldlmeaaGreatDoorKeep
import Derived.Test.YtolkijelldlmeaaGreatDoorRows
import Derived.Test.YtolkijelldlmeaaGreatDoorTie
import Derived.ProofKit
import Derived.LaidMore
import Derived.OpenShut
import Derived.Stop.Joined
import Derived.SevenTiedAt
import Derived.Carry
import Derived.Lib.LaidU8
import Derived.Lib.SmallJoins
import Derived.Test.YtolkijelldlmeaaGreatDoorHb
import Derived.Deep.Slices
import Derived.Deep.Fields
import Derived.ChangeSame
import Derived.Test.YtolkijelldlmeaaGreatDoorYJnM
import Derived.Test.YtolkijelldlmeaaGreatDoorLb1
import Derived.Stop.LaidErr
import Derived.Handed
namespace Go.Proofs.YtolkijelldlmeaaGreatDoor
open Go.Joins Go.ChangeShapes Go.WideShapes Go.ChangeAt Go.WideMaps Go.WideElems Go.RowKit Go.Proofs Go

theorem own : ownKnob Tryz.prog.godebug = none := by kernel_rfl
theorem laidOut : laidOutB Tryz.prog = true := by kernel_rfl

section
variable {H : Type} {enc : TypeId × Value → H} {P : Program}
/-- the arguments read as they did: below the old end of memory nothing has turned -/
theorem trodAll_stay (hl : laidOutB P = true) {W W' : World} (hb : Below W.heap.size W W') {sp : Nat → Bool} : ∀ {ts : List TypeId} {vs : List Value} {ds : List (DataW H)} {ps : List MemPlace},
    (∀ t ∈ ts, P.readableRec t = true ∧ t < P.types.size) → DataW.TrodAll enc P W 0 (fun _ => true) true ts vs ds ps → (∀ x ∈ ps, x.block < W.heap.size) → (∀ x ∈ ps, sp x.block = true) → DataW.TrodAll enc P W' 0 sp true ts vs ds ps
  | [], vs, ds, ps, _, h, _, _ => by
    obtain ⟨rfl, rfl, rfl⟩ := trodAll_nil h
    exact trodAll_mk0
  | t :: ts, vs, ds, ps, ht, h, hlt, hs => by
    obtain ⟨v, vs', d, ds', p, q, rfl, rfl, rfl, h1, h2⟩ := trodAll_cons h
    obtain ⟨r1, r2⟩ := ht t List.mem_cons_self
    refine ⟨p, q, ?_, trodAll_stay hl hb (fun t h => ht t (List.mem_cons_of_mem _ h)) h2 (fun x hx => hlt x (List.mem_append_right _ hx)) (fun x hx => hs x (List.mem_append_right _ hx)), rfl⟩
    exact Trod_stays hl r1 r2 h1 (fun x hx => hb.same (hlt x (List.mem_append_left _ hx))) (fun x hx => hs x (List.mem_append_left _ hx))
/-- a law's end: it has returned true, and below the old end of memory nothing has turned -/
theorem law_post {f : Func} {s : ChangeSpec} {W W' : World} {args : Array Value} {ds : List (DataW H)} {before : List MemPlace} (hl : laidOutB P = true) (hp : ∀ t ∈ f.params.toList, P.readableRec t = true ∧ t < P.types.size) {tb : TypeId} (hr : f.resultTypes = #[tb]) (htb : P.underlying tb = some .bool)
    (hvars : s.vars = []) (hfn : s.fn H (ds ++ []) = { results := [.lit (.bool true)], args := ds, vars := [] })
    (hW : DataW.Whole enc P f.params.toList s.vars false W args.toList ds [] before) (hA : DataW.TrodAll enc P W 0 (fun _ => true) true f.params.toList args.toList ds before) (hb : Below W.heap.size W W') :
    s.post enc P f false true false false W args (.bool true) W' := by
  have hlt : ∀ p ∈ before, p.block < W.heap.size := fun p hp => hW.lt p hp
  have hold : ∀ p ∈ before, (fun b => decide (b < W.heap.size)) p.block = true := fun p hp => by simpa using hlt p hp
  have hok : ∀ (j : Nat) (t : TypeId) (r : Value), f.resultTypes[j]? = some t → ((Value.bool true).resultList f.resultTypes.size)[j]? = some r → Value.okWide P W' .any 0 t r := ok_one hr rfl (okWide_bool_mk htb _)
  have hres : ∀ (b : Nat) (sp : Nat → Bool) (hd : Bool), DataW.TrodAll enc P W' b sp hd f.resultTypes.toList ((Value.bool true).resultList f.resultTypes.size) (s.fn H (ds ++ [])).results [] := fun b sp hd => by
    rw [hfn, hr]; exact trodAll_mk1 (shut_bool htb _)
  have hargs : ∀ sp : Nat → Bool, (∀ p ∈ before, sp p.block = true) → DataW.TrodAll enc P W' 0 sp true f.params.toList args.toList (s.fn H (ds ++ [])).args before := fun sp hsp => by
    rw [hfn]; exact trodAll_stay hl hb hp hA hlt hsp
  have hvs : ∀ sp : Nat → Bool, DataW.TrodVars enc P W' sp s.vars (s.fn H (ds ++ [])).vars [] := fun sp => by
    rw [hfn, hvars]; simp [DataW.TrodVars]
  refine ⟨ds, [], before, [], before, [], hW, hres _ _ _, hargs _ hold, hvs _, World.keptBut_mono (fun p hp => ⟨hp, .inr (by simpa using hp)⟩) (hb.frame (· ∈ before)), fun _ => ?_⟩
  obtain ⟨_, _, _, _, _, hz, hn⟩ := hW
  refine ⟨hok, _, _, ([] ++ before) ++ [], ⟨[] ++ before, [], trodAll_append (hargs _ (fun _ _ => rfl)) (hres _ _ _), hvs _, rfl, ?_, ?_⟩, ?_⟩
  · intro b off hp
    have hin : MemPlace.cell b off ∈ before := by simpa using hp
    rw [hb.frozen (hlt _ hin)]
    exact hz b off hin
  · intro ha; cases ha
  · intro p hp _
    simpa using hp
end

theorem i64_bd {n : Int} (h : (Lit.int .i64 n).wf = true) : -9223372036854775808 ≤ n ∧ n ≤ 9223372036854775807 := by
  simp only [Lit.wf, Bool.and_eq_true, decide_eq_true_eq] at h
  have e1 : IntKind.i64.min = -9223372036854775808 := rfl
  have e2 : IntKind.i64.max = 9223372036854775807 := rfl
  rw [e1, e2] at h
  exact h
theorem lim_of {W : World} {zs : List Int} {a : Addr} {len cap : Nat} (hl : len ≤ cap) (hz : zs.length = cap) (hc : ∀ i, i < zs.length → W.cell? (a.add i) = some (.int .u32 (zs.getD i 0))) (hw : ∀ n ∈ zs, (Lit.int .u32 n).wf = true) :
    ∃ l : List Nat, Lim W (some a) cap l ∧ len = l.length := by
  have hr : ∀ i, i < zs.length → 0 ≤ zs.getD i 0 ∧ zs.getD i 0 < 4294967296 := fun i hi => by
    have h1 := hw (zs.getD i 0) (by simp [List.getD_eq_getElem?_getD, List.getElem?_eq_getElem hi])
    simp only [Lit.wf, Bool.and_eq_true, decide_eq_true_eq] at h1
    have e1 : IntKind.u32.min = 0 := rfl
    have e2 : IntKind.u32.max = 4294967295 := rfl
    rw [e1, e2] at h1
    omega
  have hat : ∀ j, j < len → at_ ((zs.take len).map Int.toNat) j = (zs.getD j 0).toNat := fun j hj => by
    have : j < zs.length := by omega
    simp [at_, hj, List.getD_eq_getElem?_getD, List.getElem?_eq_getElem this]
  refine ⟨(zs.take len).map Int.toNat, ⟨by simp; omega, fun j => ?_, fun h0 => ⟨a, rfl, ?_, fun j hj => ?_⟩⟩, by simp; omega⟩
  · by_cases hj : j < len
    · rw [hat j hj]; have := hr j (by omega); omega
    · rw [at_ge (by simp; omega)]; omega
  · have := hc 0 (by simp at h0; omega)
    rw [← addr_add_block a 0]
    exact cell_lt this
  · have hj' : j < len := by simp at hj; omega
    rw [hc j (by omega), hat j hj']
    have := hr j (by omega)
    congr 2
    omega
section
variable {H : Type} {enc : TypeId × Value → H}
set_option maxRecDepth 100000 in
theorem open_limbs {W : World} {n : Nat} {v : Value} {y : DataW H × List MemPlace} (h : DataW.trod enc Tryz.prog W 0 (fun _ => true) true n 34 [v] = some y) :
    ∃ A n c l, v = .slice A n c ∧ Lim W A c l ∧ n = l.length ∧ n ≤ 9223372036854775807 := by
  obtain ⟨xs, m, rfl, _, _, hxl, hall⟩ := DataW.trod_struct Tryz.underlying34 h
  have h0 := hall 0 _ rfl
  have hx : xs[0]? = some (xs[0]'(by rw [hxl]; decide)) := List.getElem?_eq_getElem _
  rw [hx] at h0
  have h1 : DataW.trod enc Tryz.prog W 0 (fun _ => true) true m 32 [v] = some (xs[0]'(by rw [hxl]; decide)) := h0
  rcases open_ints Tryz.underlying32 Tryz.underlying208 (by kernel_rfl) h1 with ⟨h2, _⟩ | ⟨a, len, cap, zs, h2, _, hl, hm, hz, _, hc, hw⟩
  · obtain rfl : v = .slice none 0 0 := by simpa using h2
    exact ⟨none, 0, 0, [], rfl, Lim.nil _ _ _, rfl, by omega⟩
  · obtain rfl : v = .slice (some a) len cap := by simpa using h2
    simp only [if_true] at hz
    obtain ⟨l, hL, hn⟩ := lim_of hl hz hc hw
    unfold maxLen at hm
    exact ⟨some a, len, cap, l, rfl, hL, hn, by omega⟩
end

set_option maxRecDepth 100000 in
theorem tab_of_reads {W : World} {d : DataW Unit} (hd : d = Lib.tabData .u64 Lib.pow10Tab) (h : Lib.VarReads Tryz.prog W "internal/strconv.uint64pow10" d) : Tab W := by
  subst hd
  obtain ⟨g, t, cs, fuel, p, h1, h2, h3, h4⟩ := h
  have hg : Tryz.prog.globalNamed "internal/strconv.uint64pow10" = some 3 := by kernel_rfl
  obtain rfl := Option.some.inj (hg.symm.trans h1)
  have ht : (Tryz.prog.globals[3]?).map (·.type) = some 366 := by kernel_rfl
  obtain rfl := Option.some.inj (ht.symm.trans h2)
  show Lib.TabIs _ _ _ _ _
  unfold Lib.TabIs
  rw [h3, ← Lib.cells_of_tab Tryz.underlying366 Tryz.underlying207 (by kernel_rfl) (by kernel_rfl) h4]
end Go.Proofs.YtolkijelldlmeaaGreatDoor

namespace Go.Proofs.YtolkijelldlmeaaGreatDoor
open Go.Joins Go.ChangeShapes Go.WideShapes Go.ChangeAt Go.WideMaps Go.WideElems Go.RowKit Go.Proofs Go Go.Deep

section
variable {H : Type} {enc : TypeId × Value → H} {P : Program} {w : World} {base : Nat} {spare : Nat → Bool} {held : Bool}
/-- a slice of structs of one-cell fields: its elements' cells and their readings -/
theorem open_elems {t e : TypeId} {fs : Array Field} {fuel : Nat} {cs : List Value} {x : DataW H × List MemPlace} (ht : P.underlying t = some (.slice e)) (he : P.underlying e = some (.struct fs))
    (hone : oneCellFields P fs = true) (hC : P.cellsOf e = fs.size) (h : DataW.trod enc P w base spare held fuel t cs = some x) :
    (cs = [.slice none 0 0] ∧ x = (.nil, [])) ∨
    ∃ (a : Addr) (len cap m : Nat), cs = [.slice (some a) len cap] ∧ len ≤ cap ∧ cap ≤ maxLen ∧ len ≤ m ∧
      ∀ i, i < m → ∃ (n : Nat), ∀ (j : Nat) (f : Field), fs[j]? = some f → ∃ (v : Value) (y : DataW H × List MemPlace), w.cell? (a.add (i * fs.size + j)) = some v ∧ DataW.trod enc P w base spare held n f.type [v] = some y := by
  rcases open_slice ht h with h0 | ⟨a, len, cap, m, n, D, Pl, hcs, _, hl, hm, hmm, _, hi⟩
  · exact .inl h0
  · refine .inr ⟨a, len, cap, m, hcs, hl, hm, by rw [hmm]; split <;> omega, fun i him => ?_⟩
    obtain ⟨cs', hc, ht'⟩ := hi i him
    rw [hC] at hc
    obtain ⟨ys, n', _, _, hlen, hyl, hf⟩ := DataW.trod_struct he ht'
    obtain ⟨_, hcl, hat⟩ := World.cells?_some hc
    refine ⟨n', fun j f hj => ?_⟩
    obtain ⟨ho, hk⟩ := hone_of hone j f hj
    have hjl : j < fs.size := (Array.getElem?_eq_some_iff.1 hj).1
    have hcell := hat j hjl
    have hv : cs'[j]? = some (cs'[j]'(by omega)) := List.getElem?_eq_getElem (by omega)
    have h1 := hf j f hj
    rw [ho, hk] at h1
    have hone' : (cs'.drop j).take 1 = [cs'[j]'(by omega)] := by
      rw [List.drop_eq_getElem_cons (by omega)]
      rfl
    rw [hone'] at h1
    have hys : ys[j]? = some (ys[j]'(by omega)) := List.getElem?_eq_getElem (by omega)
    refine ⟨_, _, ?_, h1.trans hys⟩
    rw [← Go.Deep.add_add, hcell, hv]
end
/-- a list whose entries have what each place wants -/
theorem list_of {α : Type} {P : Nat → α → Prop} : ∀ n : Nat, (∀ i, i < n → ∃ x, P i x) → ∃ l : List α, l.length = n ∧ ∀ i x, l[i]? = some x → P i x
  | 0, _ => ⟨[], rfl, fun i x h => by simp at h⟩
  | n + 1, h => by
    obtain ⟨l, hl, hp⟩ := list_of n (fun i hi => h i (by omega))
    obtain ⟨y, hy⟩ := h n (by omega)
    refine ⟨l ++ [y], by simp [hl], fun i x hx => ?_⟩
    by_cases hi : i < l.length
    · rw [List.getElem?_append_left hi] at hx; exact hp i x hx
    · have : i < n + 1 := by
        have := (List.getElem?_eq_some_iff.1 hx).1
        simp [hl] at this; omega
      obtain rfl : i = n := by omega
      rw [← hl] at hx
      simp at hx
      subst hx; exact hy
section
variable {H : Type} {enc : TypeId × Value → H}
set_option maxRecDepth 100000 in
theorem open_ents {W : World} {fuel : Nat} {v : Value} {y : DataW H × List MemPlace} (h : DataW.trod enc Tryz.prog W 0 (fun _ => true) true fuel 84 [v] = some y) :
    ∃ (A : Option Addr) (l : List (Int × Int)) (c : Nat), v = .slice A l.length c ∧ Es W A l ∧ l.length ≤ 9223372036854775807 := by
  rcases open_elems Tryz.underlying84 Tryz.underlying99 (by kernel_rfl) (by kernel_rfl) h with ⟨hc, _⟩ | ⟨b, len, cap, m, hc, hl, hm, hmm, hi⟩
  · obtain rfl : v = .slice none 0 0 := by simpa using hc
    exact ⟨none, [], 0, rfl, Es.nil _ _, by simp⟩
  · obtain rfl : v = .slice (some b) len cap := by simpa using hc
    have key : ∀ i, i < len → ∃ x : Int × Int, W.cell? (b.add (i * 2)) = some (.int .i64 x.1) ∧ W.cell? ⟨(b.add (i * 2)).block, (b.add (i * 2)).off + 1, none⟩ = some (.int .i64 x.2) := by
      intro i hil
      obtain ⟨n, hat⟩ := hi i (by omega)
      obtain ⟨v0, y0, c0, r0⟩ := hat 0 _ rfl
      obtain ⟨v1, y1, c1, r1⟩ := hat 1 _ rfl
      obtain ⟨k, e0, _⟩ := DataW.trod_int Tryz.underlying3 r0
      obtain rfl : v0 = .int .i64 k := by simpa using e0
      obtain ⟨u, e1, _⟩ := DataW.trod_int Tryz.underlying3 r1
      obtain rfl : v1 = .int .i64 u := by simpa using e1
      have c1' : W.cell? (b.add (i * 2 + 1)) = some (.int .i64 u) := c1
      rw [← addr_add_add] at c1'
      exact ⟨(k, u), c0, c1'⟩
    obtain ⟨l, hfl, hp⟩ := list_of len key
    refine ⟨some b, l, cap, by rw [hfl], fun h0 => ⟨b, rfl, ?_, hp⟩, ?_⟩
    · have := (hp 0 _ (List.getElem?_eq_getElem h0)).1
      exact cell_lt this
    · unfold maxLen at hm; omega
set_option maxRecDepth 100000 in
theorem open_entries {W : World} {base : Nat} {v : Value} {d : DataW H} {p : List MemPlace} (hv : Value.okWide Tryz.prog W .any base 84 v) (h : DataW.Trod enc Tryz.prog W 0 (fun _ => true) true 84 v d p) :
    ∃ (A : Option Addr) (l : List (Int × Int)) (c : Nat), v = .slice A l.length c ∧ Es W A l ∧ l.length ≤ 9223372036854775807 := by
  obtain ⟨a, len, cap, rfl⟩ := okWide_slice Tryz.underlying84 hv
  obtain ⟨fuel, hf⟩ := h
  exact open_ents hf
end
end Go.Proofs.YtolkijelldlmeaaGreatDoor

namespace Go.Proofs.YtolkijelldlmeaaGreatDoor
open Go.Joins Go.ChangeShapes Go.WideShapes Go.ChangeAt Go.WideMaps Go.WideElems Go.RowKit Go.Proofs Go Go.Deep

/-- what is asked of the types: a struct of four ints and a slice of itself -/
structure TermTy (P : Program) (ts tt ti : TypeId) : Prop where
  hs : P.underlying ts = some (.slice tt)
  hi : P.underlying ti = some (.int .i64)
  hC : P.cellsOf tt = 5
  hI : P.cellsOf ti = 1
  hS : P.cellsOf ts = 1
  ht : ∃ f0 f1 f2 f3 f4 : Field, P.underlying tt = some (.struct #[f0, f1, f2, f3, f4]) ∧ (f0.offset = 0 ∧ f1.offset = 1 ∧ f2.offset = 2 ∧ f3.offset = 3 ∧ f4.offset = 4) ∧ (f0.type = ti ∧ f1.type = ti ∧ f2.type = ti ∧ f3.type = ti ∧ f4.type = ts)
section
variable {H : Type} {enc : TypeId × Value → H} {P : Program} {W : World} {ts tt ti : TypeId}
/-- the cells of a term, given how its kids' slice is opened -/
theorem open_tcells (T : TermTy P ts tt ti) {n : Nat} {cs : List Value} {y : DataW H × List MemPlace} (hl : cs.length = 5) (h : DataW.trod enc P W 0 (fun _ => true) true n tt cs = some y)
    (ih : ∀ m, m < n → ∀ (v : Value) (y : DataW H × List MemPlace), DataW.trod enc P W 0 (fun _ => true) true m ts [v] = some y → ∃ (A : Option Addr) (ks : List TT) (c : Nat), v = .slice A ks.length c ∧ TT.KS W A ks ∧ (∀ x ∈ ks, TT.Mem W x) ∧ ks.length ≤ 9223372036854775807) :
    ∃ t : TT, cs = t.cells ∧ TT.Mem W t := by
  obtain ⟨f0, f1, f2, f3, f4, ht, ⟨o0, o1, o2, o3, o4⟩, y0, y1, y2, y3, y4⟩ := T.ht
  match cs, hl with
  | [c0, c1, c2, c3, c4], _ =>
    obtain ⟨xs, m, rfl, _, _, hxl, hall⟩ := DataW.trod_struct ht h
    have hx : ∀ j, j < 5 → ∃ y, xs[j]? = some y := fun j hj => ⟨_, List.getElem?_eq_getElem (show j < xs.length by rw [hxl]; exact hj)⟩
    obtain ⟨z0, e0⟩ := hx 0 (by omega)
    obtain ⟨z1, e1⟩ := hx 1 (by omega)
    obtain ⟨z2, e2⟩ := hx 2 (by omega)
    obtain ⟨z3, e3⟩ := hx 3 (by omega)
    obtain ⟨z4, e4⟩ := hx 4 (by omega)
    have h0 := (hall 0 f0 rfl).trans e0
    have h1 := (hall 1 f1 rfl).trans e1
    have h2 := (hall 2 f2 rfl).trans e2
    have h3 := (hall 3 f3 rfl).trans e3
    have h4 := (hall 4 f4 rfl).trans e4
    rw [o0, y0, T.hI] at h0
    rw [o1, y1, T.hI] at h1
    rw [o2, y2, T.hI] at h2
    rw [o3, y3, T.hI] at h3
    rw [o4, y4, T.hS] at h4
    have h0 : DataW.trod enc P W 0 (fun _ => true) true m ti [c0] = some z0 := h0
    have h1 : DataW.trod enc P W 0 (fun _ => true) true m ti [c1] = some z1 := h1
    have h2 : DataW.trod enc P W 0 (fun _ => true) true m ti [c2] = some z2 := h2
    have h3 : DataW.trod enc P W 0 (fun _ => true) true m ti [c3] = some z3 := h3
    have h4 : DataW.trod enc P W 0 (fun _ => true) true m ts [c4] = some z4 := h4
    obtain ⟨k, q0, _⟩ := DataW.trod_int T.hi h0
    obtain ⟨f, q1, _⟩ := DataW.trod_int T.hi h1
    obtain ⟨o, q2, _⟩ := DataW.trod_int T.hi h2
    obtain ⟨v, q3, _⟩ := DataW.trod_int T.hi h3
    obtain rfl : c0 = .int .i64 k := by simpa using q0
    obtain rfl : c1 = .int .i64 f := by simpa using q1
    obtain rfl : c2 = .int .i64 o := by simpa using q2
    obtain rfl : c3 = .int .i64 v := by simpa using q3
    obtain ⟨A, ks, c, rfl, HK, HM, hkl⟩ := ih m (by omega) c4 z4 h4
    exact ⟨.mk k f o v A c ks, rfl, TT.Mem_iff.2 ⟨HK, hkl, HM⟩⟩
/-- a slice of terms -/
theorem open_terms (T : TermTy P ts tt ti) : ∀ (fuel : Nat) (v : Value) (y : DataW H × List MemPlace), DataW.trod enc P W 0 (fun _ => true) true fuel ts [v] = some y →
    ∃ (A : Option Addr) (ks : List TT) (c : Nat), v = .slice A ks.length c ∧ TT.KS W A ks ∧ (∀ x ∈ ks, TT.Mem W x) ∧ ks.length ≤ 9223372036854775807 := by
  intro fuel
  induction fuel using Nat.strongRecOn with
  | _ fuel ih =>
    intro v y h
    rcases DataW.trod_slice T.hs h with ⟨hc, _⟩ | ⟨b, len, cap, elems, rest, n, rfl, hc, _, _, hl, hm, hel, hi, _⟩
    · obtain rfl : v = .slice none 0 0 := by simpa using hc
      exact ⟨none, [], 0, rfl, fun h => absurd h (by simp), by simp, by simp⟩
    · obtain rfl : v = .slice (some b) len cap := by simpa using hc
      have key : ∀ i, i < len → ∃ x : TT, (W.cell? (b.add (i * 5)) = some (.int .i64 x.k) ∧ W.cell? ⟨(b.add (i * 5)).block, (b.add (i * 5)).off + 1, none⟩ = some (.int .i64 x.f) ∧ W.cell? ⟨(b.add (i * 5)).block, (b.add (i * 5)).off + 2, none⟩ = some (.int .i64 x.o) ∧ W.cell? ⟨(b.add (i * 5)).block, (b.add (i * 5)).off + 3, none⟩ = some (.int .i64 x.v) ∧ W.cell? ⟨(b.add (i * 5)).block, (b.add (i * 5)).off + 4, none⟩ = some (.slice x.A x.ks.length x.c)) ∧ TT.Mem W x := by
        intro i hil
        have he := hi i hil
        rw [List.getElem?_eq_getElem (show i < elems.length by omega)] at he
        obtain ⟨cs, hcc, ht'⟩ := Option.bind_eq_some_iff.1 he
        rw [T.hC] at hcc
        obtain ⟨_, hcl, hat⟩ := World.cells?_some hcc
        obtain ⟨x, rfl, HM⟩ := open_tcells T hcl ht' fun m hm => ih m (by omega)
        have c0 : W.cell? (b.add (i * 5 + 0)) = some (.int .i64 x.k) := by rw [← Go.Deep.add_add]; exact hat 0 (by omega)
        have c1 : W.cell? (b.add (i * 5 + 1)) = some (.int .i64 x.f) := by rw [← Go.Deep.add_add]; exact hat 1 (by omega)
        have c2 : W.cell? (b.add (i * 5 + 2)) = some (.int .i64 x.o) := by rw [← Go.Deep.add_add]; exact hat 2 (by omega)
        have c3 : W.cell? (b.add (i * 5 + 3)) = some (.int .i64 x.v) := by rw [← Go.Deep.add_add]; exact hat 3 (by omega)
        have c4 : W.cell? (b.add (i * 5 + 4)) = some (.slice x.A x.ks.length x.c) := by rw [← Go.Deep.add_add]; exact hat 4 (by omega)
        rw [← addr_add_add] at c1 c2 c3 c4
        exact ⟨x, ⟨c0, c1, c2, c3, c4⟩, HM⟩
      obtain ⟨ks, hkl, hp⟩ := list_of len key
      refine ⟨some b, ks, cap, by rw [hkl], fun h0 => ⟨b, rfl, ?_, fun i x hx => (hp i x hx).1⟩, fun x hx => ?_, ?_⟩
      · exact cell_lt (hp 0 _ (List.getElem?_eq_getElem h0)).1.1
      · obtain ⟨i, hi'⟩ := List.getElem?_of_mem hx
        exact (hp i x hi').2
      · unfold maxLen at hm; omega
/-- an argument of this type -/
theorem open_term (T : TermTy P ts tt ti) {v : Value} {d : DataW H} {p : List MemPlace} (hcs : v.cells.size = 5) (h : DataW.Trod enc P W 0 (fun _ => true) true tt v d p) : ∃ t : TT, v.cells.toList = t.cells ∧ TT.Mem W t := by
  obtain ⟨fuel, hf⟩ := h
  exact open_tcells T (by rw [Array.length_toList]; exact hcs) hf fun m _ => open_terms T m
end
end Go.Proofs.YtolkijelldlmeaaGreatDoor

namespace Go.Proofs.YtolkijelldlmeaaGreatDoor
open Go.Joins Go.ChangeShapes Go.WideShapes Go.ChangeAt Go.WideMaps Go.WideElems Go.RowKit Go.Proofs Go Go.Deep

theorem star : "*" ++ "errors.errorString" = "*errors.errorString" := by decide
theorem row_star (u : TypeId) (h : Tryz.prog.typeName? 3 u = some "*errors.errorString") : u = 384 :=
  typeName_ptr_named (nm := "errors.errorString") (by rw [star]; kernel_rfl) (by kernel_rfl) (by decide) u (by rw [star]; exact h)
theorem evar_of_laid {n : String} {text : List UInt8} {r : List (String × DataW Unit)} {W : World} {g : Nat}
    (h : laidMet Tryz.prog ((n, .iface "*errors.errorString" (.ptr (.agg [.lit (.string text)]))) :: r) W) (hg : Tryz.prog.globalNamed n = some g) (ht : (Tryz.prog.globals[g]?).map (·.type) = some 190) : Evar W g := by
  obtain ⟨a, s, hv, _, _, _⟩ := laid_sentinel h hg ht Tryz.underlying190 row_star Tryz.underlying384 Tryz.underlying386 rfl rfl Tryz.underlying9 (by kernel_rfl) (by kernel_rfl)
  exact ⟨_, by simpa using World.var?_cell hg hv 0, .inr ⟨_, _, rfl⟩⟩
theorem env_of {w : World} {x0 x1 x2 : String × DataW Unit} {t1 t2 : List UInt8} {r : List (String × DataW Unit)} (hT : Tab w) (h : w.ShapedOpen Tryz.prog)
    (hL : laidMetH Tryz.prog (x0 :: x1 :: x2 :: ("strconv.ErrRange", .iface "*errors.errorString" (.ptr (.agg [.lit (.string t1)]))) :: ("strconv.ErrSyntax", .iface "*errors.errorString" (.ptr (.agg [.lit (.string t2)]))) :: r) w)
    (hp : laidMetH Tryz.prog (x0 :: x1 :: x2 :: ("strconv.ErrRange", .iface "*errors.errorString" (.ptr (.agg [.lit (.string t1)]))) :: ("strconv.ErrSyntax", .iface "*errors.errorString" (.ptr (.agg [.lit (.string t2)]))) :: r) w → laidMet Tryz.prog (x0 :: x1 :: x2 :: ("strconv.ErrRange", .iface "*errors.errorString" (.ptr (.agg [.lit (.string t1)]))) :: ("strconv.ErrSyntax", .iface "*errors.errorString" (.ptr (.agg [.lit (.string t2)]))) :: r) w) : Env w where
  tab := hT
  mx := cell_of_shapedOpen_int (g := 0) (zero := #[.int .i64 0]) (t := 3) h (of_decide_eq_true (by kernel_rfl)) (by kernel_rfl) rfl (by kernel_rfl) (by kernel_rfl) Tryz.underlying3
  e2 := evar_of_laid (hp hL).tail.tail.tail (by kernel_rfl) (by kernel_rfl)
  e1 := evar_of_laid (hp hL).tail.tail.tail.tail (by kernel_rfl) (by kernel_rfl)
theorem termTy : TermTy Tryz.prog 53 55 3 where
  hs := Tryz.underlying53
  hi := Tryz.underlying3
  hC := by kernel_rfl
  hI := by kernel_rfl
  hS := by kernel_rfl
  ht := ⟨_, _, _, _, _, Tryz.underlying55, ⟨rfl, rfl, rfl, rfl, rfl⟩, rfl, rfl, rfl, rfl, rfl⟩
section
variable {H : Type} {enc : TypeId × Value → H}
set_option maxRecDepth 100000 in
theorem open_trm {W : World} {base : Nat} {v : Value} {d : DataW H} {p : List MemPlace} (hv : Value.okWide Tryz.prog W .any base 55 v) (h : DataW.Trod enc Tryz.prog W 0 (fun _ => true) true 55 v d p) :
    ∃ t : TT, v = t.val ∧ t.Mem W := by
  obtain ⟨cs, rfl, hsz⟩ := okWide_struct Tryz.underlying55 hv
  have hC : Tryz.prog.cellsOf 55 = 5 := by kernel_rfl
  rw [hC] at hsz
  obtain ⟨t, ht, hM⟩ := open_term termTy (v := .agg cs) hsz h
  refine ⟨t, ?_, hM⟩
  have h2 : cs.toList = t.cells := ht
  obtain ⟨l⟩ := cs
  have h3 : l = t.cells := h2
  rw [h3]; rfl
end
end Go.Proofs.YtolkijelldlmeaaGreatDoor

namespace Go.Proofs.YtolkijelldlmeaaGreatDoor
open Go Go.Proofs

section
variable {H : Type} {enc : TypeId × Value → H}
theorem handed_and_shaped {a : Assume} {C : Checked} {os : Os} {f : FuncId} {fn : Func} {s : ChangeSpec} {conds : List PathCond} {apart fresh handsOn again : Bool} {X : World → Array Value → Prop}
    (hX : ∀ (w w' : World) (args : Array Value), w.heap = w'.heap → X w args → X w' args)
    (own : ownKnob C.prog.godebug = none) (started : os.Started) (noInit : C.prog.inits.idxOf? f = none) (hfn : C.prog.funcs[f]? = some fn)
    (witness : ∃ (w : World) (tape : Tape) (i : Input), w.os = os ∧ (w.forCall tape i).Shaped C.prog ∧ i.vars = [] ∧ Input.okWide C.prog (w.forCall tape i) .any w.heap.size f i ∧
      ((s.pre enc C.prog fn conds apart (w.forCall tape i).memory i.args ∧ X (w.forCall tape i).memory i.args) ∧ sizedMet enc C.prog fn (OpenSpec.ofChange s) apart (w.forCall tape i).memory i.args) ∧ a.holds C.prog (lone (Frame.enter C.prog f i.args .normal) [] (w.forCall tape i)))
    (contract : ∀ (W : World) (base : Nat) (args : Array Value) (ds gs : List (DataW H)) (before : List MemPlace),
      (∀ (j : Nat) t v, fn.params[j]? = some t → args[j]? = some v → Value.okWide C.prog W .any base t v) →
      DataW.Whole enc C.prog fn.params.toList s.vars apart W args.toList ds gs before → X W args → W.ShapedOpen C.prog →
      Calls C.prog f args W fun e W' => ∃ v, e = .returned v ∧ s.post enc C.prog fn apart fresh handsOn again W args v W') :
    ReturnsInHanded a C os f .any (fun w args => (s.pre enc C.prog fn conds apart w args ∧ X w args) ∧ sizedMet enc C.prog fn (OpenSpec.ofChange s) apart w args) (s.post enc C.prog fn apart fresh handsOn again) := by
  refine returnsInHanded_of_calls own started noInit witness ?_
  intro w tape i _ hsh _ hok hpre _
  obtain ⟨_, _, _, fn', hfn', _, _, _, _, hval⟩ := hok
  obtain rfl : fn' = fn := Option.some.inj (hfn'.symm.trans hfn)
  obtain ⟨⟨⟨ds, gs, before, hw, _⟩, hx⟩, _⟩ := hpre
  refine (contract (w.forCall tape i) w.heap.size i.args ds gs before hval (DataW.Whole.of_heap (w' := w.forCall tape i) (by rfl) hw) (hX _ _ _ (by rfl) hx) hsh).mono fun e W' ⟨v, he, hp⟩ => ?_
  subst he
  exact ChangeSpec.post_blind hp
end
end Go.Proofs.YtolkijelldlmeaaGreatDoor
