/- Arguments that are lists of hoards, opened. -/
import Derived.Test.YthempimelfmipaaGreatDoorText3
import Derived.Test.YthempimelfmipaaGreatDoorBnat
import Derived.Test.YthempimelfmipaaGreatDoorKeep
import Derived.Test.YthempimelfmipaaGreatDoorRows
import Derived.Test.YthempimelfmipaaGreatDoorTie
import Derived.ProofKit
import Derived.LaidMore
import Derived.OpenShut
import Derived.Stop.Joined
import Derived.SevenTiedAt
import Derived.Carry
import Derived.Lib.LaidU8
import Derived.Lib.SmallJoins
import Derived.Test.YthempimelfmipaaGreatDoorHb
import Derived.Deep.Slices
import Derived.Deep.Fields
import Derived.ChangeSame
import Derived.Test.YthempimelfmipaaGreatDoorSxmM
namespace Go.Proofs.YthempimelfmipaaGreatDoor
open Go.Joins Go.ChangeShapes Go.WideShapes Go.ChangeAt Go.WideMaps Go.WideElems Go.RowKit Go.Proofs Go

theorem own : ownKnob Tryz.prog.godebug = none := by kernel_rfl
theorem laidOut : laidOutB Tryz.prog = true := by kernel_rfl

section
variable {H : Type} {enc : TypeId × Value → H} {P : Program}
/-- the arguments read as they did: below the old end of memory nothing has turned -/
theorem trodAll_stay (hl : laidOutB P = true) {W W' : World} (hb : Below W.heap.size W W') {sp : Nat → Bool} : ∀ {ts : List TypeId} {vs : List Value} {ds : List (DataW H)} {ps : List MemPlace},
    (∀ t ∈ ts, P.readableRec t = true ∧ t < P.types.size) → DataW.TrodAll enc P W 0 (fun _ => true) true ts vs ds ps → (∀ x ∈ ps, x.block < W.heap.size) → (∀ x ∈ ps, sp x.block = true) → DataW.TrodAll enc P W' 0 sp true ts vs ds ps
  | [], vs, ds, ps, _, h, _, _ => by
    obtain ⟨rfl, rfl, rfl⟩ := trodAll_nil h
    exact trodAll_mk0
  | t :: ts, vs, ds, ps, ht, h, hlt, hs => by
    obtain ⟨v, vs', d, ds', p, q, rfl, rfl, rfl, h1, h2⟩ := trodAll_cons h
    obtain ⟨r1, r2⟩ := ht t List.mem_cons_self
    refine ⟨p, q, ?_, trodAll_stay hl hb (fun t h => ht t (List.mem_cons_of_mem _ h)) h2 (fun x hx => hlt x (List.mem_append_right _ hx)) (fun x hx => hs x (List.mem_append_right _ hx)), rfl⟩
    exact Trod_stays hl r1 r2 h1 (fun x hx => hb.same (hlt x (List.mem_append_left _ hx))) (fun x hx => hs x (List.mem_append_left _ hx))
/-- a law's end: it has returned true, and below the old end of memory nothing has turned -/
theorem law_post {f : Func} {s : ChangeSpec} {W W' : World} {args : Array Value} {ds : List (DataW H)} {before : List MemPlace} (hl : laidOutB P = true) (hp : ∀ t ∈ f.params.toList, P.readableRec t = true ∧ t < P.types.size) {tb : TypeId} (hr : f.resultTypes = #[tb]) (htb : P.underlying tb = some .bool)
    (hvars : s.vars = []) (hfn : s.fn H (ds ++ []) = { results := [.lit (.bool true)], args := ds, vars := [] })
    (hW : DataW.Whole enc P f.params.toList s.vars false W args.toList ds [] before) (hA : DataW.TrodAll enc P W 0 (fun _ => true) true f.params.toList args.toList ds before) (hb : Below W.heap.size W W') :
    s.post enc P f false true false false W args (.bool true) W' := by
  have hlt : ∀ p ∈ before, p.block < W.heap.size := fun p hp => hW.lt p hp
  have hold : ∀ p ∈ before, (fun b => decide (b < W.heap.size)) p.block = true := fun p hp => by simpa using hlt p hp
  have hok : ∀ (j : Nat) (t : TypeId) (r : Value), f.resultTypes[j]? = some t → ((Value.bool true).resultList f.resultTypes.size)[j]? = some r → Value.okWide P W' .any 0 t r := ok_one hr rfl (okWide_bool_mk htb _)
  have hres : ∀ (b : Nat) (sp : Nat → Bool) (hd : Bool), DataW.TrodAll enc P W' b sp hd f.resultTypes.toList ((Value.bool true).resultList f.resultTypes.size) (s.fn H (ds ++ [])).results [] := fun b sp hd => by
    rw [hfn, hr]; exact trodAll_mk1 (shut_bool htb _)
  have hargs : ∀ sp : Nat → Bool, (∀ p ∈ before, sp p.block = true) → DataW.TrodAll enc P W' 0 sp true f.params.toList args.toList (s.fn H (ds ++ [])).args before := fun sp hsp => by
    rw [hfn]; exact trodAll_stay hl hb hp hA hlt hsp
  have hvs : ∀ sp : Nat → Bool, DataW.TrodVars enc P W' sp s.vars (s.fn H (ds ++ [])).vars [] := fun sp => by
    rw [hfn, hvars]; simp [DataW.TrodVars]
  refine ⟨ds, [], before, [], before, [], hW, hres _ _ _, hargs _ hold, hvs _, World.keptBut_mono (fun p hp => ⟨hp, .inr (by simpa using hp)⟩) (hb.frame (· ∈ before)), fun _ => ?_⟩
  obtain ⟨_, _, _, _, _, hz, hn⟩ := hW
  refine ⟨hok, _, _, ([] ++ before) ++ [], ⟨[] ++ before, [], trodAll_append (hargs _ (fun _ _ => rfl)) (hres _ _ _), hvs _, rfl, ?_, ?_⟩, ?_⟩
  · intro b off hp
    have hin : MemPlace.cell b off ∈ before := by simpa using hp
    rw [hb.frozen (hlt _ hin)]
    exact hz b off hin
  · intro ha; cases ha
  · intro p hp _
    simpa using hp
end

theorem i64_bd {n : Int} (h : (Lit.int .i64 n).wf = true) : -9223372036854775808 ≤ n ∧ n ≤ 9223372036854775807 := by
  simp only [Lit.wf, Bool.and_eq_true, decide_eq_true_eq] at h
  have e1 : IntKind.i64.min = -9223372036854775808 := rfl
  have e2 : IntKind.i64.max = 9223372036854775807 := rfl
  rw [e1, e2] at h
  exact h
theorem lim_of {W : World} {zs : List Int} {a : Addr} {len cap : Nat} (hl : len ≤ cap) (hz : zs.length = cap) (hc : ∀ i, i < zs.length → W.cell? (a.add i) = some (.int .u32 (zs.getD i 0))) (hw : ∀ n ∈ zs, (Lit.int .u32 n).wf = true) :
    ∃ l : List Nat, Lim W (some a) cap l ∧ len = l.length := by
  have hr : ∀ i, i < zs.length → 0 ≤ zs.getD i 0 ∧ zs.getD i 0 < 4294967296 := fun i hi => by
    have h1 := hw (zs.getD i 0) (by simp [List.getD_eq_getElem?_getD, List.getElem?_eq_getElem hi])
    simp only [Lit.wf, Bool.and_eq_true, decide_eq_true_eq] at h1
    have e1 : IntKind.u32.min = 0 := rfl
    have e2 : IntKind.u32.max = 4294967295 := rfl
    rw [e1, e2] at h1
    omega
  have hat : ∀ j, j < len → at_ ((zs.take len).map Int.toNat) j = (zs.getD j 0).toNat := fun j hj => by
    have : j < zs.length := by omega
    simp [at_, hj, List.getD_eq_getElem?_getD, List.getElem?_eq_getElem this]
  refine ⟨(zs.take len).map Int.toNat, ⟨by simp; omega, fun j => ?_, fun h0 => ⟨a, rfl, ?_, fun j hj => ?_⟩⟩, by simp; omega⟩
  · by_cases hj : j < len
    · rw [hat j hj]; have := hr j (by omega); omega
    · rw [at_ge (by simp; omega)]; omega
  · have := hc 0 (by simp at h0; omega)
    rw [← addr_add_block a 0]
    exact cell_lt this
  · have hj' : j < len := by simp at hj; omega
    rw [hc j (by omega), hat j hj']
    have := hr j (by omega)
    congr 2
    omega
section
variable {H : Type} {enc : TypeId × Value → H}
set_option maxRecDepth 100000 in
theorem open_limbs {W : World} {n : Nat} {v : Value} {y : DataW H × List MemPlace} (h : DataW.trod enc Tryz.prog W 0 (fun _ => true) true n 31 [v] = some y) :
    ∃ A n c l, v = .slice A n c ∧ Lim W A c l ∧ n = l.length ∧ n ≤ 9223372036854775807 := by
  obtain ⟨xs, m, rfl, _, _, hxl, hall⟩ := DataW.trod_struct Tryz.underlying31 h
  have h0 := hall 0 _ rfl
  have hx : xs[0]? = some (xs[0]'(by rw [hxl]; decide)) := List.getElem?_eq_getElem _
  rw [hx] at h0
  have h1 : DataW.trod enc Tryz.prog W 0 (fun _ => true) true m 29 [v] = some (xs[0]'(by rw [hxl]; decide)) := h0
  rcases open_ints Tryz.underlying29 Tryz.underlying97 (by kernel_rfl) h1 with ⟨h2, _⟩ | ⟨a, len, cap, zs, h2, _, hl, hm, hz, _, hc, hw⟩
  · obtain rfl : v = .slice none 0 0 := by simpa using h2
    exact ⟨none, 0, 0, [], rfl, Lim.nil _ _ _, rfl, by omega⟩
  · obtain rfl : v = .slice (some a) len cap := by simpa using h2
    simp only [if_true] at hz
    obtain ⟨l, hL, hn⟩ := lim_of hl hz hc hw
    unfold maxLen at hm
    exact ⟨some a, len, cap, l, rfl, hL, hn, by omega⟩
end

set_option maxRecDepth 100000 in
theorem tab_of_reads {W : World} {d : DataW Unit} (hd : d = Lib.tabData .u64 Lib.pow10Tab) (h : Lib.VarReads Tryz.prog W "internal/strconv.uint64pow10" d) : Tab W := by
  subst hd
  obtain ⟨g, t, cs, fuel, p, h1, h2, h3, h4⟩ := h
  have hg : Tryz.prog.globalNamed "internal/strconv.uint64pow10" = some 0 := by kernel_rfl
  obtain rfl := Option.some.inj (hg.symm.trans h1)
  have ht : (Tryz.prog.globals[0]?).map (·.type) = some 168 := by kernel_rfl
  obtain rfl := Option.some.inj (ht.symm.trans h2)
  show Lib.TabIs _ _ _ _ _
  unfold Lib.TabIs
  rw [h3, ← Lib.cells_of_tab Tryz.underlying168 Tryz.underlying106 (by kernel_rfl) (by kernel_rfl) h4]
end Go.Proofs.YthempimelfmipaaGreatDoor

namespace Go.Proofs.YthempimelfmipaaGreatDoor
open Go.Joins Go.ChangeShapes Go.WideShapes Go.ChangeAt Go.WideMaps Go.WideElems Go.RowKit Go.Proofs Go Go.Deep

section
variable {H : Type} {enc : TypeId × Value → H} {P : Program} {w : World} {base : Nat} {spare : Nat → Bool} {held : Bool}
/-- a slice of structs of one-cell fields: its elements' cells and their readings -/
theorem open_elems {t e : TypeId} {fs : Array Field} {fuel : Nat} {cs : List Value} {x : DataW H × List MemPlace} (ht : P.underlying t = some (.slice e)) (he : P.underlying e = some (.struct fs))
    (hone : oneCellFields P fs = true) (hC : P.cellsOf e = fs.size) (h : DataW.trod enc P w base spare held fuel t cs = some x) :
    (cs = [.slice none 0 0] ∧ x = (.nil, [])) ∨
    ∃ (a : Addr) (len cap m : Nat), cs = [.slice (some a) len cap] ∧ len ≤ cap ∧ cap ≤ maxLen ∧ len ≤ m ∧
      ∀ i, i < m → ∃ (n : Nat), ∀ (j : Nat) (f : Field), fs[j]? = some f → ∃ (v : Value) (y : DataW H × List MemPlace), w.cell? (a.add (i * fs.size + j)) = some v ∧ DataW.trod enc P w base spare held n f.type [v] = some y := by
  rcases open_slice ht h with h0 | ⟨a, len, cap, m, n, D, Pl, hcs, _, hl, hm, hmm, _, hi⟩
  · exact .inl h0
  · refine .inr ⟨a, len, cap, m, hcs, hl, hm, by rw [hmm]; split <;> omega, fun i him => ?_⟩
    obtain ⟨cs', hc, ht'⟩ := hi i him
    rw [hC] at hc
    obtain ⟨ys, n', _, _, hlen, hyl, hf⟩ := DataW.trod_struct he ht'
    obtain ⟨_, hcl, hat⟩ := World.cells?_some hc
    refine ⟨n', fun j f hj => ?_⟩
    obtain ⟨ho, hk⟩ := hone_of hone j f hj
    have hjl : j < fs.size := (Array.getElem?_eq_some_iff.1 hj).1
    have hcell := hat j hjl
    have hv : cs'[j]? = some (cs'[j]'(by omega)) := List.getElem?_eq_getElem (by omega)
    have h1 := hf j f hj
    rw [ho, hk] at h1
    have hone' : (cs'.drop j).take 1 = [cs'[j]'(by omega)] := by
      rw [List.drop_eq_getElem_cons (by omega)]
      rfl
    rw [hone'] at h1
    have hys : ys[j]? = some (ys[j]'(by omega)) := List.getElem?_eq_getElem (by omega)
    refine ⟨_, _, ?_, h1.trans hys⟩
    rw [← Go.Deep.add_add, hcell, hv]
end
/-- a list whose entries have what each place wants -/
theorem list_of {α : Type} {P : Nat → α → Prop} : ∀ n : Nat, (∀ i, i < n → ∃ x, P i x) → ∃ l : List α, l.length = n ∧ ∀ i x, l[i]? = some x → P i x
  | 0, _ => ⟨[], rfl, fun i x h => by simp at h⟩
  | n + 1, h => by
    obtain ⟨l, hl, hp⟩ := list_of n (fun i hi => h i (by omega))
    obtain ⟨y, hy⟩ := h n (by omega)
    refine ⟨l ++ [y], by simp [hl], fun i x hx => ?_⟩
    by_cases hi : i < l.length
    · rw [List.getElem?_append_left hi] at hx; exact hp i x hx
    · have : i < n + 1 := by
        have := (List.getElem?_eq_some_iff.1 hx).1
        simp [hl] at this; omega
      obtain rfl : i = n := by omega
      rw [← hl] at hx
      simp at hx
      subst hx; exact hy
section
variable {H : Type} {enc : TypeId × Value → H}
set_option maxRecDepth 100000 in
theorem open_ents {W : World} {fuel : Nat} {v : Value} {y : DataW H × List MemPlace} (h : DataW.trod enc Tryz.prog W 0 (fun _ => true) true fuel 22 [v] = some y) :
    ∃ (A : Option Addr) (l : List (Int × Int)) (c : Nat), v = .slice A l.length c ∧ Es W A l ∧ l.length ≤ 9223372036854775807 := by
  rcases open_elems Tryz.underlying22 Tryz.underlying46 (by kernel_rfl) (by kernel_rfl) h with ⟨hc, _⟩ | ⟨b, len, cap, m, hc, hl, hm, hmm, hi⟩
  · obtain rfl : v = .slice none 0 0 := by simpa using hc
    exact ⟨none, [], 0, rfl, Es.nil _ _, by simp⟩
  · obtain rfl : v = .slice (some b) len cap := by simpa using hc
    have key : ∀ i, i < len → ∃ x : Int × Int, W.cell? (b.add (i * 2)) = some (.int .i64 x.1) ∧ W.cell? ⟨(b.add (i * 2)).block, (b.add (i * 2)).off + 1, none⟩ = some (.int .i64 x.2) := by
      intro i hil
      obtain ⟨n, hat⟩ := hi i (by omega)
      obtain ⟨v0, y0, c0, r0⟩ := hat 0 _ rfl
      obtain ⟨v1, y1, c1, r1⟩ := hat 1 _ rfl
      obtain ⟨k, e0, _⟩ := DataW.trod_int Tryz.underlying3 r0
      obtain rfl : v0 = .int .i64 k := by simpa using e0
      obtain ⟨u, e1, _⟩ := DataW.trod_int Tryz.underlying3 r1
      obtain rfl : v1 = .int .i64 u := by simpa using e1
      have c1' : W.cell? (b.add (i * 2 + 1)) = some (.int .i64 u) := c1
      rw [← addr_add_add] at c1'
      exact ⟨(k, u), c0, c1'⟩
    obtain ⟨l, hfl, hp⟩ := list_of len key
    refine ⟨some b, l, cap, by rw [hfl], fun h0 => ⟨b, rfl, ?_, hp⟩, ?_⟩
    · have := (hp 0 _ (List.getElem?_eq_getElem h0)).1
      exact cell_lt this
    · unfold maxLen at hm; omega
set_option maxRecDepth 100000 in
theorem open_entries {W : World} {base : Nat} {v : Value} {d : DataW H} {p : List MemPlace} (hv : Value.okWide Tryz.prog W .any base 22 v) (h : DataW.Trod enc Tryz.prog W 0 (fun _ => true) true 22 v d p) :
    ∃ (A : Option Addr) (l : List (Int × Int)) (c : Nat), v = .slice A l.length c ∧ Es W A l ∧ l.length ≤ 9223372036854775807 := by
  obtain ⟨a, len, cap, rfl⟩ := okWide_slice Tryz.underlying22 hv
  obtain ⟨fuel, hf⟩ := h
  exact open_ents hf
set_option maxRecDepth 100000 in
theorem open_hoard {W : World} {base : Nat} {v : Value} {d : DataW H} {p : List MemPlace} (hv : Value.okWide Tryz.prog W .any base 26 v) (h : DataW.Trod enc Tryz.prog W 0 (fun _ => true) true 26 v d p) :
    ∃ (id : Int) (A : Option Addr) (l : List (Int × Int)) (c : Nat) (f t : Int), v = .agg #[.int .i64 id, .slice A l.length c, .int .i64 f, .int .i64 t] ∧ Es W A l ∧ l.length ≤ 9223372036854775807 := by
  obtain ⟨cs, rfl, hsz⟩ := okWide_struct Tryz.underlying26 hv
  obtain ⟨cl⟩ := cs
  have hC : Tryz.prog.cellsOf 26 = 4 := by kernel_rfl
  rw [hC] at hsz
  match cl, hsz with
  | [c0, c1, c2, c3], _ =>
    obtain ⟨fuel, hf⟩ := h
    obtain ⟨xs, m, rfl, _, _, hxl, hall⟩ := DataW.trod_struct Tryz.underlying26 hf
    have hx : ∀ j, j < 3 → ∃ y, xs[j]? = some y := fun j hj => ⟨_, List.getElem?_eq_getElem (show j < xs.length by rw [hxl]; exact hj)⟩
    obtain ⟨y0, e0⟩ := hx 0 (by omega)
    obtain ⟨y1, e1⟩ := hx 1 (by omega)
    obtain ⟨y2, e2⟩ := hx 2 (by omega)
    have h0 : DataW.trod enc Tryz.prog W 0 (fun _ => true) true m 3 [c0] = some y0 := (hall 0 _ rfl).trans e0
    have h1 : DataW.trod enc Tryz.prog W 0 (fun _ => true) true m 22 [c1] = some y1 := (hall 1 _ rfl).trans e1
    have h2 : DataW.trod enc Tryz.prog W 0 (fun _ => true) true m 24 [c2, c3] = some y2 := (hall 2 _ rfl).trans e2
    obtain ⟨id, q0, _⟩ := DataW.trod_int Tryz.underlying3 h0
    obtain rfl : c0 = .int .i64 id := by simpa using q0
    obtain ⟨A, l, c, rfl, HA, hl⟩ := open_ents h1
    obtain ⟨zs, m2, rfl, _, _, hzl, hall2⟩ := DataW.trod_struct Tryz.underlying24 h2
    have hz : ∀ j, j < 2 → ∃ y, zs[j]? = some y := fun j hj => ⟨_, List.getElem?_eq_getElem (show j < zs.length by rw [hzl]; exact hj)⟩
    obtain ⟨z0, g0⟩ := hz 0 (by omega)
    obtain ⟨z1, g1⟩ := hz 1 (by omega)
    have k0 : DataW.trod enc Tryz.prog W 0 (fun _ => true) true m2 3 [c2] = some z0 := (hall2 0 _ rfl).trans g0
    have k1 : DataW.trod enc Tryz.prog W 0 (fun _ => true) true m2 3 [c3] = some z1 := (hall2 1 _ rfl).trans g1
    obtain ⟨f, q2, _⟩ := DataW.trod_int Tryz.underlying3 k0
    obtain rfl : c2 = .int .i64 f := by simpa using q2
    obtain ⟨t, q3, _⟩ := DataW.trod_int Tryz.underlying3 k1
    obtain rfl : c3 = .int .i64 t := by simpa using q3
    exact ⟨id, A, l, c, f, t, rfl, HA, hl⟩
end
end Go.Proofs.YthempimelfmipaaGreatDoor

namespace Go.Proofs.YthempimelfmipaaGreatDoor
open Go.Joins Go.ChangeShapes Go.WideShapes Go.ChangeAt Go.WideMaps Go.WideElems Go.RowKit Go.Proofs Go Go.Deep

section
variable {H : Type} {enc : TypeId × Value → H}
set_option maxRecDepth 100000 in
theorem open_hcells {W : World} {fuel : Nat} {cs : List Value} {y : DataW H × List MemPlace} (hsz : cs.length = 4) (hf : DataW.trod enc Tryz.prog W 0 (fun _ => true) true fuel 26 cs = some y) :
    ∃ x : HR, cs = x.cells ∧ Es W x.A x.l ∧ x.l.length ≤ 9223372036854775807 := by
  match cs, hsz with
  | [c0, c1, c2, c3], _ =>
    obtain ⟨xs, m, rfl, _, _, hxl, hall⟩ := DataW.trod_struct Tryz.underlying26 hf
    have hx : ∀ j, j < 3 → ∃ y, xs[j]? = some y := fun j hj => ⟨_, List.getElem?_eq_getElem (show j < xs.length by rw [hxl]; exact hj)⟩
    obtain ⟨y0, e0⟩ := hx 0 (by omega)
    obtain ⟨y1, e1⟩ := hx 1 (by omega)
    obtain ⟨y2, e2⟩ := hx 2 (by omega)
    have h0 : DataW.trod enc Tryz.prog W 0 (fun _ => true) true m 3 [c0] = some y0 := (hall 0 _ rfl).trans e0
    have h1 : DataW.trod enc Tryz.prog W 0 (fun _ => true) true m 22 [c1] = some y1 := (hall 1 _ rfl).trans e1
    have h2 : DataW.trod enc Tryz.prog W 0 (fun _ => true) true m 24 [c2, c3] = some y2 := (hall 2 _ rfl).trans e2
    obtain ⟨id, q0, _⟩ := DataW.trod_int Tryz.underlying3 h0
    obtain rfl : c0 = .int .i64 id := by simpa using q0
    obtain ⟨A, l, c, rfl, HA, hl⟩ := open_ents h1
    obtain ⟨zs, m2, rfl, _, _, hzl, hall2⟩ := DataW.trod_struct Tryz.underlying24 h2
    have hz : ∀ j, j < 2 → ∃ y, zs[j]? = some y := fun j hj => ⟨_, List.getElem?_eq_getElem (show j < zs.length by rw [hzl]; exact hj)⟩
    obtain ⟨z0, g0⟩ := hz 0 (by omega)
    obtain ⟨z1, g1⟩ := hz 1 (by omega)
    have k0 : DataW.trod enc Tryz.prog W 0 (fun _ => true) true m2 3 [c2] = some z0 := (hall2 0 _ rfl).trans g0
    have k1 : DataW.trod enc Tryz.prog W 0 (fun _ => true) true m2 3 [c3] = some z1 := (hall2 1 _ rfl).trans g1
    obtain ⟨f, q2, _⟩ := DataW.trod_int Tryz.underlying3 k0
    obtain rfl : c2 = .int .i64 f := by simpa using q2
    obtain ⟨t, q3, _⟩ := DataW.trod_int Tryz.underlying3 k1
    obtain rfl : c3 = .int .i64 t := by simpa using q3
    exact ⟨⟨id, A, c, l, f, t⟩, rfl, HA, hl⟩
set_option maxRecDepth 100000 in
theorem open_hoards {W : World} {base : Nat} {v : Value} {d : DataW H} {p : List MemPlace} (hv : Value.okWide Tryz.prog W .any base 55 v) (h : DataW.Trod enc Tryz.prog W 0 (fun _ => true) true 55 v d p) :
    ∃ (A : Option Addr) (hs : List HR) (c : Nat), v = .slice A hs.length c ∧ HL W A hs ∧ hs.length ≤ 9223372036854775807 := by
  obtain ⟨a, len, cap, rfl⟩ := okWide_slice Tryz.underlying55 hv
  obtain ⟨fuel, hf⟩ := h
  have hC : Tryz.prog.cellsOf 26 = 4 := by kernel_rfl
  rcases open_slice Tryz.underlying55 hf with ⟨hc, _⟩ | ⟨b, len', cap', m, n, D, Pl, hc, _, hl, hm, hmm, _, hi⟩
  · obtain ⟨rfl, rfl, rfl⟩ : a = none ∧ len = 0 ∧ cap = 0 := by simpa [Value.cells] using hc
    exact ⟨none, [], 0, rfl, ⟨fun h => absurd h (by simp), fun i x h => by simp at h⟩, by simp⟩
  · obtain ⟨rfl, rfl, rfl⟩ : a = some b ∧ len = len' ∧ cap = cap' := by simpa [Value.cells] using hc
    have hlm : len ≤ m := by rw [hmm]; split <;> omega
    have key : ∀ i, i < len → ∃ x : HR, (W.cell? (b.add (i * 4)) = some (.int .i64 x.id) ∧ W.cell? ⟨(b.add (i * 4)).block, (b.add (i * 4)).off + 1, none⟩ = some (.slice x.A x.l.length x.c) ∧ W.cell? ⟨(b.add (i * 4)).block, (b.add (i * 4)).off + 2, none⟩ = some (.int .i64 x.f) ∧ W.cell? ⟨(b.add (i * 4)).block, (b.add (i * 4)).off + 3, none⟩ = some (.int .i64 x.t)) ∧ Es W x.A x.l ∧ x.l.length ≤ 9223372036854775807 := by
      intro i hil
      obtain ⟨cs', hcc, ht'⟩ := hi i (by omega)
      rw [hC] at hcc
      obtain ⟨_, hcl, hat⟩ := World.cells?_some hcc
      obtain ⟨x, rfl, HE, hxl⟩ := open_hcells hcl ht'
      have c0 : W.cell? (b.add (i * 4 + 0)) = some (.int .i64 x.id) := by rw [← Go.Deep.add_add]; exact hat 0 (by omega)
      have c1 : W.cell? (b.add (i * 4 + 1)) = some (.slice x.A x.l.length x.c) := by rw [← Go.Deep.add_add]; exact hat 1 (by omega)
      have c2 : W.cell? (b.add (i * 4 + 2)) = some (.int .i64 x.f) := by rw [← Go.Deep.add_add]; exact hat 2 (by omega)
      have c3 : W.cell? (b.add (i * 4 + 3)) = some (.int .i64 x.t) := by rw [← Go.Deep.add_add]; exact hat 3 (by omega)
      rw [← addr_add_add] at c1 c2 c3
      exact ⟨x, ⟨c0, c1, c2, c3⟩, HE, hxl⟩
    obtain ⟨hs, hfl, hp⟩ := list_of len key
    refine ⟨some b, hs, cap, by rw [hfl], ⟨fun h0 => ⟨b, rfl, ?_, fun i x hx => (hp i x hx).1⟩, fun i x hx => (hp i x hx).2⟩, ?_⟩
    · exact cell_lt (hp 0 _ (List.getElem?_eq_getElem h0)).1.1
    · unfold maxLen at hm; omega
end
end Go.Proofs.YthempimelfmipaaGreatDoor
