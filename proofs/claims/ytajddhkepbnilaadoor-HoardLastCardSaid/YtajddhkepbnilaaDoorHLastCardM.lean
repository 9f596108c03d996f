/- The statement HoardLast holds: for every input the law returns true, and each argument reads afterwards as it read before. Conditions: those of the row alone (the library's tables as the program's text lays them). -/
import Derived.Test.YtajddhkepbnilaaDoorText3
import Derived.Test.YtajddhkepbnilaaDoorBnat
import Derived.Test.YtajddhkepbnilaaDoorKeep
import Derived.Test.YtajddhkepbnilaaDoorRows
import Derived.Test.YtajddhkepbnilaaDoorTie
import Derived.ProofKit
import Derived.LaidMore
import Derived.OpenShut
import Derived.Stop.Joined
import Derived.SevenTiedAt
import Derived.Carry
import Derived.Lib.LaidU8
import Derived.Lib.SmallJoins
import Derived.Test.YtajddhkepbnilaaDoorHb
import Derived.Deep.Slices
import Derived.Deep.Fields
import Derived.ChangeSame
import Derived.Test.YtajddhkepbnilaaDoorHm
import Derived.Test.YtajddhkepbnilaaDoorHc
import Derived.Test.YtajddhkepbnilaaDoorHl
import Derived.Test.YtajddhkepbnilaaDoorHe
import Derived.Test.YtajddhkepbnilaaDoorHaw
import Derived.Test.YtajddhkepbnilaaDoorCards
namespace Go.Proofs.YtajddhkepbnilaaDoor
open Go.Joins Go.ChangeShapes Go.WideShapes Go.ChangeAt Go.WideMaps Go.WideElems Go.RowKit Go.Proofs Go

theorem own : ownKnob Tryd.prog.godebug = none := by kernel_rfl
theorem laidOut : laidOutB Tryd.prog = true := by kernel_rfl

section
variable {H : Type} {enc : TypeId × Value → H} {P : Program}
/-- the arguments read as they did: below the old end of memory nothing has turned -/
theorem trodAll_stay (hl : laidOutB P = true) {W W' : World} (hb : Below W.heap.size W W') {sp : Nat → Bool} : ∀ {ts : List TypeId} {vs : List Value} {ds : List (DataW H)} {ps : List MemPlace},
    (∀ t ∈ ts, P.readableRec t = true ∧ t < P.types.size) → DataW.TrodAll enc P W 0 (fun _ => true) true ts vs ds ps → (∀ x ∈ ps, x.block < W.heap.size) → (∀ x ∈ ps, sp x.block = true) → DataW.TrodAll enc P W' 0 sp true ts vs ds ps
  | [], vs, ds, ps, _, h, _, _ => by
    obtain ⟨rfl, rfl, rfl⟩ := trodAll_nil h
    exact trodAll_mk0
  | t :: ts, vs, ds, ps, ht, h, hlt, hs => by
    obtain ⟨v, vs', d, ds', p, q, rfl, rfl, rfl, h1, h2⟩ := trodAll_cons h
    obtain ⟨r1, r2⟩ := ht t List.mem_cons_self
    refine ⟨p, q, ?_, trodAll_stay hl hb (fun t h => ht t (List.mem_cons_of_mem _ h)) h2 (fun x hx => hlt x (List.mem_append_right _ hx)) (fun x hx => hs x (List.mem_append_right _ hx)), rfl⟩
    exact Trod_stays hl r1 r2 h1 (fun x hx => hb.same (hlt x (List.mem_append_left _ hx))) (fun x hx => hs x (List.mem_append_left _ hx))
/-- a law's end: it has returned true, and below the old end of memory nothing has turned -/
theorem law_post {f : Func} {s : ChangeSpec} {W W' : World} {args : Array Value} {ds : List (DataW H)} {before : List MemPlace} (hl : laidOutB P = true) (hp : ∀ t ∈ f.params.toList, P.readableRec t = true ∧ t < P.types.size) {tb : TypeId} (hr : f.resultTypes = #[tb]) (htb : P.underlying tb = some .bool)
    (hvars : s.vars = []) (hfn : s.fn H (ds ++ []) = { results := [.lit (.bool true)], args := ds, vars := [] })
    (hW : DataW.Whole enc P f.params.toList s.vars false W args.toList ds [] before) (hA : DataW.TrodAll enc P W 0 (fun _ => true) true f.params.toList args.toList ds before) (hb : Below W.heap.size W W') :
    s.post enc P f false true false false W args (.bool true) W' := by
  have hlt : ∀ p ∈ before, p.block < W.heap.size := fun p hp => hW.lt p hp
  have hold : ∀ p ∈ before, (fun b => decide (b < W.heap.size)) p.block = true := fun p hp => by simpa using hlt p hp
  have hok : ∀ (j : Nat) (t : TypeId) (r : Value), f.resultTypes[j]? = some t → ((Value.bool true).resultList f.resultTypes.size)[j]? = some r → Value.okWide P W' .any 0 t r := ok_one hr rfl (okWide_bool_mk htb _)
  have hres : ∀ (b : Nat) (sp : Nat → Bool) (hd : Bool), DataW.TrodAll enc P W' b sp hd f.resultTypes.toList ((Value.bool true).resultList f.resultTypes.size) (s.fn H (ds ++ [])).results [] := fun b sp hd => by
    rw [hfn, hr]; exact trodAll_mk1 (shut_bool htb _)
  have hargs : ∀ sp : Nat → Bool, (∀ p ∈ before, sp p.block = true) → DataW.TrodAll enc P W' 0 sp true f.params.toList args.toList (s.fn H (ds ++ [])).args before := fun sp hsp => by
    rw [hfn]; exact trodAll_stay hl hb hp hA hlt hsp
  have hvs : ∀ sp : Nat → Bool, DataW.TrodVars enc P W' sp s.vars (s.fn H (ds ++ [])).vars [] := fun sp => by
    rw [hfn, hvars]; simp [DataW.TrodVars]
  refine ⟨ds, [], before, [], before, [], hW, hres _ _ _, hargs _ hold, hvs _, World.keptBut_mono (fun p hp => ⟨hp, .inr (by simpa using hp)⟩) (hb.frame (· ∈ before)), fun _ => ?_⟩
  obtain ⟨_, _, _, _, _, hz, hn⟩ := hW
  refine ⟨hok, _, _, ([] ++ before) ++ [], ⟨[] ++ before, [], trodAll_append (hargs _ (fun _ _ => rfl)) (hres _ _ _), hvs _, rfl, ?_, ?_⟩, ?_⟩
  · intro b off hp
    have hin : MemPlace.cell b off ∈ before := by simpa using hp
    rw [hb.frozen (hlt _ hin)]
    exact hz b off hin
  · intro ha; cases ha
  · intro p hp _
    simpa using hp
end

theorem i64_bd {n : Int} (h : (Lit.int .i64 n).wf = true) : -9223372036854775808 ≤ n ∧ n ≤ 9223372036854775807 := by
  simp only [Lit.wf, Bool.and_eq_true, decide_eq_true_eq] at h
  have e1 : IntKind.i64.min = -9223372036854775808 := rfl
  have e2 : IntKind.i64.max = 9223372036854775807 := rfl
  rw [e1, e2] at h
  exact h
theorem lim_of {W : World} {zs : List Int} {a : Addr} {len cap : Nat} (hl : len ≤ cap) (hz : zs.length = cap) (hc : ∀ i, i < zs.length → W.cell? (a.add i) = some (.int .u32 (zs.getD i 0))) (hw : ∀ n ∈ zs, (Lit.int .u32 n).wf = true) :
    ∃ l : List Nat, Lim W (some a) cap l ∧ len = l.length := by
  have hr : ∀ i, i < zs.length → 0 ≤ zs.getD i 0 ∧ zs.getD i 0 < 4294967296 := fun i hi => by
    have h1 := hw (zs.getD i 0) (by simp [List.getD_eq_getElem?_getD, List.getElem?_eq_getElem hi])
    simp only [Lit.wf, Bool.and_eq_true, decide_eq_true_eq] at h1
    have e1 : IntKind.u32.min = 0 := rfl
    have e2 : IntKind.u32.max = 4294967295 := rfl
    rw [e1, e2] at h1
    omega
  have hat : ∀ j, j < len → at_ ((zs.take len).map Int.toNat) j = (zs.getD j 0).toNat := fun j hj => by
    have : j < zs.length := by omega
    simp [at_, hj, List.getD_eq_getElem?_getD, List.getElem?_eq_getElem this]
  refine ⟨(zs.take len).map Int.toNat, ⟨by simp; omega, fun j => ?_, fun h0 => ⟨a, rfl, ?_, fun j hj => ?_⟩⟩, by simp; omega⟩
  · by_cases hj : j < len
    · rw [hat j hj]; have := hr j (by omega); omega
    · rw [at_ge (by simp; omega)]; omega
  · have := hc 0 (by simp at h0; omega)
    rw [← addr_add_block a 0]
    exact cell_lt this
  · have hj' : j < len := by simp at hj; omega
    rw [hc j (by omega), hat j hj']
    have := hr j (by omega)
    congr 2
    omega
section
variable {H : Type} {enc : TypeId × Value → H}
set_option maxRecDepth 100000 in
theorem open_limbs {W : World} {n : Nat} {v : Value} {y : DataW H × List MemPlace} (h : DataW.trod enc Tryd.prog W 0 (fun _ => true) true n 31 [v] = some y) :
    ∃ A n c l, v = .slice A n c ∧ Lim W A c l ∧ n = l.length ∧ n ≤ 9223372036854775807 := by
  obtain ⟨xs, m, rfl, _, _, hxl, hall⟩ := DataW.trod_struct Tryd.underlying31 h
  have h0 := hall 0 _ rfl
  have hx : xs[0]? = some (xs[0]'(by rw [hxl]; decide)) := List.getElem?_eq_getElem _
  rw [hx] at h0
  have h1 : DataW.trod enc Tryd.prog W 0 (fun _ => true) true m 29 [v] = some (xs[0]'(by rw [hxl]; decide)) := h0
  rcases open_ints Tryd.underlying29 Tryd.underlying95 (by kernel_rfl) h1 with ⟨h2, _⟩ | ⟨a, len, cap, zs, h2, _, hl, hm, hz, _, hc, hw⟩
  · obtain rfl : v = .slice none 0 0 := by simpa using h2
    exact ⟨none, 0, 0, [], rfl, Lim.nil _ _ _, rfl, by omega⟩
  · obtain rfl : v = .slice (some a) len cap := by simpa using h2
    simp only [if_true] at hz
    obtain ⟨l, hL, hn⟩ := lim_of hl hz hc hw
    unfold maxLen at hm
    exact ⟨some a, len, cap, l, rfl, hL, hn, by omega⟩
end

set_option maxRecDepth 100000 in
theorem tab_of_reads {W : World} {d : DataW Unit} (hd : d = Lib.tabData .u64 Lib.pow10Tab) (h : Lib.VarReads Tryd.prog W "internal/strconv.uint64pow10" d) : Tab W := by
  subst hd
  obtain ⟨g, t, cs, fuel, p, h1, h2, h3, h4⟩ := h
  have hg : Tryd.prog.globalNamed "internal/strconv.uint64pow10" = some 0 := by kernel_rfl
  obtain rfl := Option.some.inj (hg.symm.trans h1)
  have ht : (Tryd.prog.globals[0]?).map (·.type) = some 138 := by kernel_rfl
  obtain rfl := Option.some.inj (ht.symm.trans h2)
  show Lib.TabIs _ _ _ _ _
  unfold Lib.TabIs
  rw [h3, ← Lib.cells_of_tab Tryd.underlying138 Tryd.underlying100 (by kernel_rfl) (by kernel_rfl) h4]
end Go.Proofs.YtajddhkepbnilaaDoor

namespace Go.Proofs.YtajddhkepbnilaaDoor
open Go.Joins Go.ChangeShapes Go.WideShapes Go.ChangeAt Go.WideMaps Go.WideElems Go.RowKit Go.Proofs Go Go.Deep

section
variable {H : Type} {enc : TypeId × Value → H} {P : Program} {w : World} {base : Nat} {spare : Nat → Bool} {held : Bool}
/-- a slice of structs of one-cell fields: its elements' cells and their readings -/
theorem open_elems {t e : TypeId} {fs : Array Field} {fuel : Nat} {cs : List Value} {x : DataW H × List MemPlace} (ht : P.underlying t = some (.slice e)) (he : P.underlying e = some (.struct fs))
    (hone : oneCellFields P fs = true) (hC : P.cellsOf e = fs.size) (h : DataW.trod enc P w base spare held fuel t cs = some x) :
    (cs = [.slice none 0 0] ∧ x = (.nil, [])) ∨
    ∃ (a : Addr) (len cap m : Nat), cs = [.slice (some a) len cap] ∧ len ≤ cap ∧ cap ≤ maxLen ∧ len ≤ m ∧
      ∀ i, i < m → ∃ (n : Nat), ∀ (j : Nat) (f : Field), fs[j]? = some f → ∃ (v : Value) (y : DataW H × List MemPlace), w.cell? (a.add (i * fs.size + j)) = some v ∧ DataW.trod enc P w base spare held n f.type [v] = some y := by
  rcases open_slice ht h with h0 | ⟨a, len, cap, m, n, D, Pl, hcs, _, hl, hm, hmm, _, hi⟩
  · exact .inl h0
  · refine .inr ⟨a, len, cap, m, hcs, hl, hm, by rw [hmm]; split <;> omega, fun i him => ?_⟩
    obtain ⟨cs', hc, ht'⟩ := hi i him
    rw [hC] at hc
    obtain ⟨ys, n', _, _, hlen, hyl, hf⟩ := DataW.trod_struct he ht'
    obtain ⟨_, hcl, hat⟩ := World.cells?_some hc
    refine ⟨n', fun j f hj => ?_⟩
    obtain ⟨ho, hk⟩ := hone_of hone j f hj
    have hjl : j < fs.size := (Array.getElem?_eq_some_iff.1 hj).1
    have hcell := hat j hjl
    have hv : cs'[j]? = some (cs'[j]'(by omega)) := List.getElem?_eq_getElem (by omega)
    have h1 := hf j f hj
    rw [ho, hk] at h1
    have hone' : (cs'.drop j).take 1 = [cs'[j]'(by omega)] := by
      rw [List.drop_eq_getElem_cons (by omega)]
      rfl
    rw [hone'] at h1
    have hys : ys[j]? = some (ys[j]'(by omega)) := List.getElem?_eq_getElem (by omega)
    refine ⟨_, _, ?_, h1.trans hys⟩
    rw [← Go.Deep.add_add, hcell, hv]
end
/-- a list whose entries have what each place wants -/
theorem list_of {α : Type} {P : Nat → α → Prop} : ∀ n : Nat, (∀ i, i < n → ∃ x, P i x) → ∃ l : List α, l.length = n ∧ ∀ i x, l[i]? = some x → P i x
  | 0, _ => ⟨[], rfl, fun i x h => by simp at h⟩
  | n + 1, h => by
    obtain ⟨l, hl, hp⟩ := list_of n (fun i hi => h i (by omega))
    obtain ⟨y, hy⟩ := h n (by omega)
    refine ⟨l ++ [y], by simp [hl], fun i x hx => ?_⟩
    by_cases hi : i < l.length
    · rw [List.getElem?_append_left hi] at hx; exact hp i x hx
    · have : i < n + 1 := by
        have := (List.getElem?_eq_some_iff.1 hx).1
        simp [hl] at this; omega
      obtain rfl : i = n := by omega
      rw [← hl] at hx
      simp at hx
      subst hx; exact hy
section
variable {H : Type} {enc : TypeId × Value → H}
set_option maxRecDepth 100000 in
theorem open_ents {W : World} {fuel : Nat} {v : Value} {y : DataW H × List MemPlace} (h : DataW.trod enc Tryd.prog W 0 (fun _ => true) true fuel 22 [v] = some y) :
    ∃ (A : Option Addr) (l : List (Int × Int)) (c : Nat), v = .slice A l.length c ∧ Es W A l ∧ l.length ≤ 9223372036854775807 := by
  rcases open_elems Tryd.underlying22 Tryd.underlying50 (by kernel_rfl) (by kernel_rfl) h with ⟨hc, _⟩ | ⟨b, len, cap, m, hc, hl, hm, hmm, hi⟩
  · obtain rfl : v = .slice none 0 0 := by simpa using hc
    exact ⟨none, [], 0, rfl, Es.nil _ _, by simp⟩
  · obtain rfl : v = .slice (some b) len cap := by simpa using hc
    have key : ∀ i, i < len → ∃ x : Int × Int, W.cell? (b.add (i * 2)) = some (.int .i64 x.1) ∧ W.cell? ⟨(b.add (i * 2)).block, (b.add (i * 2)).off + 1, none⟩ = some (.int .i64 x.2) := by
      intro i hil
      obtain ⟨n, hat⟩ := hi i (by omega)
      obtain ⟨v0, y0, c0, r0⟩ := hat 0 _ rfl
      obtain ⟨v1, y1, c1, r1⟩ := hat 1 _ rfl
      obtain ⟨k, e0, _⟩ := DataW.trod_int Tryd.underlying3 r0
      obtain rfl : v0 = .int .i64 k := by simpa using e0
      obtain ⟨u, e1, _⟩ := DataW.trod_int Tryd.underlying3 r1
      obtain rfl : v1 = .int .i64 u := by simpa using e1
      have c1' : W.cell? (b.add (i * 2 + 1)) = some (.int .i64 u) := c1
      rw [← addr_add_add] at c1'
      exact ⟨(k, u), c0, c1'⟩
    obtain ⟨l, hfl, hp⟩ := list_of len key
    refine ⟨some b, l, cap, by rw [hfl], fun h0 => ⟨b, rfl, ?_, hp⟩, ?_⟩
    · have := (hp 0 _ (List.getElem?_eq_getElem h0)).1
      exact cell_lt this
    · unfold maxLen at hm; omega
set_option maxRecDepth 100000 in
theorem open_entries {W : World} {base : Nat} {v : Value} {d : DataW H} {p : List MemPlace} (hv : Value.okWide Tryd.prog W .any base 22 v) (h : DataW.Trod enc Tryd.prog W 0 (fun _ => true) true 22 v d p) :
    ∃ (A : Option Addr) (l : List (Int × Int)) (c : Nat), v = .slice A l.length c ∧ Es W A l ∧ l.length ≤ 9223372036854775807 := by
  obtain ⟨a, len, cap, rfl⟩ := okWide_slice Tryd.underlying22 hv
  obtain ⟨fuel, hf⟩ := h
  exact open_ents hf
set_option maxRecDepth 100000 in
theorem open_hoard {W : World} {base : Nat} {v : Value} {d : DataW H} {p : List MemPlace} (hv : Value.okWide Tryd.prog W .any base 26 v) (h : DataW.Trod enc Tryd.prog W 0 (fun _ => true) true 26 v d p) :
    ∃ (id : Int) (A : Option Addr) (l : List (Int × Int)) (c : Nat) (f t : Int), v = .agg #[.int .i64 id, .slice A l.length c, .int .i64 f, .int .i64 t] ∧ Es W A l ∧ l.length ≤ 9223372036854775807 := by
  obtain ⟨cs, rfl, hsz⟩ := okWide_struct Tryd.underlying26 hv
  obtain ⟨cl⟩ := cs
  have hC : Tryd.prog.cellsOf 26 = 4 := by kernel_rfl
  rw [hC] at hsz
  match cl, hsz with
  | [c0, c1, c2, c3], _ =>
    obtain ⟨fuel, hf⟩ := h
    obtain ⟨xs, m, rfl, _, _, hxl, hall⟩ := DataW.trod_struct Tryd.underlying26 hf
    have hx : ∀ j, j < 3 → ∃ y, xs[j]? = some y := fun j hj => ⟨_, List.getElem?_eq_getElem (show j < xs.length by rw [hxl]; exact hj)⟩
    obtain ⟨y0, e0⟩ := hx 0 (by omega)
    obtain ⟨y1, e1⟩ := hx 1 (by omega)
    obtain ⟨y2, e2⟩ := hx 2 (by omega)
    have h0 : DataW.trod enc Tryd.prog W 0 (fun _ => true) true m 3 [c0] = some y0 := (hall 0 _ rfl).trans e0
    have h1 : DataW.trod enc Tryd.prog W 0 (fun _ => true) true m 22 [c1] = some y1 := (hall 1 _ rfl).trans e1
    have h2 : DataW.trod enc Tryd.prog W 0 (fun _ => true) true m 24 [c2, c3] = some y2 := (hall 2 _ rfl).trans e2
    obtain ⟨id, q0, _⟩ := DataW.trod_int Tryd.underlying3 h0
    obtain rfl : c0 = .int .i64 id := by simpa using q0
    obtain ⟨A, l, c, rfl, HA, hl⟩ := open_ents h1
    obtain ⟨zs, m2, rfl, _, _, hzl, hall2⟩ := DataW.trod_struct Tryd.underlying24 h2
    have hz : ∀ j, j < 2 → ∃ y, zs[j]? = some y := fun j hj => ⟨_, List.getElem?_eq_getElem (show j < zs.length by rw [hzl]; exact hj)⟩
    obtain ⟨z0, g0⟩ := hz 0 (by omega)
    obtain ⟨z1, g1⟩ := hz 1 (by omega)
    have k0 : DataW.trod enc Tryd.prog W 0 (fun _ => true) true m2 3 [c2] = some z0 := (hall2 0 _ rfl).trans g0
    have k1 : DataW.trod enc Tryd.prog W 0 (fun _ => true) true m2 3 [c3] = some z1 := (hall2 1 _ rfl).trans g1
    obtain ⟨f, q2, _⟩ := DataW.trod_int Tryd.underlying3 k0
    obtain rfl : c2 = .int .i64 f := by simpa using q2
    obtain ⟨t, q3, _⟩ := DataW.trod_int Tryd.underlying3 k1
    obtain rfl : c3 = .int .i64 t := by simpa using q3
    exact ⟨id, A, l, c, f, t, rfl, HA, hl⟩
end
end Go.Proofs.YtajddhkepbnilaaDoor

namespace Go.Proofs.YtajddhkepbnilaaDoor

/-- the numbers of the types up to k -/
def sumN (l : List (Int × Int)) : Nat → Int
  | 0 => 0
  | k + 1 => sumN l k + numE l ((k : Int) + 1)
theorem sumN_nil : ∀ k, sumN [] k = 0
  | 0 => rfl
  | k + 1 => by rw [sumN, sumN_nil k, numE]; rfl
theorem sumN_cons (x : Int × Int) (l : List (Int × Int)) : ∀ k : Nat, sumN (x :: l) k = (if 1 ≤ x.1 ∧ x.1 ≤ k then x.2 else 0) + sumN l k
  | 0 => by rw [sumN, sumN, if_neg (by omega)]; rfl
  | k + 1 => by
    rw [sumN, sumN, sumN_cons x l k, numE]
    by_cases h : x.1 = (k : Int) + 1
    · rw [if_pos h, if_neg (by omega), if_pos (by omega)]; omega
    · rw [if_neg h]
      by_cases h1 : 1 ≤ x.1 ∧ x.1 ≤ k
      · rw [if_pos h1, if_pos (by omega)]; omega
      · rw [if_neg h1, if_neg (by omega)]; omega
theorem sumN_tot : ∀ {l : List (Int × Int)}, (∀ x ∈ l, 1 ≤ x.1 ∧ x.1 ≤ 99) → sumN l 99 = totE l
  | [], _ => sumN_nil 99
  | x :: l, h => by
    have := h x List.mem_cons_self
    rw [sumN_cons, if_pos ⟨this.1, this.2⟩, sumN_tot fun y hy => h y (List.mem_cons_of_mem _ hy), totE]
theorem HV.nn {id : Int} {l : List (Int × Int)} {f t : Int} (h : HV id l f t) (s : Int) : 0 ≤ numE l s ∧ numE l s ≤ 32000 := by
  have := h.num l.length s
  rwa [List.take_length] at this
theorem HV.tt {id : Int} {l : List (Int × Int)} {f t : Int} (h : HV id l f t) : 0 ≤ totE l ∧ totE l ≤ 32000 := by
  have := h.tot l.length
  rwa [List.take_length] at this
theorem HV.sum {id : Int} {l : List (Int × Int)} {f t : Int} (h : HV id l f t) : sumN l 99 = totE l := sumN_tot fun _ hx => (h.2.2.1.mem hx).1
theorem HV.sums {id : Int} {l : List (Int × Int)} {f t : Int} (h : HV id l f t) : ∀ {k m : Nat}, k ≤ m → 0 ≤ sumN l k ∧ sumN l k ≤ sumN l m := by
  have h0 : ∀ k, 0 ≤ sumN l k := fun k => by
    induction k with
    | zero => exact Int.le_refl _
    | succ k ih => rw [sumN]; have := (h.nn ((k : Int) + 1)).1; omega
  intro k m hkm
  refine ⟨h0 k, ?_⟩
  induction m with
  | zero => obtain rfl : k = 0 := by omega
            exact Int.le_refl _
  | succ m ih =>
    by_cases hk : k = m + 1
    · subst hk; exact Int.le_refl _
    · have := ih (by omega)
      have := (h.nn ((m : Int) + 1)).1
      rw [sumN]; omega
theorem HV.first {id : Int} {l : List (Int × Int)} {f t : Int} (h : HV id l f t) : ∃ x, x ∈ l ∧ 1 ≤ numE l x.1 ∧ 1 ≤ x.1 ∧ x.1 ≤ 99 := by
  have h1 := h.2.1.1
  have hm : l[0]'(by omega) ∈ l := List.getElem_mem _
  have h2 := h.2.2.1.mem hm
  exact ⟨_, hm, by rw [h.2.2.1.num hm rfl]; omega, h2.1.1, h2.1.2⟩
theorem HV.pos {id : Int} {l : List (Int × Int)} {f t : Int} (h : HV id l f t) : 1 ≤ totE l := by
  obtain ⟨x, _, h1, h2, h3⟩ := h.first
  have h4 := (h.sums (k := x.1.toNat - 1) (m := x.1.toNat) (by omega)).1
  have h5 := (h.sums (k := x.1.toNat) (m := 99) (by omega)).2
  have h6 : sumN l x.1.toNat = sumN l (x.1.toNat - 1) + numE l x.1 := by
    obtain ⟨n, hn⟩ : ∃ n : Nat, x.1.toNat = n + 1 := ⟨x.1.toNat - 1, by omega⟩
    rw [hn, sumN, Nat.add_sub_cancel, show ((n : Int) + 1) = x.1 by omega]
  rw [← h.sum]; omega
theorem mergeP_num {a b : List (Int × Int)} (h : ∀ t, 0 ≤ numE a t + numE b t) (t : Int) : ∀ k : Nat, numE (mergeP a b k) t = if 1 ≤ t ∧ t ≤ k then numE a t + numE b t else 0
  | 0 => by rw [mergeP, numE, if_neg (by omega)]
  | k + 1 => by
    have ih := mergeP_num h t k
    have hk := h ((k : Int) + 1)
    by_cases h0 : 0 < numE a ((k : Int) + 1) + numE b ((k : Int) + 1)
    · rw [mergeP_yes h0, numE_append, ih]
      by_cases ht : (k : Int) + 1 = t
      · subst ht; rw [if_neg (by omega), if_pos (by omega), numE, numE, if_pos rfl]; omega
      · rw [numE, numE, if_neg ht]
        by_cases h1 : 1 ≤ t ∧ t ≤ k
        · rw [if_pos h1, if_pos (by omega)]; omega
        · rw [if_neg h1, if_neg (by omega)]; rfl
    · rw [mergeP_no h0, ih]
      by_cases ht : (k : Int) + 1 = t
      · subst ht; rw [if_neg (by omega), if_pos (by omega)]; omega
      · by_cases h1 : 1 ≤ t ∧ t ≤ k
        · rw [if_pos h1, if_pos (by omega)]
        · rw [if_neg h1, if_neg (by omega)]
theorem mergeP_tot {a b : List (Int × Int)} (h : ∀ t, 0 ≤ numE a t + numE b t) : ∀ k : Nat, totE (mergeP a b k) = sumN a k + sumN b k
  | 0 => rfl
  | k + 1 => by
    have ih := mergeP_tot h k
    have hk := h ((k : Int) + 1)
    rw [sumN, sumN]
    by_cases h0 : 0 < numE a ((k : Int) + 1) + numE b ((k : Int) + 1)
    · rw [mergeP_yes h0, totE_append, ih, totE, totE]; omega
    · rw [mergeP_no h0, ih]; omega
theorem mergeP_mem {a b : List (Int × Int)} {x : Int × Int} : ∀ {k : Nat}, x ∈ mergeP a b k → 1 ≤ x.1 ∧ x.1 ≤ k ∧ 0 < x.2 ∧ x.2 = numE a x.1 + numE b x.1
  | 0, h => by cases h
  | k + 1, h => by
    rw [mergeP, List.mem_append] at h
    rcases h with h | h
    · have := mergeP_mem h; omega
    · split at h
      · next h0 => rw [List.mem_singleton] at h; subst h; exact ⟨by simp only []; omega, by simp only []; omega, h0, rfl⟩
      · cases h
theorem Listed.snoc {lo hi : Int} {l : List (Int × Int)} {x : Int × Int} (h : Listed lo hi l) (h1 : 1 ≤ x.1 ∧ x.1 ≤ 99) (h2 : lo ≤ x.2 ∧ x.2 ≤ hi) (h3 : ∀ y ∈ l, y.1 < x.1) : Listed lo hi (l ++ [x]) := fun i y hy => by
  by_cases hi : i < l.length
  · rw [List.getElem?_append_left hi] at hy
    obtain ⟨a, b, c⟩ := h i y hy
    exact ⟨a, b, fun j z hj hz => c j z hj (by rwa [List.getElem?_append_left (by omega)] at hz)⟩
  · have hlen := (List.getElem?_eq_some_iff.1 hy).1
    rw [List.length_append, List.length_singleton] at hlen
    obtain rfl : i = l.length := by omega
    rw [List.getElem?_append_right (Nat.le_refl _), Nat.sub_self] at hy
    obtain rfl : x = y := Option.some.inj hy
    refine ⟨h1, h2, fun j z hj hz => ?_⟩
    rw [List.getElem?_append_left (by omega)] at hz
    exact h3 z (List.mem_of_getElem? hz)
theorem mergeP_listed {a b : List (Int × Int)} : ∀ {k : Nat}, k ≤ 99 → greatP a b k = false → Listed 1 999 (mergeP a b k)
  | 0, _, _ => fun i y hy => by rw [mergeP, List.getElem?_nil] at hy; cases hy
  | k + 1, hk, hg => by
    by_cases h0 : 0 < numE a ((k : Int) + 1) + numE b ((k : Int) + 1)
    · rw [greatP_yes h0, Bool.or_eq_false_iff, decide_eq_false_iff_not] at hg
      rw [mergeP_yes h0]
      refine (mergeP_listed (by omega) hg.1).snoc ⟨by simp only []; omega, by simp only []; omega⟩ ⟨by simp only []; omega, by simp only []; omega⟩ fun y hy => ?_
      have := mergeP_mem hy
      simp only []; omega
    · rw [greatP_no h0] at hg
      rw [mergeP_no h0]
      exact mergeP_listed (by omega) hg
theorem mergeP_congr {a b c d : List (Int × Int)} : ∀ {k : Nat}, (∀ i : Nat, i < k → numE a ((i : Int) + 1) + numE b ((i : Int) + 1) = numE c ((i : Int) + 1) + numE d ((i : Int) + 1)) → mergeP a b k = mergeP c d k
  | 0, _ => rfl
  | k + 1, h => by rw [mergeP, mergeP, mergeP_congr fun i hi => h i (by omega), h k (by omega)]
theorem mergeP_comm (a b : List (Int × Int)) (k : Nat) : mergeP a b k = mergeP b a k := mergeP_congr fun _ _ => Int.add_comm _ _
theorem greatP_comm (a b : List (Int × Int)) (k : Nat) : greatP a b k = greatP b a k := by rw [greatP, greatP, mergeP_comm]
theorem Com.comm {fa ta fb tb F T F' T' : Int} (h : Com fa ta fb tb F T) (h' : Com fb tb fa ta F' T') : F = F' ∧ T = T' := by
  obtain ⟨h1, h2⟩ := h
  obtain ⟨h3, h4⟩ := h'
  split at h1 <;> split at h2 <;> split at h3 <;> split at h4 <;> omega
theorem HV.merge {ia fa ta ib fb tb F T : Int} {la lb : List (Int × Int)} (ha : HV ia la fa ta) (hb : HV ib lb fb tb) (hc : Com fa ta fb tb F T) (hFT : F ≤ T) (hlen : (mergeP la lb 99).length ≤ 32) (hg : greatP la lb 99 = false) :
    HV ia (mergeP la lb 99) F T ∧ totE (mergeP la lb 99) = totE la + totE lb := by
  have hnn : ∀ t, 0 ≤ numE la t + numE lb t := fun t => by have := (ha.nn t).1; have := (hb.nn t).1; omega
  refine ⟨⟨ha.1, ⟨?_, hlen⟩, mergeP_listed (by omega) hg, (hc.yv ha.2.2.2 hb.2.2.2).2 hFT⟩, by rw [mergeP_tot hnn, ha.sum, hb.sum]⟩
  obtain ⟨x, _, h1, h2, h3⟩ := ha.first
  have h4 := mergeP_num hnn x.1 99
  rw [if_pos ⟨h2, h3⟩] at h4
  have h5 := (hb.nn x.1).1
  rcases Nat.eq_zero_or_pos (mergeP la lb 99).length with h6 | h6
  · rw [List.length_eq_zero_iff.1 h6, numE] at h4; omega
  · exact h6
theorem MergeIs.ok {ia fa ta ib fb tb id f t : Int} {la lb L : List (Int × Int)} (h : MergeIs ia la fa ta ib lb fb tb id L f t 0) :
    HV ia la fa ta ∧ HV ib lb fb tb ∧ Com fa ta fb tb f t ∧ f ≤ t ∧ (mergeP la lb 99).length ≤ 32 ∧ greatP la lb 99 = false ∧ ia = id ∧ mergeP la lb 99 = L := by
  rcases h with ⟨_, _, _, _, _, h⟩ | ⟨ha, hb, F, T, hc, ⟨_, _, _, _, _, h⟩ | ⟨_, _, _, _, _, _, h⟩ | ⟨_, _, _, _, _, _, _, h⟩ | ⟨h1, h2, h3, h4, h5, rfl, rfl, _⟩⟩
  · omega
  · omega
  · omega
  · omega
  · exact ⟨ha, hb, hc, h1, h2, h3, h4, h5⟩
theorem MergeIs.bad {ia fa ta ib fb tb id f t err : Int} {la lb L : List (Int × Int)} (h : MergeIs ia la fa ta ib lb fb tb id L f t err) (he : err ≠ 0) : id = 0 ∧ L = [] := by
  rcases h with ⟨_, h1, h2, _⟩ | ⟨_, _, F, T, _, ⟨_, h1, h2, _⟩ | ⟨_, _, h1, h2, _⟩ | ⟨_, _, _, h1, h2, _⟩ | ⟨_, _, _, _, _, _, _, h⟩⟩
  · exact ⟨h1, h2⟩
  · exact ⟨h1, h2⟩
  · exact ⟨h1, h2⟩
  · exact ⟨h1, h2⟩
  · omega
theorem MergeIs.same {ia fa ta ib fb tb ix fx tx e iy fy ty f : Int} {la lb lx ly : List (Int × Int)} (hx : MergeIs ia la fa ta ib lb fb tb ix lx fx tx e) (hy : MergeIs ib lb fb tb ia la fa ta iy ly fy ty f) : e = f := by
  rcases hx with ⟨hn, _, _, _, _, h1⟩ | ⟨ha, hb, F, T, hc, hx⟩
  · rcases hy with ⟨_, _, _, _, _, h2⟩ | ⟨ha, hb, _⟩
    · omega
    · exact absurd ⟨hb, ha⟩ hn
  · rcases hy with ⟨hn, _⟩ | ⟨_, _, F', T', hc', hy⟩
    · exact absurd ⟨hb, ha⟩ hn
    · obtain ⟨rfl, rfl⟩ := hc.comm hc'
      rw [mergeP_comm lb la, greatP_comm lb la] at hy
      rcases hx with ⟨x1, _, _, _, _, x5⟩ | ⟨x1, x2, _, _, _, _, x5⟩ | ⟨x1, x2, x3, _, _, _, _, x5⟩ | ⟨x1, x2, x3, _, _, _, _, x5⟩ <;>
        rcases hy with ⟨y1, _, _, _, _, y5⟩ | ⟨y1, y2, _, _, _, _, y5⟩ | ⟨y1, y2, y3, _, _, _, _, y5⟩ | ⟨y1, y2, y3, _, _, _, _, y5⟩ <;>
        first | omega | (rw [x3] at y3; cases y3)
/-- a merge both ways -/
theorem MergeIs.both {ia fa ta ib fb tb ix fx tx iy fy ty : Int} {la lb lx ly : List (Int × Int)} (hx : MergeIs ia la fa ta ib lb fb tb ix lx fx tx 0) (hy : MergeIs ib lb fb tb ia la fa ta iy ly fy ty 0) :
    ix = ia ∧ iy = ib ∧ ly = lx ∧ fy = fx ∧ ty = tx ∧ HV ia la fa ta ∧ HV ib lb fb tb ∧ HV ia lx fx tx ∧ totE lx = totE la + totE lb := by
  obtain ⟨ha, hb, hc, h1, h2, h3, h4, h5⟩ := hx.ok
  obtain ⟨_, _, hc', _, _, _, h6, h7⟩ := hy.ok
  obtain ⟨h8, h9⟩ := hc.comm hc'
  have := ha.merge hb hc h1 h2 h3
  rw [h5] at this
  exact ⟨h4.symm, h6.symm, by rw [← h7, ← h5, mergeP_comm], h8.symm, h9.symm, ha, hb, this.1, this.2⟩
/-- three hoards, merged either way -/
theorem MergeIs.three {ia fa ta ib fb tb ic fc tc ix fx tx il fl tl ip fp tp ir fr tr : Int} {la lb lc lx ll lp lr : List (Int × Int)} (hx : MergeIs ia la fa ta ib lb fb tb ix lx fx tx 0)
    (hl : MergeIs ix lx fx tx ic lc fc tc il ll fl tl 0) (hp : MergeIs ib lb fb tb ic lc fc tc ip lp fp tp 0) (hr : MergeIs ia la fa ta ip lp fp tp ir lr fr tr 0) : SameH il ll fl tl ir lr fr tr := by
  obtain ⟨ha, hb, hc, _, _, _, x1, x2⟩ := hx.ok
  obtain ⟨_, hv, hc2, _, _, _, l1, l2⟩ := hl.ok
  obtain ⟨_, _, hc3, _, _, _, p1, p2⟩ := hp.ok
  obtain ⟨_, _, hc4, _, _, _, r1, r2⟩ := hr.ok
  refine ⟨by omega, ?_, ?_⟩
  · obtain ⟨a1, a2⟩ := hc
    obtain ⟨b1, b2⟩ := hc2
    obtain ⟨c1, c2⟩ := hc3
    obtain ⟨d1, d2⟩ := hc4
    constructor
    · split at a1 <;> split at b1 <;> split at c1 <;> split at d1 <;> omega
    · split at a2 <;> split at b2 <;> split at c2 <;> split at d2 <;> omega
  · rw [← l2, ← r2]
    have n1 : ∀ t, 0 ≤ numE la t + numE lb t := fun t => by have := (ha.nn t).1; have := (hb.nn t).1; omega
    have n2 : ∀ t, 0 ≤ numE lb t + numE lc t := fun t => by have := (hb.nn t).1; have := (hv.nn t).1; omega
    refine mergeP_congr fun i hi => ?_
    rw [← x2, ← p2, mergeP_num n1, mergeP_num n2, if_pos (by omega), if_pos (by omega)]
    omega
/-- the latest of a list of types -/
def Top (ts l : List (Int × Int)) (r y : Int) : Prop := valE ts r = some y ∧ (∃ x ∈ l, x.1 = r) ∧ ∀ x ∈ l, ∃ v, valE ts x.1 = some v ∧ (v < y ∨ v = y ∧ x.1 ≤ r)
theorem late_top {ts : List (Int × Int)} {r y : Int} : ∀ {l : List (Int × Int)} {s : Int × Int}, (∀ x ∈ l, 1 ≤ x.1 ∧ s.1 < x.1) → l.Pairwise (fun x y => x.1 < y.1) → 0 ≤ s.1 → lateS ts l s = some (r, y) →
    (((r, y) = s ∧ (l = [] ∨ s.1 ≠ 0)) ∨ (valE ts r = some y ∧ ∃ x ∈ l, x.1 = r)) ∧ (∀ x ∈ l, ∃ v, valE ts x.1 = some v ∧ (v < y ∨ v = y ∧ x.1 ≤ r)) ∧ (s.1 ≠ 0 → s.2 < y ∨ s.2 = y ∧ s.1 ≤ r)
  | [], s, _, _, _, h => by
    obtain rfl : s = (r, y) := Option.some.inj h
    exact ⟨.inl ⟨rfl, .inl rfl⟩, fun x hx => (by cases hx), fun _ => .inr ⟨rfl, Int.le_refl _⟩⟩
  | x :: l, s, hk, hp, h0, h => by
    rw [List.pairwise_cons] at hp
    have hx := hk x List.mem_cons_self
    rw [lateS] at h
    cases hv : valE ts x.1 with
    | none => rw [hv] at h; cases h
    | some v =>
      rw [hv] at h
      simp only [] at h
      by_cases hs : s.1 = 0 ∨ s.2 ≤ v
      · rw [stepS, if_pos hs] at h
        obtain ⟨h1, h2, h3⟩ := late_top (s := (x.1, v)) (fun z hz => ⟨(hk z (List.mem_cons_of_mem _ hz)).1, hp.1 z hz⟩) hp.2 (by simp only []; omega) h
        have h4 := h3 (by simp only []; omega)
        simp only [] at h4
        refine ⟨.inr ?_, fun z hz => ?_, fun hn => ?_⟩
        · rcases h1 with ⟨h1, _⟩ | ⟨h1, z, hz, h5⟩
          · injection h1 with e1 e2
            subst e1 e2
            exact ⟨hv, x, List.mem_cons_self, rfl⟩
          · exact ⟨h1, z, List.mem_cons_of_mem _ hz, h5⟩
        · rcases List.mem_cons.1 hz with rfl | hz
          · exact ⟨v, hv, h4⟩
          · exact h2 z hz
        · rcases hs with hs | hs
          · exact absurd hs hn
          · rcases h4 with h4 | h4
            · left; omega
            · by_cases e : s.2 = v
              · right; omega
              · left; omega
      · rw [stepS, if_neg hs] at h
        have hs0 : s.1 ≠ 0 := fun e => hs (.inl e)
        have hsv : v < s.2 := by
          rcases Int.lt_or_le v s.2 with h | h
          · exact h
          · exact absurd (.inr h) hs
        obtain ⟨h1, h2, h3⟩ := late_top (s := s) (fun z hz => hk z (List.mem_cons_of_mem _ hz)) hp.2 h0 h
        have h4 := h3 hs0
        refine ⟨?_, fun z hz => ?_, fun _ => h4⟩
        · rcases h1 with ⟨h1, _⟩ | ⟨h1, z, hz, h5⟩
          · exact .inl ⟨h1, .inr hs0⟩
          · exact .inr ⟨h1, z, List.mem_cons_of_mem _ hz, h5⟩
        · rcases List.mem_cons.1 hz with rfl | hz
          · exact ⟨v, hv, .inl (by omega)⟩
          · exact h2 z hz
theorem pw_keys {lo hi : Int} {l : List (Int × Int)} (h : Listed lo hi l) : l.Pairwise (fun x y => x.1 < y.1) := List.pairwise_map.1 (pw_listed h)
theorem HV.top {id f t r y : Int} {l ts : List (Int × Int)} (h : HV id l f t) (hl : lateS ts l (0, 0) = some (r, y)) : Top ts l r y := by
  obtain ⟨h1, h2, _⟩ := late_top (s := (0, 0)) (fun x hx => by have := (h.2.2.1.mem hx).1; exact ⟨this.1, by simp only []; omega⟩) (pw_keys h.2.2.1) (Int.le_refl _) hl
  rcases h1 with ⟨_, h1 | h1⟩ | ⟨h1, h3⟩
  · have := h.2.1.1; rw [h1] at this; simp at this
  · exact absurd rfl h1
  · exact ⟨h1, h3, h2⟩
theorem late_some {ts : List (Int × Int)} : ∀ {l : List (Int × Int)} {s : Int × Int}, (∀ x ∈ l, ∃ v, valE ts x.1 = some v) → ∃ r y, lateS ts l s = some (r, y)
  | [], s, _ => ⟨s.1, s.2, rfl⟩
  | x :: l, s, h => by
    obtain ⟨v, hv⟩ := h x List.mem_cons_self
    obtain ⟨r, y, hr⟩ := late_some (s := stepS s x.1 v) fun z hz => h z (List.mem_cons_of_mem _ hz)
    exact ⟨r, y, by rw [lateS, hv]; exact hr⟩
theorem LateIs.ok {id f t r : Int} {l ts : List (Int × Int)} (h : LateIs id l f t ts r 0) : HV id l f t ∧ Listed (-9999) 9999 ts ∧ ∃ y, Top ts l r y := by
  rcases h with ⟨_, _, h⟩ | ⟨h1, h2, ⟨_, _, h⟩ | ⟨y, h3, _⟩⟩
  · omega
  · omega
  · exact ⟨h1, h2, y, h1.top h3⟩
theorem LateIs.num {id f t r : Int} {l ts : List (Int × Int)} (h : LateIs id l f t ts r 0) : 1 ≤ numE l r ∧ numE l r ≤ 32000 := by
  obtain ⟨h1, _, y, _, ⟨x, hx, rfl⟩, _⟩ := h.ok
  refine ⟨?_, (h1.nn _).2⟩
  rw [h1.2.2.1.num hx rfl]
  exact (h1.2.2.1.mem hx).2.1
theorem num_mem {lo hi : Int} {l : List (Int × Int)} {s : Int} (h : 0 < numE l s) (_ : Listed lo hi l) : ∃ x ∈ l, x.1 = s := by
  rcases Classical.em (∃ x ∈ l, x.1 = s) with h1 | h1
  · exact h1
  · rw [Listed.num_zero fun x hx e => h1 ⟨x, hx, e⟩] at h; omega
/-- the latest of a merged hoard -/
theorem late_merge {ia fa ta ib fb tb im fm tm rx ry rz err : Int} {la lb lm ts : List (Int × Int)} (hx : LateIs ia la fa ta ts rx 0) (hy : LateIs ib lb fb tb ts ry 0) (hm : MergeIs ia la fa ta ib lb fb tb im lm fm tm 0) (hz : LateIs im lm fm tm ts rz err) :
    err = 0 ∧ (rz = rx ∨ rz = ry) := by
  obtain ⟨ha, hts, yx, tx1, ⟨x, hx1, hx2⟩, tx3⟩ := hx.ok
  obtain ⟨hb, _, yy, ty1, ⟨y, hy1, hy2⟩, ty3⟩ := hy.ok
  obtain ⟨_, _, hc, h1, h2, h3, h4, h5⟩ := hm.ok
  have hv := (ha.merge hb hc h1 h2 h3).1
  rw [h5, h4] at hv
  have hnn : ∀ t, 0 ≤ numE la t + numE lb t := fun t => by have := (ha.nn t).1; have := (hb.nn t).1; omega
  have hmn : ∀ t, 1 ≤ t ∧ t ≤ 99 → numE lm t = numE la t + numE lb t := fun t ht => by rw [← h5, mergeP_num hnn, if_pos (by omega)]
  have hpa : ∀ x ∈ la, ∃ z ∈ lm, z.1 = x.1 := fun x hx => by
    have h6 := ha.2.2.1.mem hx
    refine num_mem ?_ hv.2.2.1
    rw [hmn _ h6.1, ha.2.2.1.num hx rfl]
    have := (hb.nn x.1).1; omega
  have hpb : ∀ x ∈ lb, ∃ z ∈ lm, z.1 = x.1 := fun x hx => by
    have h6 := hb.2.2.1.mem hx
    refine num_mem ?_ hv.2.2.1
    rw [hmn _ h6.1, hb.2.2.1.num hx rfl]
    have := (ha.nn x.1).1; omega
  have hab : ∀ z ∈ lm, (∃ x ∈ la, x.1 = z.1) ∨ (∃ x ∈ lb, x.1 = z.1) := fun z hz => by
    have h6 := hv.2.2.1.mem hz
    have h7 := hv.2.2.1.num hz rfl
    rw [hmn _ h6.1] at h7
    by_cases h8 : 0 < numE la z.1
    · exact .inl (num_mem h8 ha.2.2.1)
    · exact .inr (num_mem (by omega) hb.2.2.1)
  have hall : ∀ z ∈ lm, ∃ v, valE ts z.1 = some v := fun z hz => by
    rcases hab z hz with ⟨x, hx, h⟩ | ⟨x, hx, h⟩
    · obtain ⟨v, h6, _⟩ := tx3 x hx; exact ⟨v, by rw [← h]; exact h6⟩
    · obtain ⟨v, h6, _⟩ := ty3 x hx; exact ⟨v, by rw [← h]; exact h6⟩
  have he : err = 0 := by
    rcases hz with ⟨hn, _⟩ | ⟨_, _, ⟨h6, _⟩ | ⟨_, _, h⟩⟩
    · exact absurd ⟨hv, hts⟩ hn
    · obtain ⟨r, y, h7⟩ := late_some (s := (0, 0)) hall
      rw [h7] at h6; cases h6
    · exact h
  subst he
  refine ⟨rfl, ?_⟩
  obtain ⟨_, _, yz, tz1, ⟨z, hz1, hz2⟩, tz3⟩ := hz.ok
  rcases hab z hz1 with ⟨p, hp, h⟩ | ⟨p, hp, h⟩
  · left
    obtain ⟨v, h6, h7⟩ := tx3 p hp
    rw [h, hz2] at h6 h7
    obtain rfl : yz = v := Option.some.inj (tz1.symm.trans h6)
    obtain ⟨q, hq, h8⟩ := hpa x hx1
    obtain ⟨v, h9, h10⟩ := tz3 q hq
    rw [h8, hx2] at h9 h10
    obtain rfl : yx = v := Option.some.inj (tx1.symm.trans h9)
    omega
  · right
    obtain ⟨v, h6, h7⟩ := ty3 p hp
    rw [h, hz2] at h6 h7
    obtain rfl : yz = v := Option.some.inj (tz1.symm.trans h6)
    obtain ⟨q, hq, h8⟩ := hpb y hy1
    obtain ⟨v, h9, h10⟩ := tz3 q hq
    rw [h8, hy2] at h9 h10
    obtain rfl : yy = v := Option.some.inj (ty1.symm.trans h9)
    omega
end Go.Proofs.YtajddhkepbnilaaDoor

namespace Go.Proofs.YtajddhkepbnilaaDoor
open Go.RowKit Go.Proofs Go

theorem MergeIs.len {ida fa ta idb fb tb id f t err : Int} {la lb L : List (Int × Int)} (h : MergeIs ida la fa ta idb lb fb tb id L f t err) : L.length ≤ 99 := by
  rcases h with ⟨_, _, rfl, _⟩ | ⟨_, _, F, T, _, ⟨_, _, rfl, _⟩ | ⟨_, _, _, rfl, _⟩ | ⟨_, _, _, _, rfl, _⟩ | ⟨_, _, _, _, rfl, _⟩⟩
  · simp
  · simp
  · simp
  · simp
  · exact mergeP_len la lb 99
set_option maxHeartbeats 1000000 in
set_option maxRecDepth 100000 in
theorem hmerges_few {ia fa ta : Int} {Aa : Option Addr} {ca : Nat} {la : List (Int × Int)} {ib fb tb : Int} {Ab : Option Addr} {cb : Nat} {lb : List (Int × Int)} (w : World) (hT : Tab w) (Ea : Es w Aa la) (_ : la.length ≤ 9223372036854775807) (Eb : Es w Ab lb) (_ : lb.length ≤ 9223372036854775807) (hlens : Hid (∀ x ∈ [(HE.mk ia Aa la.length ca fa ta), (HE.mk ib Ab lb.length cb fb tb)], x.n ≤ 9223372036854775807)) (hfew : Hid (fewH [(HE.mk ia Aa la.length ca fa ta), (HE.mk ib Ab lb.length cb fb tb)] = false)) :
    Calls Tryd.prog 7 #[.agg #[.int .i64 ia, .slice Aa la.length ca, .int .i64 fa, .int .i64 ta], .agg #[.int .i64 ib, .slice Ab lb.length cb, .int .i64 fb, .int .i64 tb]] w (RetB w true) := by
  go_enter Tryd.func7, Tryd.ntmps7
  go_wp2_with fail
  have HX := BL.two w #[.int .i64 ia, .slice Aa la.length ca, .int .i64 fa, .int .i64 ta] #[.int .i64 ib, .slice Ab lb.length cb, .int .i64 fb, .int .i64 tb] 26 26
  replace hT := hT.ext HX.below
  replace Ea := Ea.ext HX.below
  replace Eb := Eb.ext HX.below
  refine (hawake_any _ hT).mono ?_
  rintro e w1 ⟨rfl, hb⟩
  replace HX := HX.ext hb
  replace hT := hT.ext hb
  replace Ea := Ea.ext hb
  replace Eb := Eb.ext hb
  clear hb
  have hc00 := HX.cell 0 0 rfl rfl
  have hc01 := HX.cell 0 1 rfl rfl
  have hc02 := HX.cell 0 2 rfl rfl
  have hc03 := HX.cell 0 3 rfl rfl
  try simp only [List.getElem_toArray, List.getElem_cons_zero, List.getElem_cons_succ] at hc00 hc01 hc02 hc03
  have hc10 := HX.cell 1 0 rfl rfl
  have hc11 := HX.cell 1 1 rfl rfl
  have hc12 := HX.cell 1 2 rfl rfl
  have hc13 := HX.cell 1 3 rfl rfl
  try simp only [List.getElem_toArray, List.getElem_cons_zero, List.getElem_cons_succ] at hc10 hc11 hc12 hc13
  go_wp2_with fail
  have hfs := HFS.lit w1 26 [(HE.mk ia Aa la.length ca fa ta), (HE.mk ib Ab lb.length cb fb tb)] #[.int .i64 ia, .slice Aa la.length ca, .int .i64 fa, .int .i64 ta, .int .i64 ib, .slice Ab lb.length cb, .int .i64 fb, .int .i64 tb] rfl
  refine (hfew_any _ 2 2 _ _ hfs rfl (by omega) hlens.out).mono ?_
  rintro e w2 ⟨rfl, rfl⟩
  rw [hfew.out]
  have hb := below_alloc w1 (.cells #[.int .i64 ia, .slice Aa la.length ca, .int .i64 fa, .int .i64 ta, .int .i64 ib, .slice Ab lb.length cb, .int .i64 fb, .int .i64 tb] 26)
  clear hfs
  clear hc00 hc01 hc02 hc03
  clear hc10 hc11 hc12 hc13
  replace HX := HX.ext hb
  replace hT := hT.ext hb
  replace Ea := Ea.ext hb
  replace Eb := Eb.ext hb
  clear hb
  generalize w1.alloc (.cells #[.int .i64 ia, .slice Aa la.length ca, .int .i64 fa, .int .i64 ta, .int .i64 ib, .slice Ab lb.length cb, .int .i64 fb, .int .i64 tb] 26) = w2 at *
  go_wp2_with fail
  refine (hawake_any _ hT).mono ?_
  rintro e w3 ⟨rfl, hb⟩
  replace HX := HX.ext hb
  go_wp2
  go_ret
  exact ⟨by first | rfl | simp, HX.below⟩
set_option maxHeartbeats 4000000 in
set_option maxRecDepth 100000 in
theorem hmerges_yes {ia fa ta : Int} {Aa : Option Addr} {ca : Nat} {la : List (Int × Int)} {ib fb tb : Int} {Ab : Option Addr} {cb : Nat} {lb : List (Int × Int)} (w : World) (hT : Tab w) (Ea : Es w Aa la) (hla : la.length ≤ 9223372036854775807) (Eb : Es w Ab lb) (hlb : lb.length ≤ 9223372036854775807) (hlens : Hid (∀ x ∈ [(HE.mk ia Aa la.length ca fa ta), (HE.mk ib Ab lb.length cb fb tb)], x.n ≤ 9223372036854775807)) (hfew : Hid (fewH [(HE.mk ia Aa la.length ca fa ta), (HE.mk ib Ab lb.length cb fb tb)] = true)) (_ : la.length ≤ 40) (_ : lb.length ≤ 40) :
    Calls Tryd.prog 7 #[.agg #[.int .i64 ia, .slice Aa la.length ca, .int .i64 fa, .int .i64 ta], .agg #[.int .i64 ib, .slice Ab lb.length cb, .int .i64 fb, .int .i64 tb]] w (RetB w true) := by
  obtain ⟨im, lm, fm, tm, err, hm⟩ := MergeIs.ex ia la fa ta ib lb fb tb
  obtain ⟨lc, err2, hco⟩ := ComIs.ex ia la fa ta ib lb fb tb
  have hlm : lm.length ≤ 9223372036854775807 := Nat.le_trans hm.len (by omega)
  have hlc : lc.length ≤ 9223372036854775807 := Nat.le_trans hco.len (by omega)
  go_enter Tryd.func7, Tryd.ntmps7
  go_wp2_with fail
  have HX := BL.two w #[.int .i64 ia, .slice Aa la.length ca, .int .i64 fa, .int .i64 ta] #[.int .i64 ib, .slice Ab lb.length cb, .int .i64 fb, .int .i64 tb] 26 26
  replace hT := hT.ext HX.below
  replace Ea := Ea.ext HX.below
  replace Eb := Eb.ext HX.below
  refine (hawake_any _ hT).mono ?_
  rintro e w1 ⟨rfl, hb⟩
  replace HX := HX.ext hb
  replace hT := hT.ext hb
  replace Ea := Ea.ext hb
  replace Eb := Eb.ext hb
  clear hb
  have hc00 := HX.cell 0 0 rfl rfl
  have hc01 := HX.cell 0 1 rfl rfl
  have hc02 := HX.cell 0 2 rfl rfl
  have hc03 := HX.cell 0 3 rfl rfl
  try simp only [List.getElem_toArray, List.getElem_cons_zero, List.getElem_cons_succ] at hc00 hc01 hc02 hc03
  have hc10 := HX.cell 1 0 rfl rfl
  have hc11 := HX.cell 1 1 rfl rfl
  have hc12 := HX.cell 1 2 rfl rfl
  have hc13 := HX.cell 1 3 rfl rfl
  try simp only [List.getElem_toArray, List.getElem_cons_zero, List.getElem_cons_succ] at hc10 hc11 hc12 hc13
  go_wp2_with fail
  have hfs := HFS.lit w1 26 [(HE.mk ia Aa la.length ca fa ta), (HE.mk ib Ab lb.length cb fb tb)] #[.int .i64 ia, .slice Aa la.length ca, .int .i64 fa, .int .i64 ta, .int .i64 ib, .slice Ab lb.length cb, .int .i64 fb, .int .i64 tb] rfl
  refine (hfew_any _ 2 2 _ _ hfs rfl (by omega) hlens.out).mono ?_
  rintro e w2 ⟨rfl, rfl⟩
  rw [hfew.out]
  have hb := below_alloc w1 (.cells #[.int .i64 ia, .slice Aa la.length ca, .int .i64 fa, .int .i64 ta, .int .i64 ib, .slice Ab lb.length cb, .int .i64 fb, .int .i64 tb] 26)
  clear hfs
  clear hc00 hc01 hc02 hc03
  clear hc10 hc11 hc12 hc13
  replace HX := HX.ext hb
  replace hT := hT.ext hb
  replace Ea := Ea.ext hb
  replace Eb := Eb.ext hb
  clear hb
  generalize w1.alloc (.cells #[.int .i64 ia, .slice Aa la.length ca, .int .i64 fa, .int .i64 ta, .int .i64 ib, .slice Ab lb.length cb, .int .i64 fb, .int .i64 tb] 26) = w2 at *
  clear hlens hfew
  have hc00 := HX.cell 0 0 rfl rfl
  have hc01 := HX.cell 0 1 rfl rfl
  have hc02 := HX.cell 0 2 rfl rfl
  have hc03 := HX.cell 0 3 rfl rfl
  try simp only [List.getElem_toArray, List.getElem_cons_zero, List.getElem_cons_succ] at hc00 hc01 hc02 hc03
  have hc10 := HX.cell 1 0 rfl rfl
  have hc11 := HX.cell 1 1 rfl rfl
  have hc12 := HX.cell 1 2 rfl rfl
  have hc13 := HX.cell 1 3 rfl rfl
  try simp only [List.getElem_toArray, List.getElem_cons_zero, List.getElem_cons_succ] at hc10 hc11 hc12 hc13
  go_wp2_with fail
  refine (hmerge_any _ _ _ _ la lb _ Ea Eb hla hlb hm).mono ?_
  rintro e w3 ⟨A3, c3, rfl, E3, hb⟩
  clear hc00 hc01 hc02 hc03
  clear hc10 hc11 hc12 hc13
  replace HX := HX.ext hb
  replace hT := hT.ext hb
  replace Ea := Ea.ext hb
  replace Eb := Eb.ext hb
  clear hb
  go_upto_region 4 with fail
  have hlg30 := HX.lt 0 rfl
  simp only [] at hlg30
  have hlg31 := HX.lt 1 rfl
  simp only [] at hlg31
  have hb := below_alloc w3 (.cells #[.int .i64 im, .slice A3 lm.length c3, .int .i64 fm, .int .i64 tm] 26)
  replace HX := HX.new #[.int .i64 im, .slice A3 lm.length c3, .int .i64 fm, .int .i64 tm] 26
  simp only [List.cons_append, List.nil_append] at HX
  replace hT := hT.ext hb
  replace Ea := Ea.ext hb
  replace Eb := Eb.ext hb
  replace E3 := E3.ext hb
  clear hb
  generalize w3.alloc (.cells #[.int .i64 im, .slice A3 lm.length c3, .int .i64 fm, .int .i64 tm] 26) = W3 at *
  generalize w3.heap.size = g3 at *
  have hc00 := HX.cell 0 0 rfl rfl
  have hc01 := HX.cell 0 1 rfl rfl
  have hc02 := HX.cell 0 2 rfl rfl
  have hc03 := HX.cell 0 3 rfl rfl
  try simp only [List.getElem_toArray, List.getElem_cons_zero, List.getElem_cons_succ] at hc00 hc01 hc02 hc03
  have hc10 := HX.cell 1 0 rfl rfl
  have hc11 := HX.cell 1 1 rfl rfl
  have hc12 := HX.cell 1 2 rfl rfl
  have hc13 := HX.cell 1 3 rfl rfl
  try simp only [List.getElem_toArray, List.getElem_cons_zero, List.getElem_cons_succ] at hc10 hc11 hc12 hc13
  go_wp2_with fail
  refine (rmerge_any _ _ _ _ la lb _ Ea Eb hla hlb hm).mono ?_
  rintro e w4 ⟨A4, c4, rfl, E4, hb⟩
  clear hc00 hc01 hc02 hc03
  clear hc10 hc11 hc12 hc13
  replace HX := HX.ext hb
  replace hT := hT.ext hb
  replace Ea := Ea.ext hb
  replace Eb := Eb.ext hb
  replace E3 := E3.ext hb
  clear hb
  go_upto_region 5 with fail
  have hlg40 := HX.lt 0 rfl
  simp only [] at hlg40
  have hlg41 := HX.lt 1 rfl
  simp only [] at hlg41
  have hlg42 := HX.lt 2 rfl
  simp only [] at hlg42
  have hb := below_alloc w4 (.cells #[.int .i64 im, .slice A4 lm.length c4, .int .i64 fm, .int .i64 tm] 26)
  replace HX := HX.new #[.int .i64 im, .slice A4 lm.length c4, .int .i64 fm, .int .i64 tm] 26
  simp only [List.cons_append, List.nil_append] at HX
  replace hT := hT.ext hb
  replace Ea := Ea.ext hb
  replace Eb := Eb.ext hb
  replace E3 := E3.ext hb
  replace E4 := E4.ext hb
  clear hb
  generalize w4.alloc (.cells #[.int .i64 im, .slice A4 lm.length c4, .int .i64 fm, .int .i64 tm] 26) = W4 at *
  generalize w4.heap.size = g4 at *
  have hc00 := HX.cell 0 0 rfl rfl
  have hc01 := HX.cell 0 1 rfl rfl
  have hc02 := HX.cell 0 2 rfl rfl
  have hc03 := HX.cell 0 3 rfl rfl
  try simp only [List.getElem_toArray, List.getElem_cons_zero, List.getElem_cons_succ] at hc00 hc01 hc02 hc03
  have hc10 := HX.cell 1 0 rfl rfl
  have hc11 := HX.cell 1 1 rfl rfl
  have hc12 := HX.cell 1 2 rfl rfl
  have hc13 := HX.cell 1 3 rfl rfl
  try simp only [List.getElem_toArray, List.getElem_cons_zero, List.getElem_cons_succ] at hc10 hc11 hc12 hc13
  go_wp2_with fail
  refine (hcommon_any _ _ _ _ la lb _ Ea Eb hla hlb hco).mono ?_
  rintro e w5 ⟨A5, c5, rfl, I5, hb⟩
  clear hc00 hc01 hc02 hc03
  clear hc10 hc11 hc12 hc13
  replace HX := HX.ext hb
  replace hT := hT.ext hb
  replace Ea := Ea.ext hb
  replace Eb := Eb.ext hb
  replace E3 := E3.ext hb
  replace E4 := E4.ext hb
  clear hb
  have hc00 := HX.cell 0 0 rfl rfl
  have hc01 := HX.cell 0 1 rfl rfl
  have hc02 := HX.cell 0 2 rfl rfl
  have hc03 := HX.cell 0 3 rfl rfl
  try simp only [List.getElem_toArray, List.getElem_cons_zero, List.getElem_cons_succ] at hc00 hc01 hc02 hc03
  have hc10 := HX.cell 1 0 rfl rfl
  have hc11 := HX.cell 1 1 rfl rfl
  have hc12 := HX.cell 1 2 rfl rfl
  have hc13 := HX.cell 1 3 rfl rfl
  try simp only [List.getElem_toArray, List.getElem_cons_zero, List.getElem_cons_succ] at hc10 hc11 hc12 hc13
  go_wp2_with fail
  refine (rcommon_any _ _ _ _ la lb _ Ea Eb hla hlb hco).mono ?_
  rintro e w6 ⟨A6, c6, rfl, I6, hb⟩
  clear hc00 hc01 hc02 hc03
  clear hc10 hc11 hc12 hc13
  replace HX := HX.ext hb
  replace hT := hT.ext hb
  replace Ea := Ea.ext hb
  replace Eb := Eb.ext hb
  replace E3 := E3.ext hb
  replace E4 := E4.ext hb
  replace I5 := I5.ext hb
  clear hb
  have hs1 : (err == err) = true := beq_self_eq_true _
  have hs2 : (err2 == err2) = true := beq_self_eq_true _
  have hc20 := HX.cell 2 0 rfl rfl
  have hc21 := HX.cell 2 1 rfl rfl
  have hc22 := HX.cell 2 2 rfl rfl
  have hc23 := HX.cell 2 3 rfl rfl
  try simp only [List.getElem_toArray, List.getElem_cons_zero, List.getElem_cons_succ] at hc20 hc21 hc22 hc23
  have hc30 := HX.cell 3 0 rfl rfl
  have hc31 := HX.cell 3 1 rfl rfl
  have hc32 := HX.cell 3 2 rfl rfl
  have hc33 := HX.cell 3 3 rfl rfl
  try simp only [List.getElem_toArray, List.getElem_cons_zero, List.getElem_cons_succ] at hc30 hc31 hc32 hc33
  go_wp2_with fail
  refine (bhoards_any (b := true) _ _ _ _ lm lm _ E3 E4 hlm hlm (yes ⟨rfl, ⟨rfl, rfl⟩, rfl⟩)).mono ?_
  rintro e w7 ⟨rfl, hb⟩
  clear hc20 hc21 hc22 hc23
  clear hc30 hc31 hc32 hc33
  replace HX := HX.ext hb
  replace hT := hT.ext hb
  replace Ea := Ea.ext hb
  replace Eb := Eb.ext hb
  replace E3 := E3.ext hb
  replace E4 := E4.ext hb
  replace I5 := I5.ext hb
  replace I6 := I6.ext hb
  clear hb
  go_wp2_with fail
  refine (bints_any (b := true) _ _ _ _ lc lc _ I5 I6 hlc hlc (yes rfl)).mono ?_
  rintro e w8 ⟨rfl, hb⟩
  replace HX := HX.ext hb
  replace hT := hT.ext hb
  replace Ea := Ea.ext hb
  replace Eb := Eb.ext hb
  replace E3 := E3.ext hb
  replace E4 := E4.ext hb
  replace I5 := I5.ext hb
  replace I6 := I6.ext hb
  clear hb
  go_wp2
  go_ret
  exact ⟨by first | rfl | simp, HX.below⟩
theorem hmerges_any {ia fa ta : Int} {Aa : Option Addr} {ca : Nat} {la : List (Int × Int)} {ib fb tb : Int} {Ab : Option Addr} {cb : Nat} {lb : List (Int × Int)} (w : World) (hT : Tab w) (Ea : Es w Aa la) (hla : la.length ≤ 9223372036854775807) (Eb : Es w Ab lb) (hlb : lb.length ≤ 9223372036854775807) :
    Calls Tryd.prog 7 #[.agg #[.int .i64 ia, .slice Aa la.length ca, .int .i64 fa, .int .i64 ta], .agg #[.int .i64 ib, .slice Ab lb.length cb, .int .i64 fb, .int .i64 tb]] w (RetB w true) := by
  have hlens : ∀ x ∈ [(HE.mk ia Aa la.length ca fa ta), (HE.mk ib Ab lb.length cb fb tb)], x.n ≤ 9223372036854775807 := by
    intro x hx
    simp only [List.mem_cons, List.not_mem_nil, or_false] at hx
    rcases hx with rfl | rfl
    · exact hla
    · exact hlb
  cases hf : fewH [(HE.mk ia Aa la.length ca fa ta), (HE.mk ib Ab lb.length cb fb tb)]
  · exact hmerges_few w hT Ea hla Eb hlb (Lib.hid hlens) (Lib.hid hf)
  · have hf2 := hf
    simp only [fewH, List.all_cons, List.all_nil, Bool.and_true, Bool.and_eq_true, decide_eq_true_eq] at hf2
    exact hmerges_yes w hT Ea hla Eb hlb (Lib.hid hlens) (Lib.hid hf) (by omega) (by omega)
end Go.Proofs.YtajddhkepbnilaaDoor

namespace Go.Proofs.YtajddhkepbnilaaDoor
open Go.RowKit Go.Proofs Go

theorem val_at {lo hi : Int} {ts : List (Int × Int)} {j : Nat} {k v : Int} (h : Listed lo hi ts) (hx : ts[j]? = some (k, v)) : valE ts k = some v := by
  have hm := List.mem_of_getElem? hx
  cases hv : valE ts k with
  | none => exact absurd rfl (val_none hv _ hm)
  | some u =>
    obtain ⟨x, hx1, hx2, hx3⟩ := val_some hv
    have h1 := h.num hx1 hx2
    have h2 := h.num hm rfl
    simp only [] at h2
    rw [show v = u by omega]
set_option maxHeartbeats 1000000 in
set_option maxRecDepth 100000 in
theorem hlast_few {ia fa ta : Int} {Aa : Option Addr} {ca : Nat} {la : List (Int × Int)} {ib fb tb : Int} {Ab : Option Addr} {cb : Nat} {lb : List (Int × Int)} {At : Option Addr} {ct : Nat} {ts : List (Int × Int)} (w : World) (hT : Tab w) (Ea : Es w Aa la) (_ : la.length ≤ 9223372036854775807) (Eb : Es w Ab lb) (_ : lb.length ≤ 9223372036854775807) (Et : Es w At ts) (_ : ts.length ≤ 9223372036854775807) (hlens : Hid (∀ x ∈ [(HE.mk ia Aa la.length ca fa ta), (HE.mk ib Ab lb.length cb fb tb)], x.n ≤ 9223372036854775807)) (hfew : Hid (fewH [(HE.mk ia Aa la.length ca fa ta), (HE.mk ib Ab lb.length cb fb tb)] = false)) :
    Calls Tryd.prog 6 #[.agg #[.int .i64 ia, .slice Aa la.length ca, .int .i64 fa, .int .i64 ta], .agg #[.int .i64 ib, .slice Ab lb.length cb, .int .i64 fb, .int .i64 tb], .slice At ts.length ct] w (RetB w true) := by
  go_enter Tryd.func6, Tryd.ntmps6
  go_wp2_with fail
  have HX := BL.two w #[.int .i64 ia, .slice Aa la.length ca, .int .i64 fa, .int .i64 ta] #[.int .i64 ib, .slice Ab lb.length cb, .int .i64 fb, .int .i64 tb] 26 26
  replace hT := hT.ext HX.below
  replace Ea := Ea.ext HX.below
  replace Eb := Eb.ext HX.below
  replace Et := Et.ext HX.below
  refine (hawake_any _ hT).mono ?_
  rintro e w1 ⟨rfl, hb⟩
  replace HX := HX.ext hb
  replace hT := hT.ext hb
  replace Ea := Ea.ext hb
  replace Eb := Eb.ext hb
  replace Et := Et.ext hb
  clear hb
  have hc00 := HX.cell 0 0 rfl rfl
  have hc01 := HX.cell 0 1 rfl rfl
  have hc02 := HX.cell 0 2 rfl rfl
  have hc03 := HX.cell 0 3 rfl rfl
  try simp only [List.getElem_toArray, List.getElem_cons_zero, List.getElem_cons_succ] at hc00 hc01 hc02 hc03
  have hc10 := HX.cell 1 0 rfl rfl
  have hc11 := HX.cell 1 1 rfl rfl
  have hc12 := HX.cell 1 2 rfl rfl
  have hc13 := HX.cell 1 3 rfl rfl
  try simp only [List.getElem_toArray, List.getElem_cons_zero, List.getElem_cons_succ] at hc10 hc11 hc12 hc13
  go_wp2_with fail
  have hfs := HFS.lit w1 26 [(HE.mk ia Aa la.length ca fa ta), (HE.mk ib Ab lb.length cb fb tb)] #[.int .i64 ia, .slice Aa la.length ca, .int .i64 fa, .int .i64 ta, .int .i64 ib, .slice Ab lb.length cb, .int .i64 fb, .int .i64 tb] rfl
  refine (hfew_any _ 2 2 _ _ hfs rfl (by omega) hlens.out).mono ?_
  rintro e w2 ⟨rfl, rfl⟩
  rw [hfew.out]
  have hb := below_alloc w1 (.cells #[.int .i64 ia, .slice Aa la.length ca, .int .i64 fa, .int .i64 ta, .int .i64 ib, .slice Ab lb.length cb, .int .i64 fb, .int .i64 tb] 26)
  clear hfs
  clear hc00 hc01 hc02 hc03
  clear hc10 hc11 hc12 hc13
  replace HX := HX.ext hb
  replace hT := hT.ext hb
  replace Ea := Ea.ext hb
  replace Eb := Eb.ext hb
  replace Et := Et.ext hb
  clear hb
  generalize w1.alloc (.cells #[.int .i64 ia, .slice Aa la.length ca, .int .i64 fa, .int .i64 ta, .int .i64 ib, .slice Ab lb.length cb, .int .i64 fb, .int .i64 tb] 26) = w2 at *
  go_wp2_with fail
  refine (hawake_any _ hT).mono ?_
  rintro e w3 ⟨rfl, hb⟩
  replace HX := HX.ext hb
  go_wp2
  go_ret
  exact ⟨by first | rfl | simp, HX.below⟩
set_option maxHeartbeats 4000000 in
set_option maxRecDepth 100000 in
theorem hlast_long_yes {ia fa ta : Int} {Aa : Option Addr} {ca : Nat} {la : List (Int × Int)} {ib fb tb : Int} {Ab : Option Addr} {cb : Nat} {lb : List (Int × Int)} {At : Option Addr} {ct : Nat} {ts : List (Int × Int)} (w : World) (hT : Tab w) (Ea : Es w Aa la) (_ : la.length ≤ 9223372036854775807) (Eb : Es w Ab lb) (_ : lb.length ≤ 9223372036854775807) (Et : Es w At ts) (hts : ts.length ≤ 9223372036854775807) (hlens : Hid (∀ x ∈ [(HE.mk ia Aa la.length ca fa ta), (HE.mk ib Ab lb.length cb fb tb)], x.n ≤ 9223372036854775807)) (hfew : Hid (fewH [(HE.mk ia Aa la.length ca fa ta), (HE.mk ib Ab lb.length cb fb tb)] = true)) (_ : la.length ≤ 40) (_ : lb.length ≤ 40) (h120 : 120 < ts.length) :
    Calls Tryd.prog 6 #[.agg #[.int .i64 ia, .slice Aa la.length ca, .int .i64 fa, .int .i64 ta], .agg #[.int .i64 ib, .slice Ab lb.length cb, .int .i64 fb, .int .i64 tb], .slice At ts.length ct] w (RetB w true) := by
  have h120b : decide ((120 : Int) < (ts.length : Int)) = true := decide_eq_true (by omega)
  go_enter Tryd.func6, Tryd.ntmps6
  go_wp2_with fail
  have HX := BL.two w #[.int .i64 ia, .slice Aa la.length ca, .int .i64 fa, .int .i64 ta] #[.int .i64 ib, .slice Ab lb.length cb, .int .i64 fb, .int .i64 tb] 26 26
  replace hT := hT.ext HX.below
  replace Ea := Ea.ext HX.below
  replace Eb := Eb.ext HX.below
  replace Et := Et.ext HX.below
  refine (hawake_any _ hT).mono ?_
  rintro e w1 ⟨rfl, hb⟩
  replace HX := HX.ext hb
  replace hT := hT.ext hb
  replace Ea := Ea.ext hb
  replace Eb := Eb.ext hb
  replace Et := Et.ext hb
  clear hb
  have hc00 := HX.cell 0 0 rfl rfl
  have hc01 := HX.cell 0 1 rfl rfl
  have hc02 := HX.cell 0 2 rfl rfl
  have hc03 := HX.cell 0 3 rfl rfl
  try simp only [List.getElem_toArray, List.getElem_cons_zero, List.getElem_cons_succ] at hc00 hc01 hc02 hc03
  have hc10 := HX.cell 1 0 rfl rfl
  have hc11 := HX.cell 1 1 rfl rfl
  have hc12 := HX.cell 1 2 rfl rfl
  have hc13 := HX.cell 1 3 rfl rfl
  try simp only [List.getElem_toArray, List.getElem_cons_zero, List.getElem_cons_succ] at hc10 hc11 hc12 hc13
  go_wp2_with fail
  have hfs := HFS.lit w1 26 [(HE.mk ia Aa la.length ca fa ta), (HE.mk ib Ab lb.length cb fb tb)] #[.int .i64 ia, .slice Aa la.length ca, .int .i64 fa, .int .i64 ta, .int .i64 ib, .slice Ab lb.length cb, .int .i64 fb, .int .i64 tb] rfl
  refine (hfew_any _ 2 2 _ _ hfs rfl (by omega) hlens.out).mono ?_
  rintro e w2 ⟨rfl, rfl⟩
  rw [hfew.out]
  have hb := below_alloc w1 (.cells #[.int .i64 ia, .slice Aa la.length ca, .int .i64 fa, .int .i64 ta, .int .i64 ib, .slice Ab lb.length cb, .int .i64 fb, .int .i64 tb] 26)
  clear hfs
  clear hc00 hc01 hc02 hc03
  clear hc10 hc11 hc12 hc13
  replace HX := HX.ext hb
  replace hT := hT.ext hb
  replace Ea := Ea.ext hb
  replace Eb := Eb.ext hb
  replace Et := Et.ext hb
  clear hb
  generalize w1.alloc (.cells #[.int .i64 ia, .slice Aa la.length ca, .int .i64 fa, .int .i64 ta, .int .i64 ib, .slice Ab lb.length cb, .int .i64 fb, .int .i64 tb] 26) = w2 at *
  go_wp2_with fail
  refine (hawake_any _ hT).mono ?_
  rintro e w3 ⟨rfl, hb⟩
  replace HX := HX.ext hb
  go_wp2
  go_ret
  exact ⟨by first | rfl | simp, HX.below⟩
set_option maxHeartbeats 4000000 in
set_option maxRecDepth 100000 in
theorem hlast_bad1_yes {ia fa ta : Int} {Aa : Option Addr} {ca : Nat} {la : List (Int × Int)} {ib fb tb : Int} {Ab : Option Addr} {cb : Nat} {lb : List (Int × Int)} {At : Option Addr} {ct : Nat} {ts : List (Int × Int)} (w : World) (hT : Tab w) (Ea : Es w Aa la) (hla : la.length ≤ 9223372036854775807) (Eb : Es w Ab lb) (hlb : lb.length ≤ 9223372036854775807) (Et : Es w At ts) (hts : ts.length ≤ 9223372036854775807) (hlens : Hid (∀ x ∈ [(HE.mk ia Aa la.length ca fa ta), (HE.mk ib Ab lb.length cb fb tb)], x.n ≤ 9223372036854775807)) (hfew : Hid (fewH [(HE.mk ia Aa la.length ca fa ta), (HE.mk ib Ab lb.length cb fb tb)] = true)) (_ : la.length ≤ 40) (_ : lb.length ≤ 40) (h120 : ¬ 120 < ts.length) {rx ry ex ey : Int} (hx : LateIs ia la fa ta ts rx ex) (hy : LateIs ib lb fb tb ts ry ey) (he : (ex != 0) = true) :
    Calls Tryd.prog 6 #[.agg #[.int .i64 ia, .slice Aa la.length ca, .int .i64 fa, .int .i64 ta], .agg #[.int .i64 ib, .slice Ab lb.length cb, .int .i64 fb, .int .i64 tb], .slice At ts.length ct] w (RetB w true) := by
  have h120b : decide ((120 : Int) < (ts.length : Int)) = false := decide_eq_false (by omega)
  go_enter Tryd.func6, Tryd.ntmps6
  go_wp2_with fail
  have HX := BL.two w #[.int .i64 ia, .slice Aa la.length ca, .int .i64 fa, .int .i64 ta] #[.int .i64 ib, .slice Ab lb.length cb, .int .i64 fb, .int .i64 tb] 26 26
  replace hT := hT.ext HX.below
  replace Ea := Ea.ext HX.below
  replace Eb := Eb.ext HX.below
  replace Et := Et.ext HX.below
  refine (hawake_any _ hT).mono ?_
  rintro e w1 ⟨rfl, hb⟩
  replace HX := HX.ext hb
  replace hT := hT.ext hb
  replace Ea := Ea.ext hb
  replace Eb := Eb.ext hb
  replace Et := Et.ext hb
  clear hb
  have hc00 := HX.cell 0 0 rfl rfl
  have hc01 := HX.cell 0 1 rfl rfl
  have hc02 := HX.cell 0 2 rfl rfl
  have hc03 := HX.cell 0 3 rfl rfl
  try simp only [List.getElem_toArray, List.getElem_cons_zero, List.getElem_cons_succ] at hc00 hc01 hc02 hc03
  have hc10 := HX.cell 1 0 rfl rfl
  have hc11 := HX.cell 1 1 rfl rfl
  have hc12 := HX.cell 1 2 rfl rfl
  have hc13 := HX.cell 1 3 rfl rfl
  try simp only [List.getElem_toArray, List.getElem_cons_zero, List.getElem_cons_succ] at hc10 hc11 hc12 hc13
  go_wp2_with fail
  have hfs := HFS.lit w1 26 [(HE.mk ia Aa la.length ca fa ta), (HE.mk ib Ab lb.length cb fb tb)] #[.int .i64 ia, .slice Aa la.length ca, .int .i64 fa, .int .i64 ta, .int .i64 ib, .slice Ab lb.length cb, .int .i64 fb, .int .i64 tb] rfl
  refine (hfew_any _ 2 2 _ _ hfs rfl (by omega) hlens.out).mono ?_
  rintro e w2 ⟨rfl, rfl⟩
  rw [hfew.out]
  have hb := below_alloc w1 (.cells #[.int .i64 ia, .slice Aa la.length ca, .int .i64 fa, .int .i64 ta, .int .i64 ib, .slice Ab lb.length cb, .int .i64 fb, .int .i64 tb] 26)
  clear hfs
  clear hc00 hc01 hc02 hc03
  clear hc10 hc11 hc12 hc13
  replace HX := HX.ext hb
  replace hT := hT.ext hb
  replace Ea := Ea.ext hb
  replace Eb := Eb.ext hb
  replace Et := Et.ext hb
  clear hb
  generalize w1.alloc (.cells #[.int .i64 ia, .slice Aa la.length ca, .int .i64 fa, .int .i64 ta, .int .i64 ib, .slice Ab lb.length cb, .int .i64 fb, .int .i64 tb] 26) = w2 at *
  clear hlens hfew
  have hc00 := HX.cell 0 0 rfl rfl
  have hc01 := HX.cell 0 1 rfl rfl
  have hc02 := HX.cell 0 2 rfl rfl
  have hc03 := HX.cell 0 3 rfl rfl
  try simp only [List.getElem_toArray, List.getElem_cons_zero, List.getElem_cons_succ] at hc00 hc01 hc02 hc03
  go_wp2_with fail
  refine (hlate_any _ _ _ _ la ts _ Ea Et hla hts hx).mono ?_
  rintro e w3 ⟨rfl, hb⟩
  clear hc00 hc01 hc02 hc03
  replace HX := HX.ext hb
  replace hT := hT.ext hb
  replace Ea := Ea.ext hb
  replace Eb := Eb.ext hb
  replace Et := Et.ext hb
  clear hb
  have hc10 := HX.cell 1 0 rfl rfl
  have hc11 := HX.cell 1 1 rfl rfl
  have hc12 := HX.cell 1 2 rfl rfl
  have hc13 := HX.cell 1 3 rfl rfl
  try simp only [List.getElem_toArray, List.getElem_cons_zero, List.getElem_cons_succ] at hc10 hc11 hc12 hc13
  go_wp2_with fail
  refine (hlate_any _ _ _ _ lb ts _ Eb Et hlb hts hy).mono ?_
  rintro e w4 ⟨rfl, hb⟩
  clear hc10 hc11 hc12 hc13
  replace HX := HX.ext hb
  replace hT := hT.ext hb
  replace Ea := Ea.ext hb
  replace Eb := Eb.ext hb
  replace Et := Et.ext hb
  clear hb
  go_wp2
  go_ret
  exact ⟨by first | rfl | simp, HX.below⟩
set_option maxHeartbeats 4000000 in
set_option maxRecDepth 100000 in
theorem hlast_bad2_yes {ia fa ta : Int} {Aa : Option Addr} {ca : Nat} {la : List (Int × Int)} {ib fb tb : Int} {Ab : Option Addr} {cb : Nat} {lb : List (Int × Int)} {At : Option Addr} {ct : Nat} {ts : List (Int × Int)} (w : World) (hT : Tab w) (Ea : Es w Aa la) (hla : la.length ≤ 9223372036854775807) (Eb : Es w Ab lb) (hlb : lb.length ≤ 9223372036854775807) (Et : Es w At ts) (hts : ts.length ≤ 9223372036854775807) (hlens : Hid (∀ x ∈ [(HE.mk ia Aa la.length ca fa ta), (HE.mk ib Ab lb.length cb fb tb)], x.n ≤ 9223372036854775807)) (hfew : Hid (fewH [(HE.mk ia Aa la.length ca fa ta), (HE.mk ib Ab lb.length cb fb tb)] = true)) (_ : la.length ≤ 40) (_ : lb.length ≤ 40) (h120 : ¬ 120 < ts.length) {rx ry ex ey : Int} (hx : LateIs ia la fa ta ts rx ex) (hy : LateIs ib lb fb tb ts ry ey) (hx0 : (ex != 0) = false) (he : (ey != 0) = true) :
    Calls Tryd.prog 6 #[.agg #[.int .i64 ia, .slice Aa la.length ca, .int .i64 fa, .int .i64 ta], .agg #[.int .i64 ib, .slice Ab lb.length cb, .int .i64 fb, .int .i64 tb], .slice At ts.length ct] w (RetB w true) := by
  have h120b : decide ((120 : Int) < (ts.length : Int)) = false := decide_eq_false (by omega)
  go_enter Tryd.func6, Tryd.ntmps6
  go_wp2_with fail
  have HX := BL.two w #[.int .i64 ia, .slice Aa la.length ca, .int .i64 fa, .int .i64 ta] #[.int .i64 ib, .slice Ab lb.length cb, .int .i64 fb, .int .i64 tb] 26 26
  replace hT := hT.ext HX.below
  replace Ea := Ea.ext HX.below
  replace Eb := Eb.ext HX.below
  replace Et := Et.ext HX.below
  refine (hawake_any _ hT).mono ?_
  rintro e w1 ⟨rfl, hb⟩
  replace HX := HX.ext hb
  replace hT := hT.ext hb
  replace Ea := Ea.ext hb
  replace Eb := Eb.ext hb
  replace Et := Et.ext hb
  clear hb
  have hc00 := HX.cell 0 0 rfl rfl
  have hc01 := HX.cell 0 1 rfl rfl
  have hc02 := HX.cell 0 2 rfl rfl
  have hc03 := HX.cell 0 3 rfl rfl
  try simp only [List.getElem_toArray, List.getElem_cons_zero, List.getElem_cons_succ] at hc00 hc01 hc02 hc03
  have hc10 := HX.cell 1 0 rfl rfl
  have hc11 := HX.cell 1 1 rfl rfl
  have hc12 := HX.cell 1 2 rfl rfl
  have hc13 := HX.cell 1 3 rfl rfl
  try simp only [List.getElem_toArray, List.getElem_cons_zero, List.getElem_cons_succ] at hc10 hc11 hc12 hc13
  go_wp2_with fail
  have hfs := HFS.lit w1 26 [(HE.mk ia Aa la.length ca fa ta), (HE.mk ib Ab lb.length cb fb tb)] #[.int .i64 ia, .slice Aa la.length ca, .int .i64 fa, .int .i64 ta, .int .i64 ib, .slice Ab lb.length cb, .int .i64 fb, .int .i64 tb] rfl
  refine (hfew_any _ 2 2 _ _ hfs rfl (by omega) hlens.out).mono ?_
  rintro e w2 ⟨rfl, rfl⟩
  rw [hfew.out]
  have hb := below_alloc w1 (.cells #[.int .i64 ia, .slice Aa la.length ca, .int .i64 fa, .int .i64 ta, .int .i64 ib, .slice Ab lb.length cb, .int .i64 fb, .int .i64 tb] 26)
  clear hfs
  clear hc00 hc01 hc02 hc03
  clear hc10 hc11 hc12 hc13
  replace HX := HX.ext hb
  replace hT := hT.ext hb
  replace Ea := Ea.ext hb
  replace Eb := Eb.ext hb
  replace Et := Et.ext hb
  clear hb
  generalize w1.alloc (.cells #[.int .i64 ia, .slice Aa la.length ca, .int .i64 fa, .int .i64 ta, .int .i64 ib, .slice Ab lb.length cb, .int .i64 fb, .int .i64 tb] 26) = w2 at *
  clear hlens hfew
  have hc00 := HX.cell 0 0 rfl rfl
  have hc01 := HX.cell 0 1 rfl rfl
  have hc02 := HX.cell 0 2 rfl rfl
  have hc03 := HX.cell 0 3 rfl rfl
  try simp only [List.getElem_toArray, List.getElem_cons_zero, List.getElem_cons_succ] at hc00 hc01 hc02 hc03
  go_wp2_with fail
  refine (hlate_any _ _ _ _ la ts _ Ea Et hla hts hx).mono ?_
  rintro e w3 ⟨rfl, hb⟩
  clear hc00 hc01 hc02 hc03
  replace HX := HX.ext hb
  replace hT := hT.ext hb
  replace Ea := Ea.ext hb
  replace Eb := Eb.ext hb
  replace Et := Et.ext hb
  clear hb
  have hc10 := HX.cell 1 0 rfl rfl
  have hc11 := HX.cell 1 1 rfl rfl
  have hc12 := HX.cell 1 2 rfl rfl
  have hc13 := HX.cell 1 3 rfl rfl
  try simp only [List.getElem_toArray, List.getElem_cons_zero, List.getElem_cons_succ] at hc10 hc11 hc12 hc13
  go_wp2_with fail
  refine (hlate_any _ _ _ _ lb ts _ Eb Et hlb hts hy).mono ?_
  rintro e w4 ⟨rfl, hb⟩
  clear hc10 hc11 hc12 hc13
  replace HX := HX.ext hb
  replace hT := hT.ext hb
  replace Ea := Ea.ext hb
  replace Eb := Eb.ext hb
  replace Et := Et.ext hb
  clear hb
  go_wp2
  go_ret
  exact ⟨by first | rfl | simp, HX.below⟩
set_option maxHeartbeats 6000000 in
set_option maxRecDepth 100000 in
theorem hlast_ok_yes {ia fa ta : Int} {Aa : Option Addr} {ca : Nat} {la : List (Int × Int)} {ib fb tb : Int} {Ab : Option Addr} {cb : Nat} {lb : List (Int × Int)} {At : Option Addr} {ct : Nat} {ts : List (Int × Int)} (w : World) (hT : Tab w) (Ea : Es w Aa la) (hla : la.length ≤ 9223372036854775807) (Eb : Es w Ab lb) (hlb : lb.length ≤ 9223372036854775807) (Et : Es w At ts) (hts : ts.length ≤ 9223372036854775807) (hlens : Hid (∀ x ∈ [(HE.mk ia Aa la.length ca fa ta), (HE.mk ib Ab lb.length cb fb tb)], x.n ≤ 9223372036854775807)) (hfew : Hid (fewH [(HE.mk ia Aa la.length ca fa ta), (HE.mk ib Ab lb.length cb fb tb)] = true)) (_ : la.length ≤ 40) (_ : lb.length ≤ 40) (h120 : ¬ 120 < ts.length) {rx ry : Int} (hx : LateIs ia la fa ta ts rx 0) (hy : LateIs ib lb fb tb ts ry 0) :
    Calls Tryd.prog 6 #[.agg #[.int .i64 ia, .slice Aa la.length ca, .int .i64 fa, .int .i64 ta], .agg #[.int .i64 ib, .slice Ab lb.length cb, .int .i64 fb, .int .i64 tb], .slice At ts.length ct] w (RetB w true) := by
  have h120b : decide ((120 : Int) < (ts.length : Int)) = false := decide_eq_false (by omega)
  obtain ⟨va, vts, yx, tx1, _, tx3⟩ := hx.ok
  have HVA := Lib.hid va
  have HTS := Lib.hid vts
  have HTX := Lib.hid tx1
  have HT3 := Lib.hid tx3
  obtain ⟨nx, hnx0⟩ : ∃ n, numE la rx = n := ⟨_, rfl⟩
  have hnx : NumIs ia la fa ta rx nx := ⟨fun _ => hnx0.symm, fun h => absurd va h⟩
  have hnp : decide (0 < nx) = true := decide_eq_true (by have := hx.num.1; omega)
  clear va vts tx1 tx3 hnx0
  obtain ⟨im, lm, fm, tm, eg, mm⟩ := MergeIs.ex ia la fa ta ib lb fb tb
  have hlm : lm.length ≤ 9223372036854775807 := Nat.le_trans mm.len (by omega)
  have Eaw := Ea
  have Ebw := Eb
  have Etw := Et
  go_enter Tryd.func6, Tryd.ntmps6
  go_wp2_with fail
  have HX := BL.two w #[.int .i64 ia, .slice Aa la.length ca, .int .i64 fa, .int .i64 ta] #[.int .i64 ib, .slice Ab lb.length cb, .int .i64 fb, .int .i64 tb] 26 26
  replace hT := hT.ext HX.below
  replace Ea := Ea.ext HX.below
  replace Eb := Eb.ext HX.below
  replace Et := Et.ext HX.below
  refine (hawake_any _ hT).mono ?_
  rintro e w1 ⟨rfl, hb⟩
  replace HX := HX.ext hb
  replace hT := hT.ext hb
  replace Ea := Ea.ext hb
  replace Eb := Eb.ext hb
  replace Et := Et.ext hb
  clear hb
  have hc00 := HX.cell 0 0 rfl rfl
  have hc01 := HX.cell 0 1 rfl rfl
  have hc02 := HX.cell 0 2 rfl rfl
  have hc03 := HX.cell 0 3 rfl rfl
  try simp only [List.getElem_toArray, List.getElem_cons_zero, List.getElem_cons_succ] at hc00 hc01 hc02 hc03
  have hc10 := HX.cell 1 0 rfl rfl
  have hc11 := HX.cell 1 1 rfl rfl
  have hc12 := HX.cell 1 2 rfl rfl
  have hc13 := HX.cell 1 3 rfl rfl
  try simp only [List.getElem_toArray, List.getElem_cons_zero, List.getElem_cons_succ] at hc10 hc11 hc12 hc13
  go_wp2_with fail
  have hfs := HFS.lit w1 26 [(HE.mk ia Aa la.length ca fa ta), (HE.mk ib Ab lb.length cb fb tb)] #[.int .i64 ia, .slice Aa la.length ca, .int .i64 fa, .int .i64 ta, .int .i64 ib, .slice Ab lb.length cb, .int .i64 fb, .int .i64 tb] rfl
  refine (hfew_any _ 2 2 _ _ hfs rfl (by omega) hlens.out).mono ?_
  rintro e w2 ⟨rfl, rfl⟩
  rw [hfew.out]
  have hb := below_alloc w1 (.cells #[.int .i64 ia, .slice Aa la.length ca, .int .i64 fa, .int .i64 ta, .int .i64 ib, .slice Ab lb.length cb, .int .i64 fb, .int .i64 tb] 26)
  clear hfs
  clear hc00 hc01 hc02 hc03
  clear hc10 hc11 hc12 hc13
  replace HX := HX.ext hb
  replace hT := hT.ext hb
  replace Ea := Ea.ext hb
  replace Eb := Eb.ext hb
  replace Et := Et.ext hb
  clear hb
  generalize w1.alloc (.cells #[.int .i64 ia, .slice Aa la.length ca, .int .i64 fa, .int .i64 ta, .int .i64 ib, .slice Ab lb.length cb, .int .i64 fb, .int .i64 tb] 26) = w2 at *
  clear hlens hfew
  have hc00 := HX.cell 0 0 rfl rfl
  have hc01 := HX.cell 0 1 rfl rfl
  have hc02 := HX.cell 0 2 rfl rfl
  have hc03 := HX.cell 0 3 rfl rfl
  try simp only [List.getElem_toArray, List.getElem_cons_zero, List.getElem_cons_succ] at hc00 hc01 hc02 hc03
  go_wp2_with fail
  refine (hlate_any _ _ _ _ la ts _ Ea Et hla hts hx).mono ?_
  rintro e w3 ⟨rfl, hb⟩
  clear hc00 hc01 hc02 hc03
  replace HX := HX.ext hb
  replace hT := hT.ext hb
  replace Ea := Ea.ext hb
  replace Eb := Eb.ext hb
  replace Et := Et.ext hb
  clear hb
  have hc10 := HX.cell 1 0 rfl rfl
  have hc11 := HX.cell 1 1 rfl rfl
  have hc12 := HX.cell 1 2 rfl rfl
  have hc13 := HX.cell 1 3 rfl rfl
  try simp only [List.getElem_toArray, List.getElem_cons_zero, List.getElem_cons_succ] at hc10 hc11 hc12 hc13
  go_wp2_with fail
  refine (hlate_any _ _ _ _ lb ts _ Eb Et hlb hts hy).mono ?_
  rintro e w4 ⟨rfl, hb⟩
  clear hc10 hc11 hc12 hc13
  replace HX := HX.ext hb
  replace hT := hT.ext hb
  replace Ea := Ea.ext hb
  replace Eb := Eb.ext hb
  replace Et := Et.ext hb
  clear hb
  clear Ea Eb Et hT
  go_wp2
  go_loopg [11, 12] ts.length (fun kk u i wr => ∃ j : Nat, j + kk = ts.length ∧ i = .int .i64 (j : Int) ∧ u = .int .i64 ((valE (ts.take j) rx).getD (-10000)) ∧ BL w wr [(w.heap.size, #[.int .i64 ia, .slice Aa la.length ca, .int .i64 fa, .int .i64 ta], 26), (w.heap.size + 1, #[.int .i64 ib, .slice Ab lb.length cb, .int .i64 fb, .int .i64 tb], 26)])
  case atStart => exact ⟨0, by omega, rfl, rfl, HX⟩
  case round =>
    clear HX
    obtain ⟨j, hj, rfl, rfl, HX⟩ := hrel
    by_cases hj0 : j < ts.length
    · have hxx := Lib.hid (List.getElem?_eq_getElem hj0)
      obtain ⟨ad, rfl, hbk, c0, c1⟩ := (Etw.ext HX.below).at_ hxx.out
      generalize ts[j] = x at *
      obtain ⟨k, v⟩ := x
      simp only [] at c0 c1
      have hsu := Lib.hid (valE_succ hxx.out rx)
      by_cases hk : k = rx
      · have hkb : (k == rx) = true := beq_iff_eq.2 hk
        have hn : Hid ((valE (ts.take (j + 1)) rx).getD (-10000) = v) := Lib.hid (by
          have h1 := valE_once HTS.out hxx.out
          simp only [] at h1
          rw [hk] at h1
          rw [hsu.out, h1, if_pos hk]; rfl)
        clear hk hsu
        generalize (valE (ts.take j) rx).getD (-10000) = s
        go_wp2
        go_roundg (ts.length - (j + 1))
        case measure => omega
        case rel => exact ⟨j + 1, by omega, by go_num, by rw [hn.out], HX⟩
      · have hkb : (k == rx) = false := beq_eq_false_iff_ne.2 hk
        have hn : Hid ((valE (ts.take (j + 1)) rx).getD (-10000) = (valE (ts.take j) rx).getD (-10000)) := Lib.hid (by rw [hsu.out, if_neg hk, Option.or_none])
        clear hk hsu
        obtain ⟨s, hs0⟩ : ∃ s, (valE (ts.take j) rx).getD (-10000) = s := ⟨_, rfl⟩
        rw [hs0] at hn
        rw [hs0]
        clear hs0
        go_wp2
        go_roundg (ts.length - (j + 1))
        case measure => omega
        case rel => exact ⟨j + 1, by omega, by go_num, by rw [hn.out], HX⟩
    · have hlate : (valE (ts.take j) rx).getD (-10000) = yx := by rw [show j = ts.length by omega, List.take_length, HTX.out]; rfl
      rw [hlate]
      clear hlate
      go_wp2
      go_loopg [13] ts.length (fun kk i wr => ∃ j : Nat, j + kk = ts.length ∧ i = .int .i64 (j : Int) ∧ BL w wr [(w.heap.size, #[.int .i64 ia, .slice Aa la.length ca, .int .i64 fa, .int .i64 ta], 26), (w.heap.size + 1, #[.int .i64 ib, .slice Ab lb.length cb, .int .i64 fb, .int .i64 tb], 26)])
      case atStart => exact ⟨0, by omega, rfl, HX⟩
      case round =>
        clear HX hj hj0
        obtain ⟨j2, hj2, rfl, HX⟩ := hrel
        by_cases hj3 : j2 < ts.length
        · have hxx := Lib.hid (List.getElem?_eq_getElem hj3)
          obtain ⟨ad, rfl, hbk, c0, c1⟩ := (Etw.ext HX.below).at_ hxx.out
          generalize ts[j2] = x at *
          obtain ⟨k, v⟩ := x
          simp only [] at c0 c1
          have hval := val_at HTS.out hxx.out
          obtain ⟨n, hn0⟩ : ∃ n, numE la k = n := ⟨_, rfl⟩
          have hn : NumIs ia la fa ta k n := ⟨fun _ => hn0.symm, fun h => absurd HVA.out h⟩
          have hle : 0 < n → v < yx ∨ v = yx ∧ k ≤ rx := fun h => by
            obtain ⟨z, hz, hzk⟩ := num_mem (s := k) (by rw [hn0]; exact h) HVA.out.2.2.1
            obtain ⟨u, h1, h2⟩ := HT3.out z hz
            rw [hzk] at h1 h2
            obtain rfl : u = v := Option.some.inj (h1.symm.trans hval)
            exact h2
          clear hval hn0
          have Ea := Eaw.ext HX.below
          go_upto_region 16 with fail
          by_cases hnn : 0 < n
          · have hnb : decide (0 < n) = true := decide_eq_true hnn
            rcases hle hnn with hv | ⟨hv, hk⟩
            · have hs1 : decide (yx < v) = false := decide_eq_false (by omega)
              have hs2 : (v == yx) = false := beq_eq_false_iff_ne.2 (by omega)
              clear hle hnn hv
              go_cut [109] (fun x wx => x = .bool false ∧ BL w wx [(w.heap.size, #[.int .i64 ia, .slice Aa la.length ca, .int .i64 fa, .int .i64 ta], 26), (w.heap.size + 1, #[.int .i64 ib, .slice Ab lb.length cb, .int .i64 fb, .int .i64 tb], 26)])
              case first =>
                have HD := BL.nil wr
                have held : ∀ {W' : World}, BL w W' [(w.heap.size, #[.int .i64 ia, .slice Aa la.length ca, .int .i64 fa, .int .i64 ta], 26), (w.heap.size + 1, #[.int .i64 ib, .slice Ab lb.length cb, .int .i64 fb, .int .i64 tb], 26)] → Below wr.heap.size wr W' → W'.cell? ⟨w.heap.size, 0, none⟩ = some (.int .i64 ia) ∧ W'.cell? ⟨w.heap.size, 1, none⟩ = some (.slice Aa la.length ca) ∧ W'.cell? ⟨w.heap.size, 2, none⟩ = some (.int .i64 fa) ∧ W'.cell? ⟨w.heap.size, 3, none⟩ = some (.int .i64 ta) ∧ W'.cell? (ad.add (j2 * 2)) = some (.int .i64 k) ∧ W'.cell? ⟨(ad.add (j2 * 2)).block, (ad.add (j2 * 2)).off + 1, none⟩ = some (.int .i64 v) := fun h hb => ⟨h.cell 0 0 rfl rfl, h.cell 0 1 rfl rfl, h.cell 0 2 rfl rfl, h.cell 0 3 rfl rfl, by rw [hb.cell (cell_lt c0)]; exact c0, by rw [hb.cell (cell_lt c1)]; exact c1⟩
                replace HX := HX.ext (drew_ext _)
                replace HD := HD.ext (drew_ext _)
                replace Ea := Ea.ext (drew_ext _)
                refine wp_region_held_drew (S := fun W' => W'.cell? ⟨w.heap.size, 0, none⟩ = some (.int .i64 ia) ∧ W'.cell? ⟨w.heap.size, 1, none⟩ = some (.slice Aa la.length ca) ∧ W'.cell? ⟨w.heap.size, 2, none⟩ = some (.int .i64 fa) ∧ W'.cell? ⟨w.heap.size, 3, none⟩ = some (.int .i64 ta) ∧ W'.cell? (ad.add (j2 * 2)) = some (.int .i64 k) ∧ W'.cell? ⟨(ad.add (j2 * 2)).block, (ad.add (j2 * 2)).off + 1, none⟩ = some (.int .i64 v)) (by kernel_rfl) (held HX HD.below) (fun hHeld => ?_)
                refine wpAnyH_take (i := 0) (v := ?_) (by simp only [List.getElem?_toArray, List.getElem?_cons_zero]; rfl) (by kernel_rfl) (by kernel_rfl) (by kernel_rfl) (by exact fun _ _ _ h => h) (Or.inl ⟨by kernel_rfl, ?_⟩) (by assumption) ?_
                rotate_left
                · intro w hSw; (try dsimp only at hSw); go_simp <;> (try with_reducible rfl)
                try simp only [Act.put, List.setIfInBounds_toArray, List.set_cons_zero, List.set_cons_succ]
                refine wpAnyH_take (i := 1) (v := ?_) (by simp only [List.getElem?_toArray, List.getElem?_cons_succ, List.getElem?_cons_zero]; rfl) (by kernel_rfl) (by kernel_rfl) (by kernel_rfl) (by exact fun _ _ _ h => h) (Or.inl ⟨by kernel_rfl, ?_⟩) (by assumption) ?_
                rotate_left
                · intro w hSw; (try dsimp only at hSw); go_simp <;> (try with_reducible rfl)
                try simp only [Act.put, List.setIfInBounds_toArray, List.set_cons_zero, List.set_cons_succ]
                refine wpAnyH_take (i := 2) (v := ?_) (by simp only [List.getElem?_toArray, List.getElem?_cons_succ, List.getElem?_cons_zero]; rfl) (by kernel_rfl) (by kernel_rfl) (by kernel_rfl) (by exact fun _ _ _ h => h) (Or.inl ⟨by kernel_rfl, ?_⟩) (by assumption) ?_
                rotate_left
                · intro w hSw; (try dsimp only at hSw); go_simp <;> (try with_reducible rfl)
                try simp only [Act.put, List.setIfInBounds_toArray, List.set_cons_zero, List.set_cons_succ]
                refine wpAnyH_take (i := 3) (v := ?_) (by simp only [List.getElem?_toArray, List.getElem?_cons_succ, List.getElem?_cons_zero]; rfl) (by kernel_rfl) (by kernel_rfl) (by kernel_rfl) (by exact fun _ _ _ h => h) (Or.inl ⟨by kernel_rfl, ?_⟩) (by assumption) ?_
                rotate_left
                · intro w hSw; (try dsimp only at hSw); go_simp <;> (try with_reducible rfl)
                try simp only [Act.put, List.setIfInBounds_toArray, List.set_cons_zero, List.set_cons_succ]
                refine wpAnyH_take (i := 4) (v := ?_) (by simp only [List.getElem?_toArray, List.getElem?_cons_succ, List.getElem?_cons_zero]; rfl) (by kernel_rfl) (by kernel_rfl) (by kernel_rfl) (by exact fun _ _ _ h => h) (Or.inl ⟨by kernel_rfl, ?_⟩) (by assumption) ?_
                rotate_left
                · intro w hSw; (try dsimp only at hSw); go_simp <;> (try with_reducible rfl)
                try simp only [Act.put, List.setIfInBounds_toArray, List.set_cons_zero, List.set_cons_succ]
                refine wpAnyH_take (i := 5) (v := ?_) (by simp only [List.getElem?_toArray, List.getElem?_cons_succ, List.getElem?_cons_zero]; rfl) (by kernel_rfl) (by kernel_rfl) (by kernel_rfl) (by exact fun _ _ _ h => h) (Or.inl ⟨by kernel_rfl, ?_⟩) (by assumption) ?_
                rotate_left
                · intro w hSw; (try dsimp only at hSw); go_simp <;> (try with_reducible rfl)
                try simp only [Act.put, List.setIfInBounds_toArray, List.set_cons_zero, List.set_cons_succ]
                refine wpAnyH_ready (rs := [6]) (by kernel_rfl) (by simp) ?_
                refine AllReadyH.cons (by simp only [List.getElem?_toArray, List.getElem?_cons_succ, List.getElem?_cons_zero]; rfl) (fun K hK => ?_) AllReadyH.nil
                go_simp
                go_at_call 15
                refine (hnumber_any _ _ la _ Ea hla hn).mono ?_
                rintro e w7 ⟨rfl, hb⟩
                replace HX := HX.ext hb
                replace HD := HD.ext hb
                replace Ea := Ea.ext hb
                clear hb hHeld
                refine hK.out _ _ (held HX HD.below) (fun hHeld => ?_)
                clear hK K
                try simp only [Act.put, List.setIfInBounds_toArray, List.set_cons_zero, List.set_cons_succ]
                refine wpAnyH_take (i := 7) (v := ?_) (by simp only [List.getElem?_toArray, List.getElem?_cons_succ, List.getElem?_cons_zero]; rfl) (by kernel_rfl) (by kernel_rfl) (by kernel_rfl) (by exact fun _ _ _ h => h) (Or.inl ⟨by kernel_rfl, ?_⟩) (by assumption) ?_
                rotate_left
                · intro w hSw; (try dsimp only at hSw); go_simp <;> (try with_reducible rfl)
                try simp only [Act.put, List.setIfInBounds_toArray, List.set_cons_zero, List.set_cons_succ]
                refine wpAnyH_take (i := 8) (v := ?_) (by simp only [List.getElem?_toArray, List.getElem?_cons_succ, List.getElem?_cons_zero]; rfl) (by kernel_rfl) (by kernel_rfl) (by kernel_rfl) (by exact fun _ _ _ h => h) (Or.inl ⟨by kernel_rfl, ?_⟩) (by assumption) ?_
                rotate_left
                · intro w hSw; (try dsimp only at hSw); go_simp <;> (try with_reducible rfl)
                try simp only [Act.put, List.setIfInBounds_toArray, List.set_cons_zero, List.set_cons_succ]
                refine wpAnyH_take (i := 9) (v := ?_) (by simp only [List.getElem?_toArray, List.getElem?_cons_succ, List.getElem?_cons_zero]; rfl) (by kernel_rfl) (by kernel_rfl) (by kernel_rfl) (by exact fun _ _ _ h => h) (Or.inl ⟨by kernel_rfl, ?_⟩) (by assumption) ?_
                rotate_left
                · intro w hSw; (try dsimp only at hSw); go_simp <;> (try with_reducible rfl)
                try simp only [Act.put, List.setIfInBounds_toArray, List.set_cons_zero, List.set_cons_succ]
                refine wpAnyH_take (i := 10) (v := ?_) (by simp only [List.getElem?_toArray, List.getElem?_cons_succ, List.getElem?_cons_zero]; rfl) (by kernel_rfl) (by kernel_rfl) (by kernel_rfl) (by exact fun _ _ _ h => h) (Or.inl ⟨by kernel_rfl, ?_⟩) (by assumption) ?_
                rotate_left
                · intro w hSw; (try dsimp only at hSw); go_simp <;> (try with_reducible rfl)
                try simp only [Act.put, List.setIfInBounds_toArray, List.set_cons_zero, List.set_cons_succ]
                refine wpAnyH_take (i := 11) (v := ?_) (by simp only [List.getElem?_toArray, List.getElem?_cons_succ, List.getElem?_cons_zero]; rfl) (by kernel_rfl) (by kernel_rfl) (by kernel_rfl) (by exact fun _ _ _ h => h) (Or.inl ⟨by kernel_rfl, ?_⟩) (by assumption) ?_
                rotate_left
                · intro w hSw; (try dsimp only at hSw); go_simp <;> (try with_reducible rfl)
                try simp only [Act.put, List.setIfInBounds_toArray, List.set_cons_zero, List.set_cons_succ]
                refine wpAnyH_take (i := 12) (v := ?_) (by simp only [List.getElem?_toArray, List.getElem?_cons_succ, List.getElem?_cons_zero]; rfl) (by kernel_rfl) (by kernel_rfl) (by kernel_rfl) (by exact fun _ _ _ h => h) (Or.inl ⟨by kernel_rfl, ?_⟩) (by assumption) ?_
                rotate_left
                · intro w hSw; (try dsimp only at hSw); go_simp <;> (try with_reducible rfl)
                try simp only [Act.put, List.setIfInBounds_toArray, List.set_cons_zero, List.set_cons_succ]
                refine wpAnyH_take (i := 13) (v := ?_) (by simp only [List.getElem?_toArray, List.getElem?_cons_succ, List.getElem?_cons_zero]; rfl) (by kernel_rfl) (by kernel_rfl) (by kernel_rfl) (by exact fun _ _ _ h => h) (Or.inl ⟨by kernel_rfl, ?_⟩) (by assumption) ?_
                rotate_left
                · intro w hSw; (try dsimp only at hSw); go_simp <;> (try with_reducible rfl)
                try simp only [Act.put, List.setIfInBounds_toArray, List.set_cons_zero, List.set_cons_succ]
                refine wpAnyH_take (i := 14) (v := ?_) (by simp only [List.getElem?_toArray, List.getElem?_cons_succ, List.getElem?_cons_zero]; rfl) (by kernel_rfl) (by kernel_rfl) (by kernel_rfl) (by exact fun _ _ _ h => h) (Or.inl ⟨by kernel_rfl, ?_⟩) (by assumption) ?_
                rotate_left
                · intro w hSw; (try dsimp only at hSw); go_simp <;> (try with_reducible rfl)
                try simp only [Act.put, List.setIfInBounds_toArray, List.set_cons_zero, List.set_cons_succ]
                refine wpAnyH_take (i := 15) (v := ?_) (by simp only [List.getElem?_toArray, List.getElem?_cons_succ, List.getElem?_cons_zero]; rfl) (by kernel_rfl) (by kernel_rfl) (by kernel_rfl) (by exact fun _ _ _ h => h) (Or.inl ⟨by kernel_rfl, ?_⟩) (by assumption) ?_
                rotate_left
                · intro w hSw; (try dsimp only at hSw); go_simp <;> (try with_reducible rfl)
                try simp only [Act.put, List.setIfInBounds_toArray, List.set_cons_zero, List.set_cons_succ]
                refine wpAnyH_take (i := 16) (v := ?_) (by simp only [List.getElem?_toArray, List.getElem?_cons_succ, List.getElem?_cons_zero]; rfl) (by kernel_rfl) (by kernel_rfl) (by kernel_rfl) (by exact fun _ _ _ h => h) (Or.inl ⟨by kernel_rfl, ?_⟩) (by assumption) ?_
                rotate_left
                · intro w hSw; (try dsimp only at hSw); go_simp <;> (try with_reducible rfl)
                try simp only [Act.put, List.setIfInBounds_toArray, List.set_cons_zero, List.set_cons_succ]
                refine wpAnyH_take (i := 17) (v := ?_) (by simp only [List.getElem?_toArray, List.getElem?_cons_succ, List.getElem?_cons_zero]; rfl) (by kernel_rfl) (by kernel_rfl) (by kernel_rfl) (by exact fun _ _ _ h => h) (Or.inl ⟨by kernel_rfl, ?_⟩) (by assumption) ?_
                rotate_left
                · intro w hSw; (try dsimp only at hSw); go_simp <;> (try with_reducible rfl)
                try simp only [Act.put, List.setIfInBounds_toArray, List.set_cons_zero, List.set_cons_succ]
                refine wpAnyH_take (i := 18) (v := ?_) (by simp only [List.getElem?_toArray, List.getElem?_cons_succ, List.getElem?_cons_zero]; rfl) (by kernel_rfl) (by kernel_rfl) (by kernel_rfl) (by exact fun _ _ _ h => h) (Or.inl ⟨by kernel_rfl, ?_⟩) (by assumption) ?_
                rotate_left
                · intro w hSw; (try dsimp only at hSw); go_simp <;> (try with_reducible rfl)
                try simp only [Act.put, List.setIfInBounds_toArray, List.set_cons_zero, List.set_cons_succ]
                refine wpAnyH_take (i := 19) (v := ?_) (by simp only [List.getElem?_toArray, List.getElem?_cons_succ, List.getElem?_cons_zero]; rfl) (by kernel_rfl) (by kernel_rfl) (by kernel_rfl) (by exact fun _ _ _ h => h) (Or.inl ⟨by kernel_rfl, ?_⟩) (by assumption) ?_
                rotate_left
                · intro w hSw; (try dsimp only at hSw); go_simp <;> (try with_reducible rfl)
                try simp only [Act.put, List.setIfInBounds_toArray, List.set_cons_zero, List.set_cons_succ]
                refine wpAnyH_take (i := 20) (v := ?_) (by simp only [List.getElem?_toArray, List.getElem?_cons_succ, List.getElem?_cons_zero]; rfl) (by kernel_rfl) (by kernel_rfl) (by kernel_rfl) (by exact fun _ _ _ h => h) (Or.inl ⟨by kernel_rfl, ?_⟩) (by assumption) ?_
                rotate_left
                · intro w hSw; (try dsimp only at hSw); go_simp <;> (try with_reducible rfl)
                try simp only [Act.put, List.setIfInBounds_toArray, List.set_cons_zero, List.set_cons_succ]
                refine wpAnyH_take (i := 21) (v := ?_) (by simp only [List.getElem?_toArray, List.getElem?_cons_succ, List.getElem?_cons_zero]; rfl) (by kernel_rfl) (by kernel_rfl) (by kernel_rfl) (by exact fun _ _ _ h => h) (Or.inl ⟨by kernel_rfl, ?_⟩) (by assumption) ?_
                rotate_left
                · intro w hSw; (try dsimp only at hSw); go_simp <;> (try with_reducible rfl)
                try simp only [Act.put, List.setIfInBounds_toArray, List.set_cons_zero, List.set_cons_succ]
                refine wpAnyH_take (i := 22) (v := ?_) (by simp only [List.getElem?_toArray, List.getElem?_cons_succ, List.getElem?_cons_zero]; rfl) (by kernel_rfl) (by kernel_rfl) (by kernel_rfl) (by exact fun _ _ _ h => h) (Or.inl ⟨by kernel_rfl, ?_⟩) (by assumption) ?_
                rotate_left
                · intro w hSw; (try dsimp only at hSw); go_simp <;> (try with_reducible rfl)
                try simp only [Act.put, List.setIfInBounds_toArray, List.set_cons_zero, List.set_cons_succ]
                refine wpAnyH_take (i := 23) (v := ?_) (by simp only [List.getElem?_toArray, List.getElem?_cons_succ, List.getElem?_cons_zero]; rfl) (by kernel_rfl) (by kernel_rfl) (by kernel_rfl) (by exact fun _ _ _ h => h) (Or.inl ⟨by kernel_rfl, ?_⟩) (by assumption) ?_
                rotate_left
                · intro w hSw; (try dsimp only at hSw); go_simp <;> (try with_reducible rfl)
                try simp only [Act.put, List.setIfInBounds_toArray, List.set_cons_zero, List.set_cons_succ]
                refine wpAnyH_take (i := 24) (v := ?_) (by simp only [List.getElem?_toArray, List.getElem?_cons_succ, List.getElem?_cons_zero]; rfl) (by kernel_rfl) (by kernel_rfl) (by kernel_rfl) (by exact fun _ _ _ h => h) (Or.inl ⟨by kernel_rfl, ?_⟩) (by assumption) ?_
                rotate_left
                · intro w hSw; (try dsimp only at hSw); go_simp <;> (try with_reducible rfl)
                try simp only [Act.put, List.setIfInBounds_toArray, List.set_cons_zero, List.set_cons_succ]
                refine wpAnyH_take (i := 25) (v := undef) (by simp only [List.getElem?_toArray, List.getElem?_cons_succ, List.getElem?_cons_zero]; rfl) (by kernel_rfl) (by kernel_rfl) (by kernel_rfl) (by exact fun _ _ _ h => h) (Or.inr ⟨by kernel_rfl, rfl⟩) (by assumption) ?_
                try simp only [Act.put, List.setIfInBounds_toArray, List.set_cons_zero, List.set_cons_succ]
                refine wpAnyH_take (i := 26) (v := undef) (by simp only [List.getElem?_toArray, List.getElem?_cons_succ, List.getElem?_cons_zero]; rfl) (by kernel_rfl) (by kernel_rfl) (by kernel_rfl) (by exact fun _ _ _ h => h) (Or.inr ⟨by kernel_rfl, rfl⟩) (by assumption) ?_
                try simp only [Act.put, List.setIfInBounds_toArray, List.set_cons_zero, List.set_cons_succ]
                refine wpAnyH_take (i := 27) (v := undef) (by simp only [List.getElem?_toArray, List.getElem?_cons_succ, List.getElem?_cons_zero]; rfl) (by kernel_rfl) (by kernel_rfl) (by kernel_rfl) (by exact fun _ _ _ h => h) (Or.inr ⟨by kernel_rfl, rfl⟩) (by assumption) ?_
                try simp only [Act.put, List.setIfInBounds_toArray, List.set_cons_zero, List.set_cons_succ]
                refine wpAnyH_take (i := 28) (v := undef) (by simp only [List.getElem?_toArray, List.getElem?_cons_succ, List.getElem?_cons_zero]; rfl) (by kernel_rfl) (by kernel_rfl) (by kernel_rfl) (by exact fun _ _ _ h => h) (Or.inr ⟨by kernel_rfl, rfl⟩) (by assumption) ?_
                try simp only [Act.put, List.setIfInBounds_toArray, List.set_cons_zero, List.set_cons_succ]
                refine wpAnyH_take (i := 29) (v := undef) (by simp only [List.getElem?_toArray, List.getElem?_cons_succ, List.getElem?_cons_zero]; rfl) (by kernel_rfl) (by kernel_rfl) (by kernel_rfl) (by exact fun _ _ _ h => h) (Or.inr ⟨by kernel_rfl, rfl⟩) (by assumption) ?_
                try simp only [Act.put, List.setIfInBounds_toArray, List.set_cons_zero, List.set_cons_succ]
                refine wpAnyH_take (i := 30) (v := undef) (by simp only [List.getElem?_toArray, List.getElem?_cons_succ, List.getElem?_cons_zero]; rfl) (by kernel_rfl) (by kernel_rfl) (by kernel_rfl) (by exact fun _ _ _ h => h) (Or.inr ⟨by kernel_rfl, rfl⟩) (by assumption) ?_
                try simp only [Act.put, List.setIfInBounds_toArray, List.set_cons_zero, List.set_cons_succ]
                refine wpAnyH_take (i := 31) (v := undef) (by simp only [List.getElem?_toArray, List.getElem?_cons_succ, List.getElem?_cons_zero]; rfl) (by kernel_rfl) (by kernel_rfl) (by kernel_rfl) (by exact fun _ _ _ h => h) (Or.inr ⟨by kernel_rfl, rfl⟩) (by assumption) ?_
                try simp only [Act.put, List.setIfInBounds_toArray, List.set_cons_zero, List.set_cons_succ]
                refine wpAnyH_take (i := 32) (v := ?_) (by simp only [List.getElem?_toArray, List.getElem?_cons_succ, List.getElem?_cons_zero]; rfl) (by kernel_rfl) (by kernel_rfl) (by kernel_rfl) (by exact fun _ _ _ h => h) (Or.inl ⟨by kernel_rfl, ?_⟩) (by assumption) ?_
                rotate_left
                · intro w hSw; (try dsimp only at hSw); go_simp <;> (try with_reducible rfl)
                try simp only [Act.put, List.setIfInBounds_toArray, List.set_cons_zero, List.set_cons_succ]
                refine wpAnyH_take (i := 33) (v := ?_) (by simp only [List.getElem?_toArray, List.getElem?_cons_succ, List.getElem?_cons_zero]; rfl) (by kernel_rfl) (by kernel_rfl) (by kernel_rfl) (by exact fun _ _ _ h => h) (Or.inl ⟨by kernel_rfl, ?_⟩) (by assumption) ?_
                rotate_left
                · intro w hSw; (try dsimp only at hSw); go_simp <;> (try with_reducible rfl)
                try simp only [Act.put, List.setIfInBounds_toArray, List.set_cons_zero, List.set_cons_succ]
                refine wpAnyH_take (i := 34) (v := ?_) (by simp only [List.getElem?_toArray, List.getElem?_cons_succ, List.getElem?_cons_zero]; rfl) (by kernel_rfl) (by kernel_rfl) (by kernel_rfl) (by exact fun _ _ _ h => h) (Or.inl ⟨by kernel_rfl, ?_⟩) (by assumption) ?_
                rotate_left
                · intro w hSw; (try dsimp only at hSw); go_simp <;> (try with_reducible rfl)
                try simp only [Act.put, List.setIfInBounds_toArray, List.set_cons_zero, List.set_cons_succ]
                refine wpAnyH_done (by kernel_rfl) ?_ _
                go_wp2_with fail
                go_meet
                case rel => exact ⟨by first | rfl | simp [*], HX⟩
              case rest =>
                obtain ⟨rfl, h1⟩ := hcut
                clear HX
                have HX := h1
                clear h1
                go_wp2
                go_roundg (ts.length - (j2 + 1))
                case measure => omega
                case rel => exact ⟨j2 + 1, by omega, by go_num, HX⟩
            · have hs1 : decide (yx < v) = false := decide_eq_false (by omega)
              have hs2 : (v == yx) = true := beq_iff_eq.2 hv
              have hs3 : decide (rx < k) = false := decide_eq_false (by omega)
              clear hle hnn hv hk
              go_cut [109] (fun x wx => x = .bool false ∧ BL w wx [(w.heap.size, #[.int .i64 ia, .slice Aa la.length ca, .int .i64 fa, .int .i64 ta], 26), (w.heap.size + 1, #[.int .i64 ib, .slice Ab lb.length cb, .int .i64 fb, .int .i64 tb], 26)])
              case first =>
                have HD := BL.nil wr
                have held : ∀ {W' : World}, BL w W' [(w.heap.size, #[.int .i64 ia, .slice Aa la.length ca, .int .i64 fa, .int .i64 ta], 26), (w.heap.size + 1, #[.int .i64 ib, .slice Ab lb.length cb, .int .i64 fb, .int .i64 tb], 26)] → Below wr.heap.size wr W' → W'.cell? ⟨w.heap.size, 0, none⟩ = some (.int .i64 ia) ∧ W'.cell? ⟨w.heap.size, 1, none⟩ = some (.slice Aa la.length ca) ∧ W'.cell? ⟨w.heap.size, 2, none⟩ = some (.int .i64 fa) ∧ W'.cell? ⟨w.heap.size, 3, none⟩ = some (.int .i64 ta) ∧ W'.cell? (ad.add (j2 * 2)) = some (.int .i64 k) ∧ W'.cell? ⟨(ad.add (j2 * 2)).block, (ad.add (j2 * 2)).off + 1, none⟩ = some (.int .i64 v) := fun h hb => ⟨h.cell 0 0 rfl rfl, h.cell 0 1 rfl rfl, h.cell 0 2 rfl rfl, h.cell 0 3 rfl rfl, by rw [hb.cell (cell_lt c0)]; exact c0, by rw [hb.cell (cell_lt c1)]; exact c1⟩
                replace HX := HX.ext (drew_ext _)
                replace HD := HD.ext (drew_ext _)
                replace Ea := Ea.ext (drew_ext _)
                go_region_held3 (fun W' => W'.cell? ⟨w.heap.size, 0, none⟩ = some (.int .i64 ia) ∧ W'.cell? ⟨w.heap.size, 1, none⟩ = some (.slice Aa la.length ca) ∧ W'.cell? ⟨w.heap.size, 2, none⟩ = some (.int .i64 fa) ∧ W'.cell? ⟨w.heap.size, 3, none⟩ = some (.int .i64 ta) ∧ W'.cell? (ad.add (j2 * 2)) = some (.int .i64 k) ∧ W'.cell? ⟨(ad.add (j2 * 2)).block, (ad.add (j2 * 2)).off + 1, none⟩ = some (.int .i64 v))
                  (exact held HX HD.below)
                  (first
                    | (go_at_call 15; refine (hnumber_any _ _ la _ Ea hla hn).mono ?_; rintro e w7 ⟨rfl, hb⟩; replace HX := HX.ext hb; replace HD := HD.ext hb; replace Ea := Ea.ext hb; clear hb))
                all_goals (
                  go_wp2_with fail
                  go_meet
                  case rel => exact ⟨by first | rfl | simp [*], HX⟩)
              case rest =>
                obtain ⟨rfl, h1⟩ := hcut
                clear HX
                have HX := h1
                clear h1
                go_wp2
                go_roundg (ts.length - (j2 + 1))
                case measure => omega
                case rel => exact ⟨j2 + 1, by omega, by go_num, HX⟩
          · have hnb : decide (0 < n) = false := decide_eq_false hnn
            clear hle hnn
            go_cut [109] (fun x wx => x = .bool false ∧ BL w wx [(w.heap.size, #[.int .i64 ia, .slice Aa la.length ca, .int .i64 fa, .int .i64 ta], 26), (w.heap.size + 1, #[.int .i64 ib, .slice Ab lb.length cb, .int .i64 fb, .int .i64 tb], 26)])
            case first =>
              have HD := BL.nil wr
              have held : ∀ {W' : World}, BL w W' [(w.heap.size, #[.int .i64 ia, .slice Aa la.length ca, .int .i64 fa, .int .i64 ta], 26), (w.heap.size + 1, #[.int .i64 ib, .slice Ab lb.length cb, .int .i64 fb, .int .i64 tb], 26)] → Below wr.heap.size wr W' → W'.cell? ⟨w.heap.size, 0, none⟩ = some (.int .i64 ia) ∧ W'.cell? ⟨w.heap.size, 1, none⟩ = some (.slice Aa la.length ca) ∧ W'.cell? ⟨w.heap.size, 2, none⟩ = some (.int .i64 fa) ∧ W'.cell? ⟨w.heap.size, 3, none⟩ = some (.int .i64 ta) ∧ W'.cell? (ad.add (j2 * 2)) = some (.int .i64 k) ∧ W'.cell? ⟨(ad.add (j2 * 2)).block, (ad.add (j2 * 2)).off + 1, none⟩ = some (.int .i64 v) := fun h hb => ⟨h.cell 0 0 rfl rfl, h.cell 0 1 rfl rfl, h.cell 0 2 rfl rfl, h.cell 0 3 rfl rfl, by rw [hb.cell (cell_lt c0)]; exact c0, by rw [hb.cell (cell_lt c1)]; exact c1⟩
              replace HX := HX.ext (drew_ext _)
              replace HD := HD.ext (drew_ext _)
              replace Ea := Ea.ext (drew_ext _)
              refine wp_region_held_drew (S := fun W' => W'.cell? ⟨w.heap.size, 0, none⟩ = some (.int .i64 ia) ∧ W'.cell? ⟨w.heap.size, 1, none⟩ = some (.slice Aa la.length ca) ∧ W'.cell? ⟨w.heap.size, 2, none⟩ = some (.int .i64 fa) ∧ W'.cell? ⟨w.heap.size, 3, none⟩ = some (.int .i64 ta) ∧ W'.cell? (ad.add (j2 * 2)) = some (.int .i64 k) ∧ W'.cell? ⟨(ad.add (j2 * 2)).block, (ad.add (j2 * 2)).off + 1, none⟩ = some (.int .i64 v)) (by kernel_rfl) (held HX HD.below) (fun hHeld => ?_)
              refine wpAnyH_take (i := 0) (v := ?_) (by simp only [List.getElem?_toArray, List.getElem?_cons_zero]; rfl) (by kernel_rfl) (by kernel_rfl) (by kernel_rfl) (by exact fun _ _ _ h => h) (Or.inl ⟨by kernel_rfl, ?_⟩) (by assumption) ?_
              rotate_left
              · intro w hSw; (try dsimp only at hSw); go_simp <;> (try with_reducible rfl)
              try simp only [Act.put, List.setIfInBounds_toArray, List.set_cons_zero, List.set_cons_succ]
              refine wpAnyH_take (i := 1) (v := ?_) (by simp only [List.getElem?_toArray, List.getElem?_cons_succ, List.getElem?_cons_zero]; rfl) (by kernel_rfl) (by kernel_rfl) (by kernel_rfl) (by exact fun _ _ _ h => h) (Or.inl ⟨by kernel_rfl, ?_⟩) (by assumption) ?_
              rotate_left
              · intro w hSw; (try dsimp only at hSw); go_simp <;> (try with_reducible rfl)
              try simp only [Act.put, List.setIfInBounds_toArray, List.set_cons_zero, List.set_cons_succ]
              refine wpAnyH_take (i := 2) (v := ?_) (by simp only [List.getElem?_toArray, List.getElem?_cons_succ, List.getElem?_cons_zero]; rfl) (by kernel_rfl) (by kernel_rfl) (by kernel_rfl) (by exact fun _ _ _ h => h) (Or.inl ⟨by kernel_rfl, ?_⟩) (by assumption) ?_
              rotate_left
              · intro w hSw; (try dsimp only at hSw); go_simp <;> (try with_reducible rfl)
              try simp only [Act.put, List.setIfInBounds_toArray, List.set_cons_zero, List.set_cons_succ]
              refine wpAnyH_take (i := 3) (v := ?_) (by simp only [List.getElem?_toArray, List.getElem?_cons_succ, List.getElem?_cons_zero]; rfl) (by kernel_rfl) (by kernel_rfl) (by kernel_rfl) (by exact fun _ _ _ h => h) (Or.inl ⟨by kernel_rfl, ?_⟩) (by assumption) ?_
              rotate_left
              · intro w hSw; (try dsimp only at hSw); go_simp <;> (try with_reducible rfl)
              try simp only [Act.put, List.setIfInBounds_toArray, List.set_cons_zero, List.set_cons_succ]
              refine wpAnyH_take (i := 4) (v := ?_) (by simp only [List.getElem?_toArray, List.getElem?_cons_succ, List.getElem?_cons_zero]; rfl) (by kernel_rfl) (by kernel_rfl) (by kernel_rfl) (by exact fun _ _ _ h => h) (Or.inl ⟨by kernel_rfl, ?_⟩) (by assumption) ?_
              rotate_left
              · intro w hSw; (try dsimp only at hSw); go_simp <;> (try with_reducible rfl)
              try simp only [Act.put, List.setIfInBounds_toArray, List.set_cons_zero, List.set_cons_succ]
              refine wpAnyH_take (i := 5) (v := ?_) (by simp only [List.getElem?_toArray, List.getElem?_cons_succ, List.getElem?_cons_zero]; rfl) (by kernel_rfl) (by kernel_rfl) (by kernel_rfl) (by exact fun _ _ _ h => h) (Or.inl ⟨by kernel_rfl, ?_⟩) (by assumption) ?_
              rotate_left
              · intro w hSw; (try dsimp only at hSw); go_simp <;> (try with_reducible rfl)
              try simp only [Act.put, List.setIfInBounds_toArray, List.set_cons_zero, List.set_cons_succ]
              refine wpAnyH_ready (rs := [6]) (by kernel_rfl) (by simp) ?_
              refine AllReadyH.cons (by simp only [List.getElem?_toArray, List.getElem?_cons_succ, List.getElem?_cons_zero]; rfl) (fun K hK => ?_) AllReadyH.nil
              go_simp
              go_at_call 15
              refine (hnumber_any _ _ la _ Ea hla hn).mono ?_
              rintro e w7 ⟨rfl, hb⟩
              replace HX := HX.ext hb
              replace HD := HD.ext hb
              replace Ea := Ea.ext hb
              clear hb hHeld
              refine hK.out _ _ (held HX HD.below) (fun hHeld => ?_)
              clear hK K
              try simp only [Act.put, List.setIfInBounds_toArray, List.set_cons_zero, List.set_cons_succ]
              refine wpAnyH_take (i := 7) (v := ?_) (by simp only [List.getElem?_toArray, List.getElem?_cons_succ, List.getElem?_cons_zero]; rfl) (by kernel_rfl) (by kernel_rfl) (by kernel_rfl) (by exact fun _ _ _ h => h) (Or.inl ⟨by kernel_rfl, ?_⟩) (by assumption) ?_
              rotate_left
              · intro w hSw; (try dsimp only at hSw); go_simp <;> (try with_reducible rfl)
              try simp only [Act.put, List.setIfInBounds_toArray, List.set_cons_zero, List.set_cons_succ]
              refine wpAnyH_take (i := 8) (v := ?_) (by simp only [List.getElem?_toArray, List.getElem?_cons_succ, List.getElem?_cons_zero]; rfl) (by kernel_rfl) (by kernel_rfl) (by kernel_rfl) (by exact fun _ _ _ h => h) (Or.inl ⟨by kernel_rfl, ?_⟩) (by assumption) ?_
              rotate_left
              · intro w hSw; (try dsimp only at hSw); go_simp <;> (try with_reducible rfl)
              try simp only [Act.put, List.setIfInBounds_toArray, List.set_cons_zero, List.set_cons_succ]
              refine wpAnyH_take (i := 9) (v := undef) (by simp only [List.getElem?_toArray, List.getElem?_cons_succ, List.getElem?_cons_zero]; rfl) (by kernel_rfl) (by kernel_rfl) (by kernel_rfl) (by exact fun _ _ _ h => h) (Or.inr ⟨by kernel_rfl, rfl⟩) (by assumption) ?_
              try simp only [Act.put, List.setIfInBounds_toArray, List.set_cons_zero, List.set_cons_succ]
              refine wpAnyH_take (i := 10) (v := undef) (by simp only [List.getElem?_toArray, List.getElem?_cons_succ, List.getElem?_cons_zero]; rfl) (by kernel_rfl) (by kernel_rfl) (by kernel_rfl) (by exact fun _ _ _ h => h) (Or.inr ⟨by kernel_rfl, rfl⟩) (by assumption) ?_
              try simp only [Act.put, List.setIfInBounds_toArray, List.set_cons_zero, List.set_cons_succ]
              refine wpAnyH_take (i := 11) (v := undef) (by simp only [List.getElem?_toArray, List.getElem?_cons_succ, List.getElem?_cons_zero]; rfl) (by kernel_rfl) (by kernel_rfl) (by kernel_rfl) (by exact fun _ _ _ h => h) (Or.inr ⟨by kernel_rfl, rfl⟩) (by assumption) ?_
              try simp only [Act.put, List.setIfInBounds_toArray, List.set_cons_zero, List.set_cons_succ]
              refine wpAnyH_take (i := 12) (v := undef) (by simp only [List.getElem?_toArray, List.getElem?_cons_succ, List.getElem?_cons_zero]; rfl) (by kernel_rfl) (by kernel_rfl) (by kernel_rfl) (by exact fun _ _ _ h => h) (Or.inr ⟨by kernel_rfl, rfl⟩) (by assumption) ?_
              try simp only [Act.put, List.setIfInBounds_toArray, List.set_cons_zero, List.set_cons_succ]
              refine wpAnyH_take (i := 13) (v := undef) (by simp only [List.getElem?_toArray, List.getElem?_cons_succ, List.getElem?_cons_zero]; rfl) (by kernel_rfl) (by kernel_rfl) (by kernel_rfl) (by exact fun _ _ _ h => h) (Or.inr ⟨by kernel_rfl, rfl⟩) (by assumption) ?_
              try simp only [Act.put, List.setIfInBounds_toArray, List.set_cons_zero, List.set_cons_succ]
              refine wpAnyH_take (i := 14) (v := undef) (by simp only [List.getElem?_toArray, List.getElem?_cons_succ, List.getElem?_cons_zero]; rfl) (by kernel_rfl) (by kernel_rfl) (by kernel_rfl) (by exact fun _ _ _ h => h) (Or.inr ⟨by kernel_rfl, rfl⟩) (by assumption) ?_
              try simp only [Act.put, List.setIfInBounds_toArray, List.set_cons_zero, List.set_cons_succ]
              refine wpAnyH_take (i := 15) (v := undef) (by simp only [List.getElem?_toArray, List.getElem?_cons_succ, List.getElem?_cons_zero]; rfl) (by kernel_rfl) (by kernel_rfl) (by kernel_rfl) (by exact fun _ _ _ h => h) (Or.inr ⟨by kernel_rfl, rfl⟩) (by assumption) ?_
              try simp only [Act.put, List.setIfInBounds_toArray, List.set_cons_zero, List.set_cons_succ]
              refine wpAnyH_take (i := 16) (v := undef) (by simp only [List.getElem?_toArray, List.getElem?_cons_succ, List.getElem?_cons_zero]; rfl) (by kernel_rfl) (by kernel_rfl) (by kernel_rfl) (by exact fun _ _ _ h => h) (Or.inr ⟨by kernel_rfl, rfl⟩) (by assumption) ?_
              try simp only [Act.put, List.setIfInBounds_toArray, List.set_cons_zero, List.set_cons_succ]
              refine wpAnyH_take (i := 17) (v := undef) (by simp only [List.getElem?_toArray, List.getElem?_cons_succ, List.getElem?_cons_zero]; rfl) (by kernel_rfl) (by kernel_rfl) (by kernel_rfl) (by exact fun _ _ _ h => h) (Or.inr ⟨by kernel_rfl, rfl⟩) (by assumption) ?_
              try simp only [Act.put, List.setIfInBounds_toArray, List.set_cons_zero, List.set_cons_succ]
              refine wpAnyH_take (i := 18) (v := undef) (by simp only [List.getElem?_toArray, List.getElem?_cons_succ, List.getElem?_cons_zero]; rfl) (by kernel_rfl) (by kernel_rfl) (by kernel_rfl) (by exact fun _ _ _ h => h) (Or.inr ⟨by kernel_rfl, rfl⟩) (by assumption) ?_
              try simp only [Act.put, List.setIfInBounds_toArray, List.set_cons_zero, List.set_cons_succ]
              refine wpAnyH_take (i := 19) (v := undef) (by simp only [List.getElem?_toArray, List.getElem?_cons_succ, List.getElem?_cons_zero]; rfl) (by kernel_rfl) (by kernel_rfl) (by kernel_rfl) (by exact fun _ _ _ h => h) (Or.inr ⟨by kernel_rfl, rfl⟩) (by assumption) ?_
              try simp only [Act.put, List.setIfInBounds_toArray, List.set_cons_zero, List.set_cons_succ]
              refine wpAnyH_take (i := 20) (v := undef) (by simp only [List.getElem?_toArray, List.getElem?_cons_succ, List.getElem?_cons_zero]; rfl) (by kernel_rfl) (by kernel_rfl) (by kernel_rfl) (by exact fun _ _ _ h => h) (Or.inr ⟨by kernel_rfl, rfl⟩) (by assumption) ?_
              try simp only [Act.put, List.setIfInBounds_toArray, List.set_cons_zero, List.set_cons_succ]
              refine wpAnyH_take (i := 21) (v := undef) (by simp only [List.getElem?_toArray, List.getElem?_cons_succ, List.getElem?_cons_zero]; rfl) (by kernel_rfl) (by kernel_rfl) (by kernel_rfl) (by exact fun _ _ _ h => h) (Or.inr ⟨by kernel_rfl, rfl⟩) (by assumption) ?_
              try simp only [Act.put, List.setIfInBounds_toArray, List.set_cons_zero, List.set_cons_succ]
              refine wpAnyH_take (i := 22) (v := undef) (by simp only [List.getElem?_toArray, List.getElem?_cons_succ, List.getElem?_cons_zero]; rfl) (by kernel_rfl) (by kernel_rfl) (by kernel_rfl) (by exact fun _ _ _ h => h) (Or.inr ⟨by kernel_rfl, rfl⟩) (by assumption) ?_
              try simp only [Act.put, List.setIfInBounds_toArray, List.set_cons_zero, List.set_cons_succ]
              refine wpAnyH_take (i := 23) (v := undef) (by simp only [List.getElem?_toArray, List.getElem?_cons_succ, List.getElem?_cons_zero]; rfl) (by kernel_rfl) (by kernel_rfl) (by kernel_rfl) (by exact fun _ _ _ h => h) (Or.inr ⟨by kernel_rfl, rfl⟩) (by assumption) ?_
              try simp only [Act.put, List.setIfInBounds_toArray, List.set_cons_zero, List.set_cons_succ]
              refine wpAnyH_take (i := 24) (v := undef) (by simp only [List.getElem?_toArray, List.getElem?_cons_succ, List.getElem?_cons_zero]; rfl) (by kernel_rfl) (by kernel_rfl) (by kernel_rfl) (by exact fun _ _ _ h => h) (Or.inr ⟨by kernel_rfl, rfl⟩) (by assumption) ?_
              try simp only [Act.put, List.setIfInBounds_toArray, List.set_cons_zero, List.set_cons_succ]
              refine wpAnyH_take (i := 25) (v := undef) (by simp only [List.getElem?_toArray, List.getElem?_cons_succ, List.getElem?_cons_zero]; rfl) (by kernel_rfl) (by kernel_rfl) (by kernel_rfl) (by exact fun _ _ _ h => h) (Or.inr ⟨by kernel_rfl, rfl⟩) (by assumption) ?_
              try simp only [Act.put, List.setIfInBounds_toArray, List.set_cons_zero, List.set_cons_succ]
              refine wpAnyH_take (i := 26) (v := undef) (by simp only [List.getElem?_toArray, List.getElem?_cons_succ, List.getElem?_cons_zero]; rfl) (by kernel_rfl) (by kernel_rfl) (by kernel_rfl) (by exact fun _ _ _ h => h) (Or.inr ⟨by kernel_rfl, rfl⟩) (by assumption) ?_
              try simp only [Act.put, List.setIfInBounds_toArray, List.set_cons_zero, List.set_cons_succ]
              refine wpAnyH_take (i := 27) (v := undef) (by simp only [List.getElem?_toArray, List.getElem?_cons_succ, List.getElem?_cons_zero]; rfl) (by kernel_rfl) (by kernel_rfl) (by kernel_rfl) (by exact fun _ _ _ h => h) (Or.inr ⟨by kernel_rfl, rfl⟩) (by assumption) ?_
              try simp only [Act.put, List.setIfInBounds_toArray, List.set_cons_zero, List.set_cons_succ]
              refine wpAnyH_take (i := 28) (v := undef) (by simp only [List.getElem?_toArray, List.getElem?_cons_succ, List.getElem?_cons_zero]; rfl) (by kernel_rfl) (by kernel_rfl) (by kernel_rfl) (by exact fun _ _ _ h => h) (Or.inr ⟨by kernel_rfl, rfl⟩) (by assumption) ?_
              try simp only [Act.put, List.setIfInBounds_toArray, List.set_cons_zero, List.set_cons_succ]
              refine wpAnyH_take (i := 29) (v := undef) (by simp only [List.getElem?_toArray, List.getElem?_cons_succ, List.getElem?_cons_zero]; rfl) (by kernel_rfl) (by kernel_rfl) (by kernel_rfl) (by exact fun _ _ _ h => h) (Or.inr ⟨by kernel_rfl, rfl⟩) (by assumption) ?_
              try simp only [Act.put, List.setIfInBounds_toArray, List.set_cons_zero, List.set_cons_succ]
              refine wpAnyH_take (i := 30) (v := undef) (by simp only [List.getElem?_toArray, List.getElem?_cons_succ, List.getElem?_cons_zero]; rfl) (by kernel_rfl) (by kernel_rfl) (by kernel_rfl) (by exact fun _ _ _ h => h) (Or.inr ⟨by kernel_rfl, rfl⟩) (by assumption) ?_
              try simp only [Act.put, List.setIfInBounds_toArray, List.set_cons_zero, List.set_cons_succ]
              refine wpAnyH_take (i := 31) (v := undef) (by simp only [List.getElem?_toArray, List.getElem?_cons_succ, List.getElem?_cons_zero]; rfl) (by kernel_rfl) (by kernel_rfl) (by kernel_rfl) (by exact fun _ _ _ h => h) (Or.inr ⟨by kernel_rfl, rfl⟩) (by assumption) ?_
              try simp only [Act.put, List.setIfInBounds_toArray, List.set_cons_zero, List.set_cons_succ]
              refine wpAnyH_take (i := 32) (v := undef) (by simp only [List.getElem?_toArray, List.getElem?_cons_succ, List.getElem?_cons_zero]; rfl) (by kernel_rfl) (by kernel_rfl) (by kernel_rfl) (by exact fun _ _ _ h => h) (Or.inr ⟨by kernel_rfl, rfl⟩) (by assumption) ?_
              try simp only [Act.put, List.setIfInBounds_toArray, List.set_cons_zero, List.set_cons_succ]
              refine wpAnyH_take (i := 33) (v := undef) (by simp only [List.getElem?_toArray, List.getElem?_cons_succ, List.getElem?_cons_zero]; rfl) (by kernel_rfl) (by kernel_rfl) (by kernel_rfl) (by exact fun _ _ _ h => h) (Or.inr ⟨by kernel_rfl, rfl⟩) (by assumption) ?_
              try simp only [Act.put, List.setIfInBounds_toArray, List.set_cons_zero, List.set_cons_succ]
              refine wpAnyH_take (i := 34) (v := ?_) (by simp only [List.getElem?_toArray, List.getElem?_cons_succ, List.getElem?_cons_zero]; rfl) (by kernel_rfl) (by kernel_rfl) (by kernel_rfl) (by exact fun _ _ _ h => h) (Or.inl ⟨by kernel_rfl, ?_⟩) (by assumption) ?_
              rotate_left
              · intro w hSw; (try dsimp only at hSw); go_simp <;> (try with_reducible rfl)
              try simp only [Act.put, List.setIfInBounds_toArray, List.set_cons_zero, List.set_cons_succ]
              refine wpAnyH_done (by kernel_rfl) ?_ _
              go_wp2_with fail
              go_meet
              case rel => exact ⟨by first | rfl | simp [*], HX⟩
            case rest =>
              obtain ⟨rfl, h1⟩ := hcut
              clear HX
              have HX := h1
              clear h1
              go_wp2
              go_roundg (ts.length - (j2 + 1))
              case measure => omega
              case rel => exact ⟨j2 + 1, by omega, by go_num, HX⟩
        · have Ea := Eaw.ext HX.below
          have Eb := Ebw.ext HX.below
          have Et := Etw.ext HX.below
          have hc00 := HX.cell 0 0 rfl rfl
          have hc01 := HX.cell 0 1 rfl rfl
          have hc02 := HX.cell 0 2 rfl rfl
          have hc03 := HX.cell 0 3 rfl rfl
          try simp only [List.getElem_toArray, List.getElem_cons_zero, List.getElem_cons_succ] at hc00 hc01 hc02 hc03
          have hc10 := HX.cell 1 0 rfl rfl
          have hc11 := HX.cell 1 1 rfl rfl
          have hc12 := HX.cell 1 2 rfl rfl
          have hc13 := HX.cell 1 3 rfl rfl
          try simp only [List.getElem_toArray, List.getElem_cons_zero, List.getElem_cons_succ] at hc10 hc11 hc12 hc13
          go_wp2_with fail
          refine (hmerge_any _ _ _ _ la lb _ Ea Eb hla hlb mm).mono ?_
          rintro e w5 ⟨A5, c5, rfl, E5, hb⟩
          clear hc00 hc01 hc02 hc03
          clear hc10 hc11 hc12 hc13
          replace HX := HX.ext hb
          replace Ea := Ea.ext hb
          replace Eb := Eb.ext hb
          replace Et := Et.ext hb
          clear hb
          go_upto_region 19 with fail
          have hlg50 := HX.lt 0 rfl
          simp only [] at hlg50
          have hlg51 := HX.lt 1 rfl
          simp only [] at hlg51
          have hb := below_alloc w5 (.cells #[.int .i64 im, .slice A5 lm.length c5, .int .i64 fm, .int .i64 tm] 26)
          replace HX := HX.new #[.int .i64 im, .slice A5 lm.length c5, .int .i64 fm, .int .i64 tm] 26
          simp only [List.cons_append, List.nil_append] at HX
          replace Ea := Ea.ext hb
          replace Eb := Eb.ext hb
          replace Et := Et.ext hb
          replace E5 := E5.ext hb
          clear hb
          generalize w5.alloc (.cells #[.int .i64 im, .slice A5 lm.length c5, .int .i64 fm, .int .i64 tm] 26) = W5 at *
          generalize w5.heap.size = g5 at *
          by_cases hg : eg = 0
          · subst hg
            obtain ⟨rz, eh, hz⟩ := LateIs.ex im lm fm tm ts
            obtain ⟨rfl, hor⟩ := late_merge hx hy mm hz
            have hc20 := HX.cell 2 0 rfl rfl
            have hc21 := HX.cell 2 1 rfl rfl
            have hc22 := HX.cell 2 2 rfl rfl
            have hc23 := HX.cell 2 3 rfl rfl
            try simp only [List.getElem_toArray, List.getElem_cons_zero, List.getElem_cons_succ] at hc20 hc21 hc22 hc23
            go_wp2_with fail
            refine (hlate_any _ _ _ _ lm ts _ E5 Et hlm hts hz).mono ?_
            rintro e w6 ⟨rfl, hb⟩
            clear hc20 hc21 hc22 hc23
            replace HX := HX.ext hb
            replace Ea := Ea.ext hb
            replace Eb := Eb.ext hb
            replace Et := Et.ext hb
            replace E5 := E5.ext hb
            clear hb
            have hc00 := HX.cell 0 0 rfl rfl
            have hc01 := HX.cell 0 1 rfl rfl
            have hc02 := HX.cell 0 2 rfl rfl
            have hc03 := HX.cell 0 3 rfl rfl
            try simp only [List.getElem_toArray, List.getElem_cons_zero, List.getElem_cons_succ] at hc00 hc01 hc02 hc03
            by_cases hzx : rz = rx
            · have hs1 : (rz == rx) = true := beq_iff_eq.2 hzx
              clear hor hzx
              go_wp2_with fail
              refine (hnumber_any _ _ la _ Ea hla hnx).mono ?_
              rintro e w8 ⟨rfl, hb⟩
              replace HX := HX.ext hb
              go_wp2
              go_ret
              exact ⟨by first | rfl | simp, HX.below⟩
            · have hs1 : (rz == rx) = false := beq_eq_false_iff_ne.2 hzx
              have hs2 : (rz == ry) = true := beq_iff_eq.2 (hor.resolve_left hzx)
              clear hor hzx
              go_wp2_with fail
              refine (hnumber_any _ _ la _ Ea hla hnx).mono ?_
              rintro e w8 ⟨rfl, hb⟩
              replace HX := HX.ext hb
              go_wp2
              go_ret
              exact ⟨by first | rfl | simp, HX.below⟩
          · have hs1 : (eg != 0) = true := bne_iff_ne.2 hg
            clear hg
            have hc00 := HX.cell 0 0 rfl rfl
            have hc01 := HX.cell 0 1 rfl rfl
            have hc02 := HX.cell 0 2 rfl rfl
            have hc03 := HX.cell 0 3 rfl rfl
            try simp only [List.getElem_toArray, List.getElem_cons_zero, List.getElem_cons_succ] at hc00 hc01 hc02 hc03
            go_wp2_with fail
            refine (hnumber_any _ _ la _ Ea hla hnx).mono ?_
            rintro e w8 ⟨rfl, hb⟩
            replace HX := HX.ext hb
            go_wp2
            go_ret
            exact ⟨by first | rfl | simp, HX.below⟩
set_option maxHeartbeats 4000000 in
set_option maxRecDepth 100000 in
theorem hlast_yes {ia fa ta : Int} {Aa : Option Addr} {ca : Nat} {la : List (Int × Int)} {ib fb tb : Int} {Ab : Option Addr} {cb : Nat} {lb : List (Int × Int)} {At : Option Addr} {ct : Nat} {ts : List (Int × Int)} (w : World) (hT : Tab w) (Ea : Es w Aa la) (hla : la.length ≤ 9223372036854775807) (Eb : Es w Ab lb) (hlb : lb.length ≤ 9223372036854775807) (Et : Es w At ts) (hts : ts.length ≤ 9223372036854775807) (hlens : Hid (∀ x ∈ [(HE.mk ia Aa la.length ca fa ta), (HE.mk ib Ab lb.length cb fb tb)], x.n ≤ 9223372036854775807)) (hfew : Hid (fewH [(HE.mk ia Aa la.length ca fa ta), (HE.mk ib Ab lb.length cb fb tb)] = true)) (mla : la.length ≤ 40) (mlb : lb.length ≤ 40) :
    Calls Tryd.prog 6 #[.agg #[.int .i64 ia, .slice Aa la.length ca, .int .i64 fa, .int .i64 ta], .agg #[.int .i64 ib, .slice Ab lb.length cb, .int .i64 fb, .int .i64 tb], .slice At ts.length ct] w (RetB w true) := by
  by_cases h120 : 120 < ts.length
  · exact hlast_long_yes w hT Ea hla Eb hlb Et hts hlens hfew mla mlb h120
  · obtain ⟨rx, ex, hx⟩ := LateIs.ex ia la fa ta ts
    obtain ⟨ry, ey, hy⟩ := LateIs.ex ib lb fb tb ts
    by_cases h1 : ex = 0
    · subst h1
      by_cases h2 : ey = 0
      · subst h2
        exact hlast_ok_yes w hT Ea hla Eb hlb Et hts hlens hfew mla mlb h120 hx hy
      · exact hlast_bad2_yes w hT Ea hla Eb hlb Et hts hlens hfew mla mlb h120 hx hy rfl (bne_iff_ne.2 h2)
    · exact hlast_bad1_yes w hT Ea hla Eb hlb Et hts hlens hfew mla mlb h120 hx hy (bne_iff_ne.2 h1)
theorem hlast_any {ia fa ta : Int} {Aa : Option Addr} {ca : Nat} {la : List (Int × Int)} {ib fb tb : Int} {Ab : Option Addr} {cb : Nat} {lb : List (Int × Int)} {At : Option Addr} {ct : Nat} {ts : List (Int × Int)} (w : World) (hT : Tab w) (Ea : Es w Aa la) (hla : la.length ≤ 9223372036854775807) (Eb : Es w Ab lb) (hlb : lb.length ≤ 9223372036854775807) (Et : Es w At ts) (hts : ts.length ≤ 9223372036854775807) :
    Calls Tryd.prog 6 #[.agg #[.int .i64 ia, .slice Aa la.length ca, .int .i64 fa, .int .i64 ta], .agg #[.int .i64 ib, .slice Ab lb.length cb, .int .i64 fb, .int .i64 tb], .slice At ts.length ct] w (RetB w true) := by
  have hlens : ∀ x ∈ [(HE.mk ia Aa la.length ca fa ta), (HE.mk ib Ab lb.length cb fb tb)], x.n ≤ 9223372036854775807 := by
    intro x hx
    simp only [List.mem_cons, List.not_mem_nil, or_false] at hx
    rcases hx with rfl | rfl
    · exact hla
    · exact hlb
  cases hf : fewH [(HE.mk ia Aa la.length ca fa ta), (HE.mk ib Ab lb.length cb fb tb)]
  · exact hlast_few w hT Ea hla Eb hlb Et hts (Lib.hid hlens) (Lib.hid hf)
  · have hf2 := hf
    simp only [fewH, List.all_cons, List.all_nil, Bool.and_true, Bool.and_eq_true, decide_eq_true_eq] at hf2
    exact hlast_yes w hT Ea hla Eb hlb Et hts (Lib.hid hlens) (Lib.hid hf) (by omega) (by omega)
end Go.Proofs.YtajddhkepbnilaaDoor

namespace Go.Proofs.YtajddhkepbnilaaDoor
open Go.Joins Go.ChangeShapes Go.WideShapes Go.ChangeAt Go.WideMaps Go.WideElems Go.RowKit Go.Proofs Go

theorem hoardLast_door (os : Os) (args : Array Value) : laidMetH Tryd.prog Rows.hoardLastRow.laid ((World.doorLaid Tryd.prog 400 os).forCall (fun _ _ => 0) ⟨#[], args, []⟩).memory := 
  laidMetH_of_parts3 (fuel := 8) (laidMet_of_run' 8 (by kernel_rfl) (by kernel_rfl)) (by kernel_rfl) (by kernel_rfl)
theorem hoardLast_tab {W : World} (h : laidMetH Tryd.prog Rows.hoardLastRow.laid W) : Tab W := by
  rw [MakeChecks.laidMetH_plain _ _ _ (by kernel_rfl)] at h
  exact tab_of_reads rfl (Lib.laidMet.reads h (.tail _ (.tail _ (.head _))))

set_option maxRecDepth 100000 in
theorem hoardLast_lifted (os : Os) (started : os.Started) (H : Type) (enc : TypeId × Value → H) :
    ReturnsInHanded {} Tryd.checked os 6 .any (fun w args => (Rows.hoardLastSpec.pre enc Tryd.prog Tryd.f6 [] false w args ∧ laidMetH Tryd.prog Rows.hoardLastRow.laid w) ∧ sizedMet enc Tryd.prog Tryd.f6 (OpenSpec.ofChange Rows.hoardLastSpec) false w args)
      (Rows.hoardLastSpec.post enc Tryd.prog Tryd.f6 false true false false) := by
  refine returnsInHanded_of_change_and (C := Tryd.checked) (X := fun w _ => laidMetH Tryd.prog Rows.hoardLastRow.laid w) (fun _ _ _ hh h => h.of_heap hh) own started (by kernel_rfl) Tryd.func6
    (ChangeSpec.witness_shaped (enc := enc) (C := Tryd.checked) (os := os) (X := fun w _ => laidMetH Tryd.prog Rows.hoardLastRow.laid w) false (World.doorLaid Tryd.prog 400 os) #[.agg #[.int .i64 0, .slice none 0 0, .int .i64 0, .int .i64 0], .agg #[.int .i64 0, .slice none 0 0, .int .i64 0, .int .i64 0], .slice none 0 0] 8 rfl (World.shaped_of_RefB (by kernel_rfl) (by kernel_rfl)) (by kernel_rfl) (by kernel_rfl) (by kernel_rfl) (hoardLast_door os _)) ?_
  intro W base args ds gs before hval0 hW _ _ hL _
  have hval : ∀ (j : Nat) t v, Tryd.f6.params[j]? = some t → args[j]? = some v → Value.okWide Tryd.prog W .any base t v := hval0
  have hW' := hW
  obtain ⟨p, q, hA0, hV, hbef, hfz, hnd⟩ := hW
  have hA : DataW.TrodAll enc Tryd.prog W 0 (fun _ => true) true Tryd.f6.params.toList args.toList ds p := hA0
  obtain ⟨rfl, rfl⟩ := trodVars_none hV
  have hA2 := hA
  have hpp : before = p := by simpa using hbef
  subst hpp
  rw [Tryd.params6] at hA hval
  obtain ⟨v0, v1, v2, d0, d1, d2, p0, p1, p2, rfl, rfl, hps, h0, h1, h2⟩ := trodAll_three hA
  have hT := hoardLast_tab hL
  have hfin : ∀ W' : World, Below W.heap.size W W' → Rows.hoardLastSpec.post enc Tryd.prog Tryd.f6 false true false false W _ (.bool true) W' := fun W' hb =>
    law_post (s := Rows.hoardLastSpec) laidOut (by rw [Tryd.params6]; exact fun t ht => of_decide_eq_true (List.all_eq_true.1 (show ([26, 26, 22].all fun t => decide (Tryd.prog.readableRec t = true ∧ t < Tryd.prog.types.size)) = true by kernel_rfl) t (by simpa using ht))) (by kernel_rfl) Tryd.underlying4 rfl rfl hW' hA2 hb
  clear hA0 hval0
  obtain ⟨i0, A0, l0, c0, f0, t0, rfl, P0, B0⟩ := open_hoard (hval 0 _ _ rfl rfl) h0
  obtain ⟨i1, A1, l1, c1, f1, t1, rfl, P1, B1⟩ := open_hoard (hval 1 _ _ rfl rfl) h1
  obtain ⟨A2, l2, c2, rfl, P2, B2⟩ := open_entries (hval 2 _ _ rfl rfl) h2
  refine (hlast_any W hT P0 B0 P1 B1 P2 B2).mono fun e W' he => ?_
  obtain ⟨rfl, hb⟩ := he
  exact ⟨_, rfl, hfin W' hb⟩

theorem hoardLast_row : Rows.HoardLastSaid :=
  OpenClaim.holds_of_wide 6 Tryd.f6 rfl rfl rfl rfl rfl rfl rfl ⟨rfl, rfl, rfl, rfl, rfl⟩ rfl rfl rfl rfl rfl (by kernel_rfl) Tryd.func6 (by kernel_rfl)
    (of_decide_eq_true (by kernel_rfl)) (by unfold Func.isWrapper; first | (rw [if_pos (by decide +kernel)]; kernel_rfl) | (rw [if_neg (by decide +kernel)]; exact ⟨rfl, rfl⟩))
    (fun os started H enc _ => hoardLast_lifted os started H enc)
theorem hoardLast_holds : Rows.HoardLastCardSaid :=
  Claim7.holds_tied_plain_at .later [] [.data, .data, .data] true (true, "4e1cbc145f4d39e83b4a5e604098bf68dc94fc357b10035971d2f612804a22df") false
    hoardLast_row (fun _ h => by cases h) (by kernel_rfl) (fun _ h => by cases h) hoardLast_row_tie rfl ⟨rfl, rfl⟩ (by kernel_rfl) rfl
    (fun f fn hf hfn => by
      obtain rfl : f = 6 := Option.some.inj ((show Tryd.prog.funcNamed "coinage/coinagelaw32.HoardLast" = some 6 by kernel_rfl).symm.trans hf) |>.symm
      obtain rfl : fn = Tryd.f6 := (Option.some.inj (Tryd.func6.symm.trans hfn)).symm
      exact ⟨by kernel_rfl, fun j t ht => by
        rw [Tryd.params6] at ht
        have hm : t ∈ [26, 26, 22] := by simpa using Array.mem_of_getElem? ht
        have hall : ([26, 26, 22].all fun u => !Tryd.prog.wantsStandIn u) = true := by kernel_rfl
        exact (show Tryd.prog.wantsStandIn t = false by simpa using List.all_eq_true.1 hall t hm)⟩)
    (by kernel_rfl)
#print axioms hoardLast_holds
end Go.Proofs.YtajddhkepbnilaaDoor
