/- What every card of this program leans on: arguments that read as they did, the library's table, a law's end. -/
import Derived.Test.YtlnajhochpbgpaaDoorText3
import Derived.Test.YtlnajhochpbgpaaDoorBnat
import Derived.Test.YtlnajhochpbgpaaDoorKeep
import Derived.Test.YtlnajhochpbgpaaDoorRows
import Derived.Test.YtlnajhochpbgpaaDoorTie
import Derived.ProofKit
import Derived.LaidMore
import Derived.OpenShut
import Derived.Stop.Joined
import Derived.SevenTiedAt
import Derived.Carry
import Derived.Lib.LaidU8
import Derived.Lib.SmallJoins
namespace Go.Proofs.YtlnajhochpbgpaaDoor
open Go.Joins Go.ChangeShapes Go.WideShapes Go.ChangeAt Go.WideMaps Go.WideElems Go.RowKit Go.Proofs Go

theorem own : ownKnob Tryd.prog.godebug = none := by kernel_rfl
theorem laidOut : laidOutB Tryd.prog = true := by kernel_rfl

section
variable {H : Type} {enc : TypeId × Value → H} {P : Program}
/-- the arguments read as they did: below the old end of memory nothing has turned -/
theorem trodAll_stay (hl : laidOutB P = true) {W W' : World} (hb : Below W.heap.size W W') {sp : Nat → Bool} : ∀ {ts : List TypeId} {vs : List Value} {ds : List (DataW H)} {ps : List MemPlace},
    (∀ t ∈ ts, P.readableRec t = true ∧ t < P.types.size) → DataW.TrodAll enc P W 0 (fun _ => true) true ts vs ds ps → (∀ x ∈ ps, x.block < W.heap.size) → (∀ x ∈ ps, sp x.block = true) → DataW.TrodAll enc P W' 0 sp true ts vs ds ps
  | [], vs, ds, ps, _, h, _, _ => by
    obtain ⟨rfl, rfl, rfl⟩ := trodAll_nil h
    exact trodAll_mk0
  | t :: ts, vs, ds, ps, ht, h, hlt, hs => by
    obtain ⟨v, vs', d, ds', p, q, rfl, rfl, rfl, h1, h2⟩ := trodAll_cons h
    obtain ⟨r1, r2⟩ := ht t List.mem_cons_self
    refine ⟨p, q, ?_, trodAll_stay hl hb (fun t h => ht t (List.mem_cons_of_mem _ h)) h2 (fun x hx => hlt x (List.mem_append_right _ hx)) (fun x hx => hs x (List.mem_append_right _ hx)), rfl⟩
    exact Trod_stays hl r1 r2 h1 (fun x hx => hb.same (hlt x (List.mem_append_left _ hx))) (fun x hx => hs x (List.mem_append_left _ hx))
/-- a law's end: it has returned true, and below the old end of memory nothing has turned -/
theorem law_post {f : Func} {s : ChangeSpec} {W W' : World} {args : Array Value} {ds : List (DataW H)} {before : List MemPlace} (hl : laidOutB P = true) (hp : ∀ t ∈ f.params.toList, P.readableRec t = true ∧ t < P.types.size) {tb : TypeId} (hr : f.resultTypes = #[tb]) (htb : P.underlying tb = some .bool)
    (hvars : s.vars = []) (hfn : s.fn H (ds ++ []) = { results := [.lit (.bool true)], args := ds, vars := [] })
    (hW : DataW.Whole enc P f.params.toList s.vars false W args.toList ds [] before) (hA : DataW.TrodAll enc P W 0 (fun _ => true) true f.params.toList args.toList ds before) (hb : Below W.heap.size W W') :
    s.post enc P f false true false false W args (.bool true) W' := by
  have hlt : ∀ p ∈ before, p.block < W.heap.size := fun p hp => hW.lt p hp
  have hold : ∀ p ∈ before, (fun b => decide (b < W.heap.size)) p.block = true := fun p hp => by simpa using hlt p hp
  have hok : ∀ (j : Nat) (t : TypeId) (r : Value), f.resultTypes[j]? = some t → ((Value.bool true).resultList f.resultTypes.size)[j]? = some r → Value.okWide P W' .any 0 t r := ok_one hr rfl (okWide_bool_mk htb _)
  have hres : ∀ (b : Nat) (sp : Nat → Bool) (hd : Bool), DataW.TrodAll enc P W' b sp hd f.resultTypes.toList ((Value.bool true).resultList f.resultTypes.size) (s.fn H (ds ++ [])).results [] := fun b sp hd => by
    rw [hfn, hr]; exact trodAll_mk1 (shut_bool htb _)
  have hargs : ∀ sp : Nat → Bool, (∀ p ∈ before, sp p.block = true) → DataW.TrodAll enc P W' 0 sp true f.params.toList args.toList (s.fn H (ds ++ [])).args before := fun sp hsp => by
    rw [hfn]; exact trodAll_stay hl hb hp hA hlt hsp
  have hvs : ∀ sp : Nat → Bool, DataW.TrodVars enc P W' sp s.vars (s.fn H (ds ++ [])).vars [] := fun sp => by
    rw [hfn, hvars]; simp [DataW.TrodVars]
  refine ⟨ds, [], before, [], before, [], hW, hres _ _ _, hargs _ hold, hvs _, World.keptBut_mono (fun p hp => ⟨hp, .inr (by simpa using hp)⟩) (hb.frame (· ∈ before)), fun _ => ?_⟩
  obtain ⟨_, _, _, _, _, hz, hn⟩ := hW
  refine ⟨hok, _, _, ([] ++ before) ++ [], ⟨[] ++ before, [], trodAll_append (hargs _ (fun _ _ => rfl)) (hres _ _ _), hvs _, rfl, ?_, ?_⟩, ?_⟩
  · intro b off hp
    have hin : MemPlace.cell b off ∈ before := by simpa using hp
    rw [hb.frozen (hlt _ hin)]
    exact hz b off hin
  · intro ha; cases ha
  · intro p hp _
    simpa using hp
end

theorem i64_bd {n : Int} (h : (Lit.int .i64 n).wf = true) : -9223372036854775808 ≤ n ∧ n ≤ 9223372036854775807 := by
  simp only [Lit.wf, Bool.and_eq_true, decide_eq_true_eq] at h
  have e1 : IntKind.i64.min = -9223372036854775808 := rfl
  have e2 : IntKind.i64.max = 9223372036854775807 := rfl
  rw [e1, e2] at h
  exact h
theorem lim_of {W : World} {zs : List Int} {a : Addr} {len cap : Nat} (hl : len ≤ cap) (hz : zs.length = cap) (hc : ∀ i, i < zs.length → W.cell? (a.add i) = some (.int .u32 (zs.getD i 0))) (hw : ∀ n ∈ zs, (Lit.int .u32 n).wf = true) :
    ∃ l : List Nat, Lim W (some a) cap l ∧ len = l.length := by
  have hr : ∀ i, i < zs.length → 0 ≤ zs.getD i 0 ∧ zs.getD i 0 < 4294967296 := fun i hi => by
    have h1 := hw (zs.getD i 0) (by simp [List.getD_eq_getElem?_getD, List.getElem?_eq_getElem hi])
    simp only [Lit.wf, Bool.and_eq_true, decide_eq_true_eq] at h1
    have e1 : IntKind.u32.min = 0 := rfl
    have e2 : IntKind.u32.max = 4294967295 := rfl
    rw [e1, e2] at h1
    omega
  have hat : ∀ j, j < len → at_ ((zs.take len).map Int.toNat) j = (zs.getD j 0).toNat := fun j hj => by
    have : j < zs.length := by omega
    simp [at_, hj, List.getD_eq_getElem?_getD, List.getElem?_eq_getElem this]
  refine ⟨(zs.take len).map Int.toNat, ⟨by simp; omega, fun j => ?_, fun h0 => ⟨a, rfl, ?_, fun j hj => ?_⟩⟩, by simp; omega⟩
  · by_cases hj : j < len
    · rw [hat j hj]; have := hr j (by omega); omega
    · rw [at_ge (by simp; omega)]; omega
  · have := hc 0 (by simp at h0; omega)
    rw [← addr_add_block a 0]
    exact cell_lt this
  · have hj' : j < len := by simp at hj; omega
    rw [hc j (by omega), hat j hj']
    have := hr j (by omega)
    congr 2
    omega
section
variable {H : Type} {enc : TypeId × Value → H}
set_option maxRecDepth 100000 in
theorem open_limbs {W : World} {n : Nat} {v : Value} {y : DataW H × List MemPlace} (h : DataW.trod enc Tryd.prog W 0 (fun _ => true) true n 69 [v] = some y) :
    ∃ A n c l, v = .slice A n c ∧ Lim W A c l ∧ n = l.length ∧ n ≤ 9223372036854775807 := by
  obtain ⟨xs, m, rfl, _, _, hxl, hall⟩ := DataW.trod_struct Tryd.underlying69 h
  have h0 := hall 0 _ rfl
  have hx : xs[0]? = some (xs[0]'(by rw [hxl]; decide)) := List.getElem?_eq_getElem _
  rw [hx] at h0
  have h1 : DataW.trod enc Tryd.prog W 0 (fun _ => true) true m 67 [v] = some (xs[0]'(by rw [hxl]; decide)) := h0
  rcases open_ints Tryd.underlying67 Tryd.underlying82 (by kernel_rfl) h1 with ⟨h2, _⟩ | ⟨a, len, cap, zs, h2, _, hl, hm, hz, _, hc, hw⟩
  · obtain rfl : v = .slice none 0 0 := by simpa using h2
    exact ⟨none, 0, 0, [], rfl, Lim.nil _ _ _, rfl, by omega⟩
  · obtain rfl : v = .slice (some a) len cap := by simpa using h2
    simp only [if_true] at hz
    obtain ⟨l, hL, hn⟩ := lim_of hl hz hc hw
    unfold maxLen at hm
    exact ⟨some a, len, cap, l, rfl, hL, hn, by omega⟩
end

set_option maxRecDepth 100000 in
theorem tab_of_reads {W : World} {d : DataW Unit} (hd : d = Lib.tabData .u64 Lib.pow10Tab) (h : Lib.VarReads Tryd.prog W "internal/strconv.uint64pow10" d) : Tab W := by
  subst hd
  obtain ⟨g, t, cs, fuel, p, h1, h2, h3, h4⟩ := h
  have hg : Tryd.prog.globalNamed "internal/strconv.uint64pow10" = some 3 := by kernel_rfl
  obtain rfl := Option.some.inj (hg.symm.trans h1)
  have ht : (Tryd.prog.globals[3]?).map (·.type) = some 111 := by kernel_rfl
  obtain rfl := Option.some.inj (ht.symm.trans h2)
  show Lib.TabIs _ _ _ _ _
  unfold Lib.TabIs
  rw [h3, ← Lib.cells_of_tab Tryd.underlying111 Tryd.underlying71 (by kernel_rfl) (by kernel_rfl) h4]
end Go.Proofs.YtlnajhochpbgpaaDoor
