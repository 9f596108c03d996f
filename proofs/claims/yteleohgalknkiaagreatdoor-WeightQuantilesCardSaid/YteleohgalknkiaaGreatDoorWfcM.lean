/- An argument that is a fraction, opened. -/
import Derived.Test.YteleohgalknkiaaGreatDoorText3
import Derived.Test.YteleohgalknkiaaGreatDoorBnat
import Derived.Test.YteleohgalknkiaaGreatDoorKeep
import Derived.Test.YteleohgalknkiaaGreatDoorRows
import Derived.Test.YteleohgalknkiaaGreatDoorTie
import Derived.ProofKit
import Derived.LaidMore
import Derived.OpenShut
import Derived.Stop.Joined
import Derived.SevenTiedAt
import Derived.Carry
import Derived.Lib.LaidU8
import Derived.Lib.SmallJoins
import Derived.Test.YteleohgalknkiaaGreatDoorRTextM
import Derived.Test.YteleohgalknkiaaGreatDoorIn
import Derived.Deep.Slices
import Derived.ChangeSame
import Derived.Stop.LaidErr
import Derived.Handed
import Derived.Test.YteleohgalknkiaaGreatDoorW14M
namespace Go.Proofs.YteleohgalknkiaaGreatDoor
open Go.Joins Go.ChangeShapes Go.WideShapes Go.ChangeAt Go.WideMaps Go.WideElems Go.RowKit Go.Proofs Go

theorem own : ownKnob Tryz.prog.godebug = none := by kernel_rfl
theorem laidOut : laidOutB Tryz.prog = true := by kernel_rfl

section
variable {H : Type} {enc : TypeId × Value → H} {P : Program}
/-- the arguments read as they did: below the old end of memory nothing has turned -/
theorem trodAll_stay (hl : laidOutB P = true) {W W' : World} (hb : Below W.heap.size W W') {sp : Nat → Bool} : ∀ {ts : List TypeId} {vs : List Value} {ds : List (DataW H)} {ps : List MemPlace},
    (∀ t ∈ ts, P.readableRec t = true ∧ t < P.types.size) → DataW.TrodAll enc P W 0 (fun _ => true) true ts vs ds ps → (∀ x ∈ ps, x.block < W.heap.size) → (∀ x ∈ ps, sp x.block = true) → DataW.TrodAll enc P W' 0 sp true ts vs ds ps
  | [], vs, ds, ps, _, h, _, _ => by
    obtain ⟨rfl, rfl, rfl⟩ := trodAll_nil h
    exact trodAll_mk0
  | t :: ts, vs, ds, ps, ht, h, hlt, hs => by
    obtain ⟨v, vs', d, ds', p, q, rfl, rfl, rfl, h1, h2⟩ := trodAll_cons h
    obtain ⟨r1, r2⟩ := ht t List.mem_cons_self
    refine ⟨p, q, ?_, trodAll_stay hl hb (fun t h => ht t (List.mem_cons_of_mem _ h)) h2 (fun x hx => hlt x (List.mem_append_right _ hx)) (fun x hx => hs x (List.mem_append_right _ hx)), rfl⟩
    exact Trod_stays hl r1 r2 h1 (fun x hx => hb.same (hlt x (List.mem_append_left _ hx))) (fun x hx => hs x (List.mem_append_left _ hx))
/-- a law's end: it has returned true, and below the old end of memory nothing has turned -/
theorem law_post {f : Func} {s : ChangeSpec} {W W' : World} {args : Array Value} {ds : List (DataW H)} {before : List MemPlace} (hl : laidOutB P = true) (hp : ∀ t ∈ f.params.toList, P.readableRec t = true ∧ t < P.types.size) {tb : TypeId} (hr : f.resultTypes = #[tb]) (htb : P.underlying tb = some .bool)
    (hvars : s.vars = []) (hfn : s.fn H (ds ++ []) = { results := [.lit (.bool true)], args := ds, vars := [] })
    (hW : DataW.Whole enc P f.params.toList s.vars false W args.toList ds [] before) (hA : DataW.TrodAll enc P W 0 (fun _ => true) true f.params.toList args.toList ds before) (hb : Below W.heap.size W W') :
    s.post enc P f false true false false W args (.bool true) W' := by
  have hlt : ∀ p ∈ before, p.block < W.heap.size := fun p hp => hW.lt p hp
  have hold : ∀ p ∈ before, (fun b => decide (b < W.heap.size)) p.block = true := fun p hp => by simpa using hlt p hp
  have hok : ∀ (j : Nat) (t : TypeId) (r : Value), f.resultTypes[j]? = some t → ((Value.bool true).resultList f.resultTypes.size)[j]? = some r → Value.okWide P W' .any 0 t r := ok_one hr rfl (okWide_bool_mk htb _)
  have hres : ∀ (b : Nat) (sp : Nat → Bool) (hd : Bool), DataW.TrodAll enc P W' b sp hd f.resultTypes.toList ((Value.bool true).resultList f.resultTypes.size) (s.fn H (ds ++ [])).results [] := fun b sp hd => by
    rw [hfn, hr]; exact trodAll_mk1 (shut_bool htb _)
  have hargs : ∀ sp : Nat → Bool, (∀ p ∈ before, sp p.block = true) → DataW.TrodAll enc P W' 0 sp true f.params.toList args.toList (s.fn H (ds ++ [])).args before := fun sp hsp => by
    rw [hfn]; exact trodAll_stay hl hb hp hA hlt hsp
  have hvs : ∀ sp : Nat → Bool, DataW.TrodVars enc P W' sp s.vars (s.fn H (ds ++ [])).vars [] := fun sp => by
    rw [hfn, hvars]; simp [DataW.TrodVars]
  refine ⟨ds, [], before, [], before, [], hW, hres _ _ _, hargs _ hold, hvs _, World.keptBut_mono (fun p hp => ⟨hp, .inr (by simpa using hp)⟩) (hb.frame (· ∈ before)), fun _ => ?_⟩
  obtain ⟨_, _, _, _, _, hz, hn⟩ := hW
  refine ⟨hok, _, _, ([] ++ before) ++ [], ⟨[] ++ before, [], trodAll_append (hargs _ (fun _ _ => rfl)) (hres _ _ _), hvs _, rfl, ?_, ?_⟩, ?_⟩
  · intro b off hp
    have hin : MemPlace.cell b off ∈ before := by simpa using hp
    rw [hb.frozen (hlt _ hin)]
    exact hz b off hin
  · intro ha; cases ha
  · intro p hp _
    simpa using hp
end

theorem i64_bd {n : Int} (h : (Lit.int .i64 n).wf = true) : -9223372036854775808 ≤ n ∧ n ≤ 9223372036854775807 := by
  simp only [Lit.wf, Bool.and_eq_true, decide_eq_true_eq] at h
  have e1 : IntKind.i64.min = -9223372036854775808 := rfl
  have e2 : IntKind.i64.max = 9223372036854775807 := rfl
  rw [e1, e2] at h
  exact h
theorem lim_of {W : World} {zs : List Int} {a : Addr} {len cap : Nat} (hl : len ≤ cap) (hz : zs.length = cap) (hc : ∀ i, i < zs.length → W.cell? (a.add i) = some (.int .u32 (zs.getD i 0))) (hw : ∀ n ∈ zs, (Lit.int .u32 n).wf = true) :
    ∃ l : List Nat, Lim W (some a) cap l ∧ len = l.length := by
  have hr : ∀ i, i < zs.length → 0 ≤ zs.getD i 0 ∧ zs.getD i 0 < 4294967296 := fun i hi => by
    have h1 := hw (zs.getD i 0) (by simp [List.getD_eq_getElem?_getD, List.getElem?_eq_getElem hi])
    simp only [Lit.wf, Bool.and_eq_true, decide_eq_true_eq] at h1
    have e1 : IntKind.u32.min = 0 := rfl
    have e2 : IntKind.u32.max = 4294967295 := rfl
    rw [e1, e2] at h1
    omega
  have hat : ∀ j, j < len → at_ ((zs.take len).map Int.toNat) j = (zs.getD j 0).toNat := fun j hj => by
    have : j < zs.length := by omega
    simp [at_, hj, List.getD_eq_getElem?_getD, List.getElem?_eq_getElem this]
  refine ⟨(zs.take len).map Int.toNat, ⟨by simp; omega, fun j => ?_, fun h0 => ⟨a, rfl, ?_, fun j hj => ?_⟩⟩, by simp; omega⟩
  · by_cases hj : j < len
    · rw [hat j hj]; have := hr j (by omega); omega
    · rw [at_ge (by simp; omega)]; omega
  · have := hc 0 (by simp at h0; omega)
    rw [← addr_add_block a 0]
    exact cell_lt this
  · have hj' : j < len := by simp at hj; omega
    rw [hc j (by omega), hat j hj']
    have := hr j (by omega)
    congr 2
    omega
section
variable {H : Type} {enc : TypeId × Value → H}
set_option maxRecDepth 100000 in
theorem open_limbs {W : World} {n : Nat} {v : Value} {y : DataW H × List MemPlace} (h : DataW.trod enc Tryz.prog W 0 (fun _ => true) true n 35 [v] = some y) :
    ∃ A n c l, v = .slice A n c ∧ Lim W A c l ∧ n = l.length ∧ n ≤ 9223372036854775807 := by
  obtain ⟨xs, m, rfl, _, _, hxl, hall⟩ := DataW.trod_struct Tryz.underlying35 h
  have h0 := hall 0 _ rfl
  have hx : xs[0]? = some (xs[0]'(by rw [hxl]; decide)) := List.getElem?_eq_getElem _
  rw [hx] at h0
  have h1 : DataW.trod enc Tryz.prog W 0 (fun _ => true) true m 33 [v] = some (xs[0]'(by rw [hxl]; decide)) := h0
  rcases open_ints Tryz.underlying33 Tryz.underlying132 (by kernel_rfl) h1 with ⟨h2, _⟩ | ⟨a, len, cap, zs, h2, _, hl, hm, hz, _, hc, hw⟩
  · obtain rfl : v = .slice none 0 0 := by simpa using h2
    exact ⟨none, 0, 0, [], rfl, Lim.nil _ _ _, rfl, by omega⟩
  · obtain rfl : v = .slice (some a) len cap := by simpa using h2
    simp only [if_true] at hz
    obtain ⟨l, hL, hn⟩ := lim_of hl hz hc hw
    unfold maxLen at hm
    exact ⟨some a, len, cap, l, rfl, hL, hn, by omega⟩
end

set_option maxRecDepth 100000 in
theorem tab_of_reads {W : World} {d : DataW Unit} (hd : d = Lib.tabData .u64 Lib.pow10Tab) (h : Lib.VarReads Tryz.prog W "internal/strconv.uint64pow10" d) : Tab W := by
  subst hd
  obtain ⟨g, t, cs, fuel, p, h1, h2, h3, h4⟩ := h
  have hg : Tryz.prog.globalNamed "internal/strconv.uint64pow10" = some 5 := by kernel_rfl
  obtain rfl := Option.some.inj (hg.symm.trans h1)
  have ht : (Tryz.prog.globals[5]?).map (·.type) = some 215 := by kernel_rfl
  obtain rfl := Option.some.inj (ht.symm.trans h2)
  show Lib.TabIs _ _ _ _ _
  unfold Lib.TabIs
  rw [h3, ← Lib.cells_of_tab Tryz.underlying215 Tryz.underlying131 (by kernel_rfl) (by kernel_rfl) h4]
end Go.Proofs.YteleohgalknkiaaGreatDoor

namespace Go.Proofs.YteleohgalknkiaaGreatDoor
open Go.Joins Go.ChangeShapes Go.WideShapes Go.ChangeAt Go.WideMaps Go.WideElems Go.RowKit Go.Proofs Go Go.Deep

theorem star : "*" ++ "errors.errorString" = "*errors.errorString" := by decide
theorem row_star (u : TypeId) (h : Tryz.prog.typeName? 3 u = some "*errors.errorString") : u = 219 :=
  typeName_ptr_named (nm := "errors.errorString") (by rw [star]; kernel_rfl) (by kernel_rfl) (by decide) u (by rw [star]; exact h)
theorem evar_of_laid {n : String} {text : List UInt8} {r : List (String × DataW Unit)} {W : World} {g : Nat}
    (h : laidMet Tryz.prog ((n, .iface "*errors.errorString" (.ptr (.agg [.lit (.string text)]))) :: r) W) (hg : Tryz.prog.globalNamed n = some g) (ht : (Tryz.prog.globals[g]?).map (·.type) = some 98) : Evar W g := by
  obtain ⟨a, s, hv, _, _, _⟩ := laid_sentinel h hg ht Tryz.underlying98 row_star Tryz.underlying219 Tryz.underlying221 rfl rfl Tryz.underlying9 (by kernel_rfl) (by kernel_rfl)
  exact ⟨_, by simpa using World.var?_cell hg hv 0, .inr ⟨_, _, rfl⟩⟩
theorem env_of {w : World} {x0 x1 x2 x3 : String × DataW Unit} {t1 t2 : List UInt8} {r : List (String × DataW Unit)} (hT : Tab w) (h : w.ShapedOpen Tryz.prog)
    (hL : laidMetH Tryz.prog (x0 :: x1 :: x2 :: x3 :: ("strconv.ErrRange", .iface "*errors.errorString" (.ptr (.agg [.lit (.string t1)]))) :: ("strconv.ErrSyntax", .iface "*errors.errorString" (.ptr (.agg [.lit (.string t2)]))) :: r) w)
    (hp : laidMetH Tryz.prog (x0 :: x1 :: x2 :: x3 :: ("strconv.ErrRange", .iface "*errors.errorString" (.ptr (.agg [.lit (.string t1)]))) :: ("strconv.ErrSyntax", .iface "*errors.errorString" (.ptr (.agg [.lit (.string t2)]))) :: r) w → laidMet Tryz.prog (x0 :: x1 :: x2 :: x3 :: ("strconv.ErrRange", .iface "*errors.errorString" (.ptr (.agg [.lit (.string t1)]))) :: ("strconv.ErrSyntax", .iface "*errors.errorString" (.ptr (.agg [.lit (.string t2)]))) :: r) w) : Env w where
  tab := hT
  mx := cell_of_shapedOpen_int (g := 0) (zero := #[.int .i64 0]) (t := 3) h (of_decide_eq_true (by kernel_rfl)) (by kernel_rfl) rfl (by kernel_rfl) (by kernel_rfl) Tryz.underlying3
  e2 := evar_of_laid (hp hL).tail.tail.tail.tail (by kernel_rfl) (by kernel_rfl)
  e1 := evar_of_laid (hp hL).tail.tail.tail.tail.tail (by kernel_rfl) (by kernel_rfl)
section
variable {H : Type} {enc : TypeId × Value → H}
set_option maxRecDepth 100000 in
theorem open_arr3 {W : World} {base : Nat} {v : Value} {d : DataW H} {p : List MemPlace} (hv : Value.okWide Tryz.prog W .any base 54 v) (h : DataW.Trod enc Tryz.prog W 0 (fun _ => true) true 54 v d p) :
    ∃ a b c : Int, v = .agg #[.int .i64 a, .int .i64 b, .int .i64 c] := by
  unfold Value.okWide at hv
  rw [Tryz.underlying54] at hv
  obtain ⟨cs, rfl, hsz, _⟩ := hv
  obtain ⟨cl⟩ := cs
  have hC : Tryz.prog.cellsOf 54 = 3 := by kernel_rfl
  have hI : Tryz.prog.cellsOf 3 = 1 := by kernel_rfl
  rw [hC] at hsz
  match cl, hsz with
  | [c0, c1, c2], _ =>
    obtain ⟨fuel, hf⟩ := h
    obtain ⟨xs, m, rfl, _, _, hxl, hall⟩ := DataW.trod_array Tryz.underlying54 hf
    rw [hI] at hall
    have hx : ∀ j, j < 3 → ∃ y, xs[j]? = some y := fun j hj => ⟨_, List.getElem?_eq_getElem (show j < xs.length by rw [hxl]; exact hj)⟩
    obtain ⟨y0, e0⟩ := hx 0 (by omega)
    obtain ⟨y1, e1⟩ := hx 1 (by omega)
    obtain ⟨y2, e2⟩ := hx 2 (by omega)
    have h0 : DataW.trod enc Tryz.prog W 0 (fun _ => true) true m 3 [c0] = some y0 := (hall 0 (by omega)).trans e0
    have h1 : DataW.trod enc Tryz.prog W 0 (fun _ => true) true m 3 [c1] = some y1 := (hall 1 (by omega)).trans e1
    have h2 : DataW.trod enc Tryz.prog W 0 (fun _ => true) true m 3 [c2] = some y2 := (hall 2 (by omega)).trans e2
    obtain ⟨a, q0, _⟩ := DataW.trod_int Tryz.underlying3 h0
    obtain rfl : c0 = .int .i64 a := by simpa using q0
    obtain ⟨b, q1, _⟩ := DataW.trod_int Tryz.underlying3 h1
    obtain rfl : c1 = .int .i64 b := by simpa using q1
    obtain ⟨c, q2, _⟩ := DataW.trod_int Tryz.underlying3 h2
    obtain rfl : c2 = .int .i64 c := by simpa using q2
    exact ⟨a, b, c, rfl⟩
set_option maxRecDepth 100000 in
theorem open_il {W : World} {base : Nat} {v : Value} {d : DataW H} {p : List MemPlace} (hv : Value.okWide Tryz.prog W .any base 46 v) (h : DataW.Trod enc Tryz.prog W 0 (fun _ => true) true 46 v d p) :
    ∃ (A : Option Addr) (l : List Int) (c : Nat), v = .slice A l.length c ∧ IEs W A l ∧ l.length ≤ 9223372036854775807 := by
  obtain ⟨a0, len0, cap0, rfl⟩ := okWide_slice Tryz.underlying46 hv
  obtain ⟨fuel, hf⟩ := h
  rcases open_ints Tryz.underlying46 Tryz.underlying3 (by kernel_rfl) hf with ⟨h2, _⟩ | ⟨a, len, cap, zs, h2, _, hl, hm, hz, _, hc, _⟩
  · injection h2 with h3 _
    rw [h3]
    exact ⟨none, [], 0, rfl, IEs.nil _ _, by simp⟩
  · injection h2 with h3 _
    rw [h3]
    simp only [if_true] at hz
    have hlen : (zs.take len).length = len := by rw [List.length_take]; omega
    refine ⟨some a, zs.take len, cap, by rw [hlen], fun h0 => ⟨a, rfl, ?_, fun i x hx => ?_⟩, by rw [hlen]; unfold maxLen at hm; omega⟩
    · rw [hlen] at h0
      have h4 := hc 0 (by omega)
      have h5 := cell_lt h4
      rw [addr_add_block] at h5
      exact h5
    · have hi := (List.getElem?_eq_some_iff.1 hx).1
      rw [hlen] at hi
      rw [List.getElem?_take, if_pos hi] at hx
      rw [hc i (by omega), List.getD, hx]; rfl
end
end Go.Proofs.YteleohgalknkiaaGreatDoor

namespace Go.Proofs.YteleohgalknkiaaGreatDoor
open Go Go.Proofs

section
variable {H : Type} {enc : TypeId × Value → H}
theorem handed_and_shaped {a : Assume} {C : Checked} {os : Os} {f : FuncId} {fn : Func} {s : ChangeSpec} {conds : List PathCond} {apart fresh handsOn again : Bool} {X : World → Array Value → Prop}
    (hX : ∀ (w w' : World) (args : Array Value), w.heap = w'.heap → X w args → X w' args)
    (own : ownKnob C.prog.godebug = none) (started : os.Started) (noInit : C.prog.inits.idxOf? f = none) (hfn : C.prog.funcs[f]? = some fn)
    (witness : ∃ (w : World) (tape : Tape) (i : Input), w.os = os ∧ (w.forCall tape i).Shaped C.prog ∧ i.vars = [] ∧ Input.okWide C.prog (w.forCall tape i) .any w.heap.size f i ∧
      ((s.pre enc C.prog fn conds apart (w.forCall tape i).memory i.args ∧ X (w.forCall tape i).memory i.args) ∧ sizedMet enc C.prog fn (OpenSpec.ofChange s) apart (w.forCall tape i).memory i.args) ∧ a.holds C.prog (lone (Frame.enter C.prog f i.args .normal) [] (w.forCall tape i)))
    (contract : ∀ (W : World) (base : Nat) (args : Array Value) (ds gs : List (DataW H)) (before : List MemPlace),
      (∀ (j : Nat) t v, fn.params[j]? = some t → args[j]? = some v → Value.okWide C.prog W .any base t v) →
      DataW.Whole enc C.prog fn.params.toList s.vars apart W args.toList ds gs before → X W args → W.ShapedOpen C.prog →
      Calls C.prog f args W fun e W' => ∃ v, e = .returned v ∧ s.post enc C.prog fn apart fresh handsOn again W args v W') :
    ReturnsInHanded a C os f .any (fun w args => (s.pre enc C.prog fn conds apart w args ∧ X w args) ∧ sizedMet enc C.prog fn (OpenSpec.ofChange s) apart w args) (s.post enc C.prog fn apart fresh handsOn again) := by
  refine returnsInHanded_of_calls own started noInit witness ?_
  intro w tape i _ hsh _ hok hpre _
  obtain ⟨_, _, _, fn', hfn', _, _, _, _, hval⟩ := hok
  obtain rfl : fn' = fn := Option.some.inj (hfn'.symm.trans hfn)
  obtain ⟨⟨⟨ds, gs, before, hw, _⟩, hx⟩, _⟩ := hpre
  refine (contract (w.forCall tape i) w.heap.size i.args ds gs before hval (DataW.Whole.of_heap (w' := w.forCall tape i) (by rfl) hw) (hX _ _ _ (by rfl) hx) hsh).mono fun e W' ⟨v, he, hp⟩ => ?_
  subst he
  exact ChangeSpec.post_blind hp
end
end Go.Proofs.YteleohgalknkiaaGreatDoor

namespace Go.Proofs.YteleohgalknkiaaGreatDoor
open Go.Joins Go.ChangeShapes Go.WideShapes Go.ChangeAt Go.WideMaps Go.WideElems Go.RowKit Go.Proofs Go

section
variable {H : Type} {enc : TypeId × Value → H}
set_option maxRecDepth 100000 in
theorem open_frac {W : World} {base : Nat} {v : Value} {d : DataW H} {p : List MemPlace} (hv : Value.okWide Tryz.prog W .any base 37 v) (h : DataW.Trod enc Tryz.prog W 0 (fun _ => true) true 37 v d p) :
    ∃ s A n c B m d', v = .agg #[.bool s, .slice A n c, .slice B m d'] ∧ Arg W s A n c B m d' := by
  obtain ⟨v0, v1, v2, y0, y1, y2, n, rfl, _, _, h0, h1, h2⟩ := open_agg3 Tryz.underlying37 (by kernel_rfl) (by kernel_rfl) hv h
  obtain ⟨s, e0, _⟩ := DataW.trod_bool Tryz.underlying4 h0
  obtain rfl : v0 = .bool s := by simpa using e0
  obtain ⟨A, n1, c1, l, rfl, HA, hn1, hb1⟩ := open_limbs h1
  obtain ⟨B, n2, c2, r, rfl, HB, hn2, hb2⟩ := open_limbs h2
  exact ⟨s, A, n1, c1, B, n2, c2, rfl, ⟨⟨l, r, HA, HB, hn1, hn2⟩, hb1, hb2⟩⟩
end
end Go.Proofs.YteleohgalknkiaaGreatDoor
