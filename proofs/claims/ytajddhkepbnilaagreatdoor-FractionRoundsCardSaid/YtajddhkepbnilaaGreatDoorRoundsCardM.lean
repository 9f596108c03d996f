/- The statement FractionRounds holds: for every input the law returns true, and each argument reads afterwards as it read before. Conditions: those of the row alone (the library's tables as the program's text lays them). -/
import Derived.Test.YtajddhkepbnilaaGreatDoorText3
import Derived.Test.YtajddhkepbnilaaGreatDoorBnat
import Derived.Test.YtajddhkepbnilaaGreatDoorKeep
import Derived.Test.YtajddhkepbnilaaGreatDoorRows
import Derived.Test.YtajddhkepbnilaaGreatDoorTie
import Derived.ProofKit
import Derived.LaidMore
import Derived.OpenShut
import Derived.Stop.Joined
import Derived.SevenTiedAt
import Derived.Carry
import Derived.Lib.LaidU8
import Derived.Lib.SmallJoins
import Derived.Test.YtajddhkepbnilaaGreatDoorOps
import Derived.Handed
import Derived.Test.YtajddhkepbnilaaGreatDoorRounds
import Derived.Test.YtajddhkepbnilaaGreatDoorCards
import Derived.Lay
namespace Go.Proofs.YtajddhkepbnilaaGreatDoor
open Go.Joins Go.ChangeShapes Go.WideShapes Go.ChangeAt Go.WideMaps Go.WideElems Go.RowKit Go.Proofs Go

theorem own : ownKnob Tryz.prog.godebug = none := by kernel_rfl
theorem laidOut : laidOutB Tryz.prog = true := by kernel_rfl

section
variable {H : Type} {enc : TypeId × Value → H} {P : Program}
/-- the arguments read as they did: below the old end of memory nothing has turned -/
theorem trodAll_stay (hl : laidOutB P = true) {W W' : World} (hb : Below W.heap.size W W') {sp : Nat → Bool} : ∀ {ts : List TypeId} {vs : List Value} {ds : List (DataW H)} {ps : List MemPlace},
    (∀ t ∈ ts, P.readableRec t = true ∧ t < P.types.size) → DataW.TrodAll enc P W 0 (fun _ => true) true ts vs ds ps → (∀ x ∈ ps, x.block < W.heap.size) → (∀ x ∈ ps, sp x.block = true) → DataW.TrodAll enc P W' 0 sp true ts vs ds ps
  | [], vs, ds, ps, _, h, _, _ => by
    obtain ⟨rfl, rfl, rfl⟩ := trodAll_nil h
    exact trodAll_mk0
  | t :: ts, vs, ds, ps, ht, h, hlt, hs => by
    obtain ⟨v, vs', d, ds', p, q, rfl, rfl, rfl, h1, h2⟩ := trodAll_cons h
    obtain ⟨r1, r2⟩ := ht t List.mem_cons_self
    refine ⟨p, q, ?_, trodAll_stay hl hb (fun t h => ht t (List.mem_cons_of_mem _ h)) h2 (fun x hx => hlt x (List.mem_append_right _ hx)) (fun x hx => hs x (List.mem_append_right _ hx)), rfl⟩
    exact Trod_stays hl r1 r2 h1 (fun x hx => hb.same (hlt x (List.mem_append_left _ hx))) (fun x hx => hs x (List.mem_append_left _ hx))
/-- a law's end: it has returned true, and below the old end of memory nothing has turned -/
theorem law_post {f : Func} {s : ChangeSpec} {W W' : World} {args : Array Value} {ds : List (DataW H)} {before : List MemPlace} (hl : laidOutB P = true) (hp : ∀ t ∈ f.params.toList, P.readableRec t = true ∧ t < P.types.size) {tb : TypeId} (hr : f.resultTypes = #[tb]) (htb : P.underlying tb = some .bool)
    (hvars : s.vars = []) (hfn : s.fn H (ds ++ []) = { results := [.lit (.bool true)], args := ds, vars := [] })
    (hW : DataW.Whole enc P f.params.toList s.vars false W args.toList ds [] before) (hA : DataW.TrodAll enc P W 0 (fun _ => true) true f.params.toList args.toList ds before) (hb : Below W.heap.size W W') :
    s.post enc P f false true false false W args (.bool true) W' := by
  have hlt : ∀ p ∈ before, p.block < W.heap.size := fun p hp => hW.lt p hp
  have hold : ∀ p ∈ before, (fun b => decide (b < W.heap.size)) p.block = true := fun p hp => by simpa using hlt p hp
  have hok : ∀ (j : Nat) (t : TypeId) (r : Value), f.resultTypes[j]? = some t → ((Value.bool true).resultList f.resultTypes.size)[j]? = some r → Value.okWide P W' .any 0 t r := ok_one hr rfl (okWide_bool_mk htb _)
  have hres : ∀ (b : Nat) (sp : Nat → Bool) (hd : Bool), DataW.TrodAll enc P W' b sp hd f.resultTypes.toList ((Value.bool true).resultList f.resultTypes.size) (s.fn H (ds ++ [])).results [] := fun b sp hd => by
    rw [hfn, hr]; exact trodAll_mk1 (shut_bool htb _)
  have hargs : ∀ sp : Nat → Bool, (∀ p ∈ before, sp p.block = true) → DataW.TrodAll enc P W' 0 sp true f.params.toList args.toList (s.fn H (ds ++ [])).args before := fun sp hsp => by
    rw [hfn]; exact trodAll_stay hl hb hp hA hlt hsp
  have hvs : ∀ sp : Nat → Bool, DataW.TrodVars enc P W' sp s.vars (s.fn H (ds ++ [])).vars [] := fun sp => by
    rw [hfn, hvars]; simp [DataW.TrodVars]
  refine ⟨ds, [], before, [], before, [], hW, hres _ _ _, hargs _ hold, hvs _, World.keptBut_mono (fun p hp => ⟨hp, .inr (by simpa using hp)⟩) (hb.frame (· ∈ before)), fun _ => ?_⟩
  obtain ⟨_, _, _, _, _, hz, hn⟩ := hW
  refine ⟨hok, _, _, ([] ++ before) ++ [], ⟨[] ++ before, [], trodAll_append (hargs _ (fun _ _ => rfl)) (hres _ _ _), hvs _, rfl, ?_, ?_⟩, ?_⟩
  · intro b off hp
    have hin : MemPlace.cell b off ∈ before := by simpa using hp
    rw [hb.frozen (hlt _ hin)]
    exact hz b off hin
  · intro ha; cases ha
  · intro p hp _
    simpa using hp
end

theorem i64_bd {n : Int} (h : (Lit.int .i64 n).wf = true) : -9223372036854775808 ≤ n ∧ n ≤ 9223372036854775807 := by
  simp only [Lit.wf, Bool.and_eq_true, decide_eq_true_eq] at h
  have e1 : IntKind.i64.min = -9223372036854775808 := rfl
  have e2 : IntKind.i64.max = 9223372036854775807 := rfl
  rw [e1, e2] at h
  exact h
theorem lim_of {W : World} {zs : List Int} {a : Addr} {len cap : Nat} (hl : len ≤ cap) (hz : zs.length = cap) (hc : ∀ i, i < zs.length → W.cell? (a.add i) = some (.int .u32 (zs.getD i 0))) (hw : ∀ n ∈ zs, (Lit.int .u32 n).wf = true) :
    ∃ l : List Nat, Lim W (some a) cap l ∧ len = l.length := by
  have hr : ∀ i, i < zs.length → 0 ≤ zs.getD i 0 ∧ zs.getD i 0 < 4294967296 := fun i hi => by
    have h1 := hw (zs.getD i 0) (by simp [List.getD_eq_getElem?_getD, List.getElem?_eq_getElem hi])
    simp only [Lit.wf, Bool.and_eq_true, decide_eq_true_eq] at h1
    have e1 : IntKind.u32.min = 0 := rfl
    have e2 : IntKind.u32.max = 4294967295 := rfl
    rw [e1, e2] at h1
    omega
  have hat : ∀ j, j < len → at_ ((zs.take len).map Int.toNat) j = (zs.getD j 0).toNat := fun j hj => by
    have : j < zs.length := by omega
    simp [at_, hj, List.getD_eq_getElem?_getD, List.getElem?_eq_getElem this]
  refine ⟨(zs.take len).map Int.toNat, ⟨by simp; omega, fun j => ?_, fun h0 => ⟨a, rfl, ?_, fun j hj => ?_⟩⟩, by simp; omega⟩
  · by_cases hj : j < len
    · rw [hat j hj]; have := hr j (by omega); omega
    · rw [at_ge (by simp; omega)]; omega
  · have := hc 0 (by simp at h0; omega)
    rw [← addr_add_block a 0]
    exact cell_lt this
  · have hj' : j < len := by simp at hj; omega
    rw [hc j (by omega), hat j hj']
    have := hr j (by omega)
    congr 2
    omega
section
variable {H : Type} {enc : TypeId × Value → H}
set_option maxRecDepth 100000 in
theorem open_limbs {W : World} {n : Nat} {v : Value} {y : DataW H × List MemPlace} (h : DataW.trod enc Tryz.prog W 0 (fun _ => true) true n 25 [v] = some y) :
    ∃ A n c l, v = .slice A n c ∧ Lim W A c l ∧ n = l.length ∧ n ≤ 9223372036854775807 := by
  obtain ⟨xs, m, rfl, _, _, hxl, hall⟩ := DataW.trod_struct Tryz.underlying25 h
  have h0 := hall 0 _ rfl
  have hx : xs[0]? = some (xs[0]'(by rw [hxl]; decide)) := List.getElem?_eq_getElem _
  rw [hx] at h0
  have h1 : DataW.trod enc Tryz.prog W 0 (fun _ => true) true m 23 [v] = some (xs[0]'(by rw [hxl]; decide)) := h0
  rcases open_ints Tryz.underlying23 Tryz.underlying110 (by kernel_rfl) h1 with ⟨h2, _⟩ | ⟨a, len, cap, zs, h2, _, hl, hm, hz, _, hc, hw⟩
  · obtain rfl : v = .slice none 0 0 := by simpa using h2
    exact ⟨none, 0, 0, [], rfl, Lim.nil _ _ _, rfl, by omega⟩
  · obtain rfl : v = .slice (some a) len cap := by simpa using h2
    simp only [if_true] at hz
    obtain ⟨l, hL, hn⟩ := lim_of hl hz hc hw
    unfold maxLen at hm
    exact ⟨some a, len, cap, l, rfl, hL, hn, by omega⟩
end

set_option maxRecDepth 100000 in
theorem tab_of_reads {W : World} {d : DataW Unit} (hd : d = Lib.tabData .u64 Lib.pow10Tab) (h : Lib.VarReads Tryz.prog W "internal/strconv.uint64pow10" d) : Tab W := by
  subst hd
  obtain ⟨g, t, cs, fuel, p, h1, h2, h3, h4⟩ := h
  have hg : Tryz.prog.globalNamed "internal/strconv.uint64pow10" = some 3 := by kernel_rfl
  obtain rfl := Option.some.inj (hg.symm.trans h1)
  have ht : (Tryz.prog.globals[3]?).map (·.type) = some 187 := by kernel_rfl
  obtain rfl := Option.some.inj (ht.symm.trans h2)
  show Lib.TabIs _ _ _ _ _
  unfold Lib.TabIs
  rw [h3, ← Lib.cells_of_tab Tryz.underlying187 Tryz.underlying73 (by kernel_rfl) (by kernel_rfl) h4]
end Go.Proofs.YtajddhkepbnilaaGreatDoor

namespace Go.Proofs.YtajddhkepbnilaaGreatDoor
open Go.Joins Go.ChangeShapes Go.WideShapes Go.ChangeAt Go.WideMaps Go.WideElems Go.RowKit Go.Proofs Go

section
variable {H : Type} {enc : TypeId × Value → H}
set_option maxRecDepth 100000 in
theorem open_frac {W : World} {base : Nat} {v : Value} {d : DataW H} {p : List MemPlace} (hv : Value.okWide Tryz.prog W .any base 27 v) (h : DataW.Trod enc Tryz.prog W 0 (fun _ => true) true 27 v d p) :
    ∃ s A n c B m d', v = .agg #[.bool s, .slice A n c, .slice B m d'] ∧ Arg W s A n c B m d' := by
  obtain ⟨v0, v1, v2, y0, y1, y2, n, rfl, _, _, h0, h1, h2⟩ := open_agg3 Tryz.underlying27 (by kernel_rfl) (by kernel_rfl) hv h
  obtain ⟨s, e0, _⟩ := DataW.trod_bool Tryz.underlying4 h0
  obtain rfl : v0 = .bool s := by simpa using e0
  obtain ⟨A, n1, c1, l, rfl, HA, hn1, hb1⟩ := open_limbs h1
  obtain ⟨B, n2, c2, r, rfl, HB, hn2, hb2⟩ := open_limbs h2
  exact ⟨s, A, n1, c1, B, n2, c2, rfl, ⟨⟨l, r, HA, HB, hn1, hn2⟩, hb1, hb2⟩⟩
end
end Go.Proofs.YtajddhkepbnilaaGreatDoor

namespace Go.Proofs.YtajddhkepbnilaaGreatDoor
open Go Go.Proofs

section
variable {H : Type} {enc : TypeId × Value → H}
theorem handed_and_shaped {a : Assume} {C : Checked} {os : Os} {f : FuncId} {fn : Func} {s : ChangeSpec} {conds : List PathCond} {apart fresh handsOn again : Bool} {X : World → Array Value → Prop}
    (hX : ∀ (w w' : World) (args : Array Value), w.heap = w'.heap → X w args → X w' args)
    (own : ownKnob C.prog.godebug = none) (started : os.Started) (noInit : C.prog.inits.idxOf? f = none) (hfn : C.prog.funcs[f]? = some fn)
    (witness : ∃ (w : World) (tape : Tape) (i : Input), w.os = os ∧ (w.forCall tape i).Shaped C.prog ∧ i.vars = [] ∧ Input.okWide C.prog (w.forCall tape i) .any w.heap.size f i ∧
      ((s.pre enc C.prog fn conds apart (w.forCall tape i).memory i.args ∧ X (w.forCall tape i).memory i.args) ∧ sizedMet enc C.prog fn (OpenSpec.ofChange s) apart (w.forCall tape i).memory i.args) ∧ a.holds C.prog (lone (Frame.enter C.prog f i.args .normal) [] (w.forCall tape i)))
    (contract : ∀ (W : World) (base : Nat) (args : Array Value) (ds gs : List (DataW H)) (before : List MemPlace),
      (∀ (j : Nat) t v, fn.params[j]? = some t → args[j]? = some v → Value.okWide C.prog W .any base t v) →
      DataW.Whole enc C.prog fn.params.toList s.vars apart W args.toList ds gs before → X W args → W.ShapedOpen C.prog →
      Calls C.prog f args W fun e W' => ∃ v, e = .returned v ∧ s.post enc C.prog fn apart fresh handsOn again W args v W') :
    ReturnsInHanded a C os f .any (fun w args => (s.pre enc C.prog fn conds apart w args ∧ X w args) ∧ sizedMet enc C.prog fn (OpenSpec.ofChange s) apart w args) (s.post enc C.prog fn apart fresh handsOn again) := by
  refine returnsInHanded_of_calls own started noInit witness ?_
  intro w tape i _ hsh _ hok hpre _
  obtain ⟨_, _, _, fn', hfn', _, _, _, _, hval⟩ := hok
  obtain rfl : fn' = fn := Option.some.inj (hfn'.symm.trans hfn)
  obtain ⟨⟨⟨ds, gs, before, hw, _⟩, hx⟩, _⟩ := hpre
  refine (contract (w.forCall tape i) w.heap.size i.args ds gs before hval (DataW.Whole.of_heap (w' := w.forCall tape i) (by rfl) hw) (hX _ _ _ (by rfl) hx) hsh).mono fun e W' ⟨v, he, hp⟩ => ?_
  subst he
  exact ChangeSpec.post_blind hp
end
end Go.Proofs.YtajddhkepbnilaaGreatDoor

namespace Go.Proofs.YtajddhkepbnilaaGreatDoor
open Go.Joins Go.ChangeShapes Go.WideShapes Go.ChangeAt Go.WideMaps Go.WideElems Go.RowKit Go.Proofs Go

theorem fractionRounds_door (os : Os) (args : Array Value) : laidMetH Tryz.prog Rows.fractionRoundsRow.laid ((World.laidAll Tryz.prog os Rows.fractionRoundsRow.laid).forCall (fun _ _ => 0) ⟨#[], args, []⟩).memory := by
  rw [MakeChecks.laidMetH_plain _ _ _ (by kernel_rfl)]
  exact laidMet_laidAll _ (by kernel_rfl) (by kernel_rfl)
theorem fractionRounds_tab {W : World} (h : laidMetH Tryz.prog Rows.fractionRoundsRow.laid W) : Tab W := by
  rw [MakeChecks.laidMetH_plain _ _ _ (by kernel_rfl)] at h
  exact tab_of_reads rfl (Lib.laidMet.reads h (.tail _ (.tail _ (.head _))))

set_option maxRecDepth 100000 in
theorem fractionRounds_lifted (os : Os) (started : os.Started) (H : Type) (enc : TypeId × Value → H) :
    ReturnsInHanded {} Tryz.checked os 6 .any (fun w args => (Rows.fractionRoundsSpec.pre enc Tryz.prog Tryz.f6 [] false w args ∧ laidMetH Tryz.prog Rows.fractionRoundsRow.laid w) ∧ sizedMet enc Tryz.prog Tryz.f6 (OpenSpec.ofChange Rows.fractionRoundsSpec) false w args)
      (Rows.fractionRoundsSpec.post enc Tryz.prog Tryz.f6 false true false false) := by
  refine handed_and_shaped (C := Tryz.checked) (X := fun w _ => laidMetH Tryz.prog Rows.fractionRoundsRow.laid w) (fun _ _ _ hh h => h.of_heap hh) own started (by kernel_rfl) Tryz.func6
    (ChangeSpec.witness_shaped (enc := enc) (C := Tryz.checked) (os := os) (X := fun w _ => laidMetH Tryz.prog Rows.fractionRoundsRow.laid w) false (World.laidAll Tryz.prog os Rows.fractionRoundsRow.laid) #[.agg #[.bool false, .slice none 0 0, .slice none 0 0], .int .i64 0] 8 (World.laidAll_os _ _ _) (World.shaped_of_ZipB (by kernel_rfl) (by kernel_rfl)) (by kernel_rfl) (by kernel_rfl) (by kernel_rfl) (fractionRounds_door os _)) ?_
  intro W base args ds gs before hval0 hW hL hsh
  have hval : ∀ (j : Nat) t v, Tryz.f6.params[j]? = some t → args[j]? = some v → Value.okWide Tryz.prog W .any base t v := hval0
  have hW' := hW
  obtain ⟨p, q, hA0, hV, hbef, hfz, hnd⟩ := hW
  have hA : DataW.TrodAll enc Tryz.prog W 0 (fun _ => true) true Tryz.f6.params.toList args.toList ds p := hA0
  obtain ⟨rfl, rfl⟩ := trodVars_none hV
  have hA2 := hA
  have hpp : before = p := by simpa using hbef
  subst hpp
  rw [Tryz.params6] at hA hval
  obtain ⟨v0, v1, d0, d1, p0, p1, rfl, rfl, hps, h0, h1⟩ := trodAll_two hA
  have hT := fractionRounds_tab hL
  have hM := mx_of_shape hsh
  have hfin : ∀ W' : World, Below W.heap.size W W' → Rows.fractionRoundsSpec.post enc Tryz.prog Tryz.f6 false true false false W _ (.bool true) W' := fun W' hb =>
    law_post (s := Rows.fractionRoundsSpec) laidOut (by rw [Tryz.params6]; exact fun t ht => of_decide_eq_true (List.all_eq_true.1 (show ([27, 3].all fun t => decide (Tryz.prog.readableRec t = true ∧ t < Tryz.prog.types.size)) = true by kernel_rfl) t (by simpa using ht))) (by kernel_rfl) Tryz.underlying4 rfl rfl hW' hA2 hb
  clear hA0 hval0
  obtain ⟨s0, A0, n0, c0, B0, m0, e0, rfl, P0⟩ := open_frac (hval 0 _ _ rfl rfl) h0
  obtain ⟨x1, rfl, _, _, w1⟩ := open_int Tryz.underlying3 (hval 1 _ _ rfl rfl) h1
  replace w1 := i64_bd w1
  refine (frounds_any W hT hM w1.1 w1.2 P0).mono fun e W' he => ?_
  obtain ⟨rfl, hb⟩ := he
  exact ⟨_, rfl, hfin W' hb⟩

theorem fractionRounds_row : Rows.FractionRoundsSaid :=
  OpenClaim.holds_of_wide 6 Tryz.f6 rfl rfl rfl rfl rfl rfl rfl ⟨rfl, rfl, rfl, rfl, rfl⟩ rfl rfl rfl rfl rfl (by kernel_rfl) Tryz.func6 (by kernel_rfl)
    (of_decide_eq_true (by kernel_rfl)) (by unfold Func.isWrapper; first | (rw [if_pos (by decide +kernel)]; kernel_rfl) | (rw [if_neg (by decide +kernel)]; exact ⟨rfl, rfl⟩))
    (fun os started H enc _ => fractionRounds_lifted os started H enc)
theorem fractionRounds_holds : Rows.FractionRoundsCardSaid :=
  Claim7.holds_tied_plain_at .later [] [.data, .data, .data, .data, .sentinel, .sentinel, .pinned] true (true, "2189d618782eca09c7c70b47c3758ab4ccac6195e5183eaecbfa92a83726d1bb") true
    fractionRounds_row (fun _ h => by cases h) (by kernel_rfl) (fun _ h => by cases h) fractionRounds_row_tie rfl ⟨rfl, rfl⟩ (by kernel_rfl) rfl
    (fun f fn hf hfn => by
      obtain rfl : f = 6 := Option.some.inj ((show Tryz.prog.funcNamed "coinage/coinagelaw02.FractionRounds" = some 6 by kernel_rfl).symm.trans hf) |>.symm
      obtain rfl : fn = Tryz.f6 := (Option.some.inj (Tryz.func6.symm.trans hfn)).symm
      exact ⟨by kernel_rfl, fun j t ht => by
        rw [Tryz.params6] at ht
        have hm : t ∈ [27, 3] := by simpa using Array.mem_of_getElem? ht
        have hall : ([27, 3].all fun u => !Tryz.prog.wantsStandIn u) = true := by kernel_rfl
        exact (show Tryz.prog.wantsStandIn t = false by simpa using List.all_eq_true.1 hall t hm)⟩)
    (by kernel_rfl)
#print axioms fractionRounds_holds
end Go.Proofs.YtajddhkepbnilaaGreatDoor
