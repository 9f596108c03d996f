/- The statement QueryTexts holds: for every input the law returns true, and each argument reads afterwards as it read before. Conditions: those of the row alone (the library's tables as the program's text lays them). -/
import Derived.Test.YtolkijelldlmeaaGreatDoorYTxM
import Derived.Test.YtolkijelldlmeaaGreatDoorCardSM
import Derived.Test.YtolkijelldlmeaaGreatDoorCards
import Derived.Lay
namespace Go.Proofs.YtolkijelldlmeaaGreatDoor
open Go.Joins Go.ChangeShapes Go.WideShapes Go.ChangeAt Go.WideMaps Go.WideElems Go.RowKit Go.Proofs Go

theorem queryTexts_door (os : Os) (args : Array Value) : laidMetH Tryz.prog Rows.queryTextsRow.laid ((World.laidAll Tryz.prog os Rows.queryTextsRow.laid).forCall (fun _ _ => 0) ⟨#[], args, []⟩).memory := by
  rw [MakeChecks.laidMetH_plain _ _ _ (by kernel_rfl)]
  exact laidMet_laidAll _ (by kernel_rfl) (by kernel_rfl)
theorem queryTexts_tab {W : World} (h : laidMetH Tryz.prog Rows.queryTextsRow.laid W) : Tab W := by
  rw [MakeChecks.laidMetH_plain _ _ _ (by kernel_rfl)] at h
  exact tab_of_reads rfl (Lib.laidMet.reads h (.tail _ (.tail _ (.head _))))

set_option maxRecDepth 100000 in
theorem queryTexts_lifted (os : Os) (started : os.Started) (H : Type) (enc : TypeId × Value → H) :
    ReturnsInHanded {} Tryz.checked os 5 .any (fun w args => (Rows.queryTextsSpec.pre enc Tryz.prog Tryz.f5 [] false w args ∧ laidMetH Tryz.prog Rows.queryTextsRow.laid w) ∧ sizedMet enc Tryz.prog Tryz.f5 (OpenSpec.ofChange Rows.queryTextsSpec) false w args)
      (Rows.queryTextsSpec.post enc Tryz.prog Tryz.f5 false true false false) := by
  refine handed_and_shaped (C := Tryz.checked) (X := fun w _ => laidMetH Tryz.prog Rows.queryTextsRow.laid w) (fun _ _ _ hh h => h.of_heap hh) own started (by kernel_rfl) Tryz.func5
    (ChangeSpec.witness_shaped (enc := enc) (C := Tryz.checked) (os := os) (X := fun w _ => laidMetH Tryz.prog Rows.queryTextsRow.laid w) false (World.laidAll Tryz.prog os Rows.queryTextsRow.laid) #[.agg #[.int .i64 0, .int .i64 0, .int .i64 0, .int .i64 0, .slice none 0 0]] 8 (World.laidAll_os _ _ _) (World.shaped_of_ZipB (by kernel_rfl) (by kernel_rfl)) (by kernel_rfl) (by kernel_rfl) (by kernel_rfl) (queryTexts_door os _)) ?_
  intro W base args ds gs before hval0 hW hL hsh
  have hval : ∀ (j : Nat) t v, Tryz.f5.params[j]? = some t → args[j]? = some v → Value.okWide Tryz.prog W .any base t v := hval0
  have hW' := hW
  obtain ⟨p, q, hA0, hV, hbef, hfz, hnd⟩ := hW
  have hA : DataW.TrodAll enc Tryz.prog W 0 (fun _ => true) true Tryz.f5.params.toList args.toList ds p := hA0
  obtain ⟨rfl, rfl⟩ := trodVars_none hV
  have hA2 := hA
  have hpp : before = p := by simpa using hbef
  subst hpp
  rw [Tryz.params5] at hA hval
  obtain ⟨v0, d0, rfl, rfl, h0⟩ := trodAll_one hA
  have hT := queryTexts_tab hL
  have hE := env_of hT hsh hL fun h => by
    rw [MakeChecks.laidMetH_plain _ _ _ (by kernel_rfl)] at h
    exact h
  have hfin : ∀ W' : World, Below W.heap.size W W' → Rows.queryTextsSpec.post enc Tryz.prog Tryz.f5 false true false false W _ (.bool true) W' := fun W' hb =>
    law_post (s := Rows.queryTextsSpec) laidOut (by rw [Tryz.params5]; exact fun t ht => of_decide_eq_true (List.all_eq_true.1 (show ([55].all fun t => decide (Tryz.prog.readableRec t = true ∧ t < Tryz.prog.types.size)) = true by kernel_rfl) t (by simpa using ht))) (by kernel_rfl) Tryz.underlying4 rfl rfl hW' hA2 hb
  clear hA0 hval0
  obtain ⟨t0, rfl, P0⟩ := open_trm (hval 0 _ _ rfl rfl) h0
  refine (texts_any t0 W hE P0).mono fun e W' he => ?_
  obtain ⟨rfl, hb⟩ := he
  exact ⟨_, rfl, hfin W' hb⟩

set_option maxHeartbeats 40000000 in
set_option maxRecDepth 100000 in
theorem queryTexts_closed : joinedFacts Tryz.prog 5 Tryz.f5 Rows.queryTextsSpec Rows.queryTextsRow = true := by
  unfold joinedFacts
  simp only [Bool.and_eq_true]
  repeat' apply And.intro
  all_goals as_aux_lemma => kernel_rfl
set_option maxHeartbeats 40000000 in
theorem queryTexts_row : Rows.QueryTextsSaid :=
  OpenClaim.holds_of_wide 5 Tryz.f5 rfl rfl rfl rfl rfl rfl rfl ⟨rfl, rfl, rfl, rfl, rfl⟩ rfl rfl rfl rfl rfl (by as_aux_lemma => kernel_rfl) Tryz.func5 queryTexts_closed
    (of_decide_eq_true (by as_aux_lemma => kernel_rfl)) (by unfold Func.isWrapper; first | (rw [if_pos (by decide +kernel)]; kernel_rfl) | (rw [if_neg (by decide +kernel)]; exact ⟨rfl, rfl⟩))
    (fun os started H enc _ => queryTexts_lifted os started H enc)
set_option maxHeartbeats 40000000 in
theorem queryTexts_holds : Rows.QueryTextsCardSaid :=
  Claim7.holds_tied_plain_at .later [] [.data, .data, .data, .sentinel, .sentinel] true (true, "fb79bc7895108874f1bb19cd57c7023846e31105b3180b67d67af4be8b6ee529") true
    queryTexts_row (fun _ h => by cases h) (by as_aux_lemma => kernel_rfl) (fun _ h => by cases h) queryTexts_row_tie rfl ⟨rfl, rfl⟩ (by as_aux_lemma => kernel_rfl) rfl
    (fun f fn hf hfn => by
      obtain rfl : f = 5 := Option.some.inj ((show Tryz.prog.funcNamed "coinage/coinagelaw50.QueryTexts" = some 5 by as_aux_lemma => kernel_rfl).symm.trans hf) |>.symm
      obtain rfl : fn = Tryz.f5 := (Option.some.inj (Tryz.func5.symm.trans hfn)).symm
      exact ⟨by as_aux_lemma => kernel_rfl, fun j t ht => by
        rw [Tryz.params5] at ht
        have hm : t ∈ [55] := by simpa using Array.mem_of_getElem? ht
        have hall : ([55].all fun u => !Tryz.prog.wantsStandIn u) = true := by as_aux_lemma => kernel_rfl
        exact (show Tryz.prog.wantsStandIn t = false by simpa using List.all_eq_true.1 hall t hm)⟩)
    (by as_aux_lemma => kernel_rfl)
#print axioms queryTexts_holds
end Go.Proofs.YtolkijelldlmeaaGreatDoor
