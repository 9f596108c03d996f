/- The statement SimilarityEvents holds: for every input the law returns true, and each argument reads afterwards as it read before. Conditions: those of the row alone (the library's tables as the program's text lays them). -/
import Derived.Test.YthempimelfmipaaGreatDoorSxvM
import Derived.Test.YthempimelfmipaaGreatDoorMcardM
import Derived.Test.YthempimelfmipaaGreatDoorCards
namespace Go.Proofs.YthempimelfmipaaGreatDoor
open Go.Joins Go.ChangeShapes Go.WideShapes Go.ChangeAt Go.WideMaps Go.WideElems Go.RowKit Go.Proofs Go

theorem similarityEvents_door (os : Os) (args : Array Value) : laidMetH Tryz.prog Rows.similarityEventsRow.laid ((World.doorLaid Tryz.prog 400 os).forCall (fun _ _ => 0) ⟨#[], args, []⟩).memory := 
  laidMetH_of_parts3 (fuel := 8) (laidMet_of_run' 8 (by kernel_rfl) (by kernel_rfl)) (by kernel_rfl) (by kernel_rfl)
theorem similarityEvents_tab {W : World} (h : laidMetH Tryz.prog Rows.similarityEventsRow.laid W) : Tab W := by
  rw [MakeChecks.laidMetH_plain _ _ _ (by kernel_rfl)] at h
  exact tab_of_reads rfl (Lib.laidMet.reads h (.tail _ (.tail _ (.head _))))

set_option maxRecDepth 100000 in
theorem similarityEvents_lifted (os : Os) (started : os.Started) (H : Type) (enc : TypeId × Value → H) :
    ReturnsInHanded {} Tryz.checked os 5 .any (fun w args => (Rows.similarityEventsSpec.pre enc Tryz.prog Tryz.f5 [] false w args ∧ laidMetH Tryz.prog Rows.similarityEventsRow.laid w) ∧ sizedMet enc Tryz.prog Tryz.f5 (OpenSpec.ofChange Rows.similarityEventsSpec) false w args)
      (Rows.similarityEventsSpec.post enc Tryz.prog Tryz.f5 false true false false) := by
  refine returnsInHanded_of_change_and (C := Tryz.checked) (X := fun w _ => laidMetH Tryz.prog Rows.similarityEventsRow.laid w) (fun _ _ _ hh h => h.of_heap hh) own started (by kernel_rfl) Tryz.func5
    (ChangeSpec.witness_shaped (enc := enc) (C := Tryz.checked) (os := os) (X := fun w _ => laidMetH Tryz.prog Rows.similarityEventsRow.laid w) false (World.doorLaid Tryz.prog 400 os) #[.slice none 0 0, .slice none 0 0] 8 rfl (World.shaped_of_RefB (by kernel_rfl) (by kernel_rfl)) (by kernel_rfl) (by kernel_rfl) (by kernel_rfl) (similarityEvents_door os _)) ?_
  intro W base args ds gs before hval0 hW _ _ hL _
  have hval : ∀ (j : Nat) t v, Tryz.f5.params[j]? = some t → args[j]? = some v → Value.okWide Tryz.prog W .any base t v := hval0
  have hW' := hW
  obtain ⟨p, q, hA0, hV, hbef, hfz, hnd⟩ := hW
  have hA : DataW.TrodAll enc Tryz.prog W 0 (fun _ => true) true Tryz.f5.params.toList args.toList ds p := hA0
  obtain ⟨rfl, rfl⟩ := trodVars_none hV
  have hA2 := hA
  have hpp : before = p := by simpa using hbef
  subst hpp
  rw [Tryz.params5] at hA hval
  obtain ⟨v0, v1, d0, d1, p0, p1, rfl, rfl, hps, h0, h1⟩ := trodAll_two hA
  have hT := similarityEvents_tab hL
  have hfin : ∀ W' : World, Below W.heap.size W W' → Rows.similarityEventsSpec.post enc Tryz.prog Tryz.f5 false true false false W _ (.bool true) W' := fun W' hb =>
    law_post (s := Rows.similarityEventsSpec) laidOut (by rw [Tryz.params5]; exact fun t ht => of_decide_eq_true (List.all_eq_true.1 (show ([49, 50].all fun t => decide (Tryz.prog.readableRec t = true ∧ t < Tryz.prog.types.size)) = true by kernel_rfl) t (by simpa using ht))) (by kernel_rfl) Tryz.underlying4 rfl rfl hW' hA2 hb
  clear hA0 hval0
  obtain ⟨A0, rs0, c0, rfl, P0, B0⟩ := open_mat (hval 0 _ _ rfl rfl) h0
  obtain ⟨A1, l1, c1, rfl, P1, B1⟩ := open_il (hval 1 _ _ rfl rfl) h1
  refine (eventsS_any W hT P0 B0 P1 B1).mono fun e W' he => ?_
  obtain ⟨rfl, hb⟩ := he
  exact ⟨_, rfl, hfin W' hb⟩

theorem similarityEvents_row : Rows.SimilarityEventsSaid :=
  OpenClaim.holds_of_wide 5 Tryz.f5 rfl rfl rfl rfl rfl rfl rfl ⟨rfl, rfl, rfl, rfl, rfl⟩ rfl rfl rfl rfl rfl (by kernel_rfl) Tryz.func5 (by kernel_rfl)
    (of_decide_eq_true (by kernel_rfl)) (by unfold Func.isWrapper; first | (rw [if_pos (by decide +kernel)]; kernel_rfl) | (rw [if_neg (by decide +kernel)]; exact ⟨rfl, rfl⟩))
    (fun os started H enc _ => similarityEvents_lifted os started H enc)
theorem similarityEvents_holds : Rows.SimilarityEventsCardSaid :=
  Claim7.holds_tied_plain_at .later [] [.data, .data, .data] true (true, "e8a63e75366c56ffc657a11156ed77ef73f811ece2eb758bae933995f4f70aa0") false
    similarityEvents_row (fun _ h => by cases h) (by kernel_rfl) (fun _ h => by cases h) similarityEvents_row_tie rfl ⟨rfl, rfl⟩ (by kernel_rfl) rfl
    (fun f fn hf hfn => by
      obtain rfl : f = 5 := Option.some.inj ((show Tryz.prog.funcNamed "coinage/coinagelaw36.SimilarityEvents" = some 5 by kernel_rfl).symm.trans hf) |>.symm
      obtain rfl : fn = Tryz.f5 := (Option.some.inj (Tryz.func5.symm.trans hfn)).symm
      exact ⟨by kernel_rfl, fun j t ht => by
        rw [Tryz.params5] at ht
        have hm : t ∈ [49, 50] := by simpa using Array.mem_of_getElem? ht
        have hall : ([49, 50].all fun u => !Tryz.prog.wantsStandIn u) = true := by kernel_rfl
        exact (show Tryz.prog.wantsStandIn t = false by simpa using List.all_eq_true.1 hall t hm)⟩)
    (by kernel_rfl)
#print axioms similarityEvents_holds
end Go.Proofs.YthempimelfmipaaGreatDoor
