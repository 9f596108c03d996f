/- The statement SimilarityPairs holds: for every input the law returns true, and each argument reads afterwards as it read before. Conditions: those of the row alone (the library's tables as the program's text lays them). -/
import Derived.Test.YthempimelfmipaaGreatDoorSxqM
import Derived.Test.YthempimelfmipaaGreatDoorHcardM
import Derived.Test.YthempimelfmipaaGreatDoorCards
namespace Go.Proofs.YthempimelfmipaaGreatDoor
open Go.Joins Go.ChangeShapes Go.WideShapes Go.ChangeAt Go.WideMaps Go.WideElems Go.RowKit Go.Proofs Go

theorem similarityPairs_door (os : Os) (args : Array Value) : laidMetH Tryz.prog Rows.similarityPairsRow.laid ((World.doorLaid Tryz.prog 400 os).forCall (fun _ _ => 0) ⟨#[], args, []⟩).memory := 
  laidMetH_of_parts3 (fuel := 8) (laidMet_of_run' 8 (by kernel_rfl) (by kernel_rfl)) (by kernel_rfl) (by kernel_rfl)
theorem similarityPairs_tab {W : World} (h : laidMetH Tryz.prog Rows.similarityPairsRow.laid W) : Tab W := by
  rw [MakeChecks.laidMetH_plain _ _ _ (by kernel_rfl)] at h
  exact tab_of_reads rfl (Lib.laidMet.reads h (.tail _ (.tail _ (.head _))))

set_option maxRecDepth 100000 in
theorem similarityPairs_lifted (os : Os) (started : os.Started) (H : Type) (enc : TypeId × Value → H) :
    ReturnsInHanded {} Tryz.checked os 7 .any (fun w args => (Rows.similarityPairsSpec.pre enc Tryz.prog Tryz.f7 [] false w args ∧ laidMetH Tryz.prog Rows.similarityPairsRow.laid w) ∧ sizedMet enc Tryz.prog Tryz.f7 (OpenSpec.ofChange Rows.similarityPairsSpec) false w args)
      (Rows.similarityPairsSpec.post enc Tryz.prog Tryz.f7 false true false false) := by
  refine returnsInHanded_of_change_and (C := Tryz.checked) (X := fun w _ => laidMetH Tryz.prog Rows.similarityPairsRow.laid w) (fun _ _ _ hh h => h.of_heap hh) own started (by kernel_rfl) Tryz.func7
    (ChangeSpec.witness_shaped (enc := enc) (C := Tryz.checked) (os := os) (X := fun w _ => laidMetH Tryz.prog Rows.similarityPairsRow.laid w) false (World.doorLaid Tryz.prog 400 os) #[.agg #[.int .i64 0, .slice none 0 0, .int .i64 0, .int .i64 0], .agg #[.int .i64 0, .slice none 0 0, .int .i64 0, .int .i64 0]] 8 rfl (World.shaped_of_RefB (by kernel_rfl) (by kernel_rfl)) (by kernel_rfl) (by kernel_rfl) (by kernel_rfl) (similarityPairs_door os _)) ?_
  intro W base args ds gs before hval0 hW _ _ hL _
  have hval : ∀ (j : Nat) t v, Tryz.f7.params[j]? = some t → args[j]? = some v → Value.okWide Tryz.prog W .any base t v := hval0
  have hW' := hW
  obtain ⟨p, q, hA0, hV, hbef, hfz, hnd⟩ := hW
  have hA : DataW.TrodAll enc Tryz.prog W 0 (fun _ => true) true Tryz.f7.params.toList args.toList ds p := hA0
  obtain ⟨rfl, rfl⟩ := trodVars_none hV
  have hA2 := hA
  have hpp : before = p := by simpa using hbef
  subst hpp
  rw [Tryz.params7] at hA hval
  obtain ⟨v0, v1, d0, d1, p0, p1, rfl, rfl, hps, h0, h1⟩ := trodAll_two hA
  have hT := similarityPairs_tab hL
  have hfin : ∀ W' : World, Below W.heap.size W W' → Rows.similarityPairsSpec.post enc Tryz.prog Tryz.f7 false true false false W _ (.bool true) W' := fun W' hb =>
    law_post (s := Rows.similarityPairsSpec) laidOut (by rw [Tryz.params7]; exact fun t ht => of_decide_eq_true (List.all_eq_true.1 (show ([26, 26].all fun t => decide (Tryz.prog.readableRec t = true ∧ t < Tryz.prog.types.size)) = true by kernel_rfl) t (by simpa using ht))) (by kernel_rfl) Tryz.underlying4 rfl rfl hW' hA2 hb
  clear hA0 hval0
  obtain ⟨i0, A0, l0, c0, f0, t0, rfl, P0, B0⟩ := open_hoard (hval 0 _ _ rfl rfl) h0
  obtain ⟨i1, A1, l1, c1, f1, t1, rfl, P1, B1⟩ := open_hoard (hval 1 _ _ rfl rfl) h1
  refine (pairs_any W hT P0 B0 P1 B1).mono fun e W' he => ?_
  obtain ⟨rfl, hb⟩ := he
  exact ⟨_, rfl, hfin W' hb⟩

theorem similarityPairs_row : Rows.SimilarityPairsSaid :=
  OpenClaim.holds_of_wide 7 Tryz.f7 rfl rfl rfl rfl rfl rfl rfl ⟨rfl, rfl, rfl, rfl, rfl⟩ rfl rfl rfl rfl rfl (by kernel_rfl) Tryz.func7 (by kernel_rfl)
    (of_decide_eq_true (by kernel_rfl)) (by unfold Func.isWrapper; first | (rw [if_pos (by decide +kernel)]; kernel_rfl) | (rw [if_neg (by decide +kernel)]; exact ⟨rfl, rfl⟩))
    (fun os started H enc _ => similarityPairs_lifted os started H enc)
theorem similarityPairs_holds : Rows.SimilarityPairsCardSaid :=
  Claim7.holds_tied_plain_at .later [] [.data, .data, .data] true (true, "e8a63e75366c56ffc657a11156ed77ef73f811ece2eb758bae933995f4f70aa0") false
    similarityPairs_row (fun _ h => by cases h) (by kernel_rfl) (fun _ h => by cases h) similarityPairs_row_tie rfl ⟨rfl, rfl⟩ (by kernel_rfl) rfl
    (fun f fn hf hfn => by
      obtain rfl : f = 7 := Option.some.inj ((show Tryz.prog.funcNamed "coinage/coinagelaw36.SimilarityPairs" = some 7 by kernel_rfl).symm.trans hf) |>.symm
      obtain rfl : fn = Tryz.f7 := (Option.some.inj (Tryz.func7.symm.trans hfn)).symm
      exact ⟨by kernel_rfl, fun j t ht => by
        rw [Tryz.params7] at ht
        have hm : t ∈ [26, 26] := by simpa using Array.mem_of_getElem? ht
        have hall : ([26, 26].all fun u => !Tryz.prog.wantsStandIn u) = true := by kernel_rfl
        exact (show Tryz.prog.wantsStandIn t = false by simpa using List.all_eq_true.1 hall t hm)⟩)
    (by kernel_rfl)
#print axioms similarityPairs_holds
end Go.Proofs.YthempimelfmipaaGreatDoor
