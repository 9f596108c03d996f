/- The statement NaturalSmalls holds: for every input the law returns true, and each argument reads afterwards as it read before. Conditions: those of the row alone (the library's tables as the program's text lays them). -/
import Derived.Test.YtjacffmoccpogaaDoorNSmalls
import Derived.Test.YtjacffmoccpogaaDoorNCard
import Derived.Test.YtjacffmoccpogaaDoorCards
import Derived.Lay
namespace Go.Proofs.YtjacffmoccpogaaDoor
open Go.Joins Go.ChangeShapes Go.WideShapes Go.ChangeAt Go.WideMaps Go.WideElems Go.RowKit Go.Proofs Go

theorem naturalSmalls_door (os : Os) (args : Array Value) : laidMetH Tryd.prog Rows.naturalSmallsRow.laid ((World.laidAll Tryd.prog os Rows.naturalSmallsRow.laid).forCall (fun _ _ => 0) ⟨#[], args, []⟩).memory := by
  rw [MakeChecks.laidMetH_plain _ _ _ (by kernel_rfl)]
  exact laidMet_laidAll _ (by kernel_rfl) (by kernel_rfl)
theorem naturalSmalls_tab {W : World} (h : laidMetH Tryd.prog Rows.naturalSmallsRow.laid W) : Tab W := by
  rw [MakeChecks.laidMetH_plain _ _ _ (by kernel_rfl)] at h
  exact tab_of_reads rfl (Lib.laidMet.reads h (.tail _ (.tail _ (.head _))))

set_option maxRecDepth 100000 in
theorem naturalSmalls_lifted (os : Os) (started : os.Started) (H : Type) (enc : TypeId × Value → H) :
    ReturnsInHanded {} Tryd.checked os 12 .any (fun w args => (Rows.naturalSmallsSpec.pre enc Tryd.prog Tryd.f12 [] false w args ∧ laidMetH Tryd.prog Rows.naturalSmallsRow.laid w) ∧ sizedMet enc Tryd.prog Tryd.f12 (OpenSpec.ofChange Rows.naturalSmallsSpec) false w args)
      (Rows.naturalSmallsSpec.post enc Tryd.prog Tryd.f12 false true false false) := by
  refine returnsInHanded_of_change_and (C := Tryd.checked) (X := fun w _ => laidMetH Tryd.prog Rows.naturalSmallsRow.laid w) (fun _ _ _ hh h => h.of_heap hh) own started (by kernel_rfl) Tryd.func12
    (ChangeSpec.witness_shaped (enc := enc) (C := Tryd.checked) (os := os) (X := fun w _ => laidMetH Tryd.prog Rows.naturalSmallsRow.laid w) false (World.laidAll Tryd.prog os Rows.naturalSmallsRow.laid) #[.int .u64 0, .int .u64 0] 8 (World.laidAll_os _ _ _) (World.shaped_of_ZipB (by kernel_rfl) (by kernel_rfl)) (by kernel_rfl) (by kernel_rfl) (by kernel_rfl) (naturalSmalls_door os _)) ?_
  intro W base args ds gs before hval0 hW _ _ hL _
  have hval : ∀ (j : Nat) t v, Tryd.f12.params[j]? = some t → args[j]? = some v → Value.okWide Tryd.prog W .any base t v := hval0
  have hW' := hW
  obtain ⟨p, q, hA0, hV, hbef, hfz, hnd⟩ := hW
  have hA : DataW.TrodAll enc Tryd.prog W 0 (fun _ => true) true Tryd.f12.params.toList args.toList ds p := hA0
  obtain ⟨rfl, rfl⟩ := trodVars_none hV
  have hA2 := hA
  have hpp : before = p := by simpa using hbef
  subst hpp
  rw [Tryd.params12] at hA hval
  obtain ⟨v0, v1, d0, d1, p0, p1, rfl, rfl, hps, h0, h1⟩ := trodAll_two hA
  have hT := naturalSmalls_tab hL
  have hfin : ∀ W' : World, Below W.heap.size W W' → Rows.naturalSmallsSpec.post enc Tryd.prog Tryd.f12 false true false false W _ (.bool true) W' := fun W' hb =>
    law_post (s := Rows.naturalSmallsSpec) laidOut (by rw [Tryd.params12]; exact fun t ht => of_decide_eq_true (List.all_eq_true.1 (show ([35, 35].all fun t => decide (Tryd.prog.readableRec t = true ∧ t < Tryd.prog.types.size)) = true by kernel_rfl) t (by simpa using ht))) (by kernel_rfl) Tryd.underlying4 rfl rfl hW' hA2 hb
  clear hA0 hval0
  obtain ⟨x0, rfl, _, _, w0⟩ := open_int Tryd.underlying35 (hval 0 _ _ rfl rfl) h0
  obtain ⟨n0, rfl, b0⟩ := u64_nat w0
  obtain ⟨x1, rfl, _, _, w1⟩ := open_int Tryd.underlying35 (hval 1 _ _ rfl rfl) h1
  obtain ⟨n1, rfl, b1⟩ := u64_nat w1
  refine (nsmalls_any _ _ W hT b0 b1).mono fun e W' he => ?_
  obtain ⟨rfl, hb⟩ := he
  exact ⟨_, rfl, hfin W' hb⟩

theorem naturalSmalls_row : Rows.NaturalSmallsSaid :=
  OpenClaim.holds_of_wide 12 Tryd.f12 rfl rfl rfl rfl rfl rfl rfl ⟨rfl, rfl, rfl, rfl, rfl⟩ rfl rfl rfl rfl rfl (by kernel_rfl) Tryd.func12 (by kernel_rfl)
    (of_decide_eq_true (by kernel_rfl)) (by unfold Func.isWrapper; first | (rw [if_pos (by decide +kernel)]; kernel_rfl) | (rw [if_neg (by decide +kernel)]; exact ⟨rfl, rfl⟩))
    (fun os started H enc _ => naturalSmalls_lifted os started H enc)
theorem naturalSmalls_holds : Rows.NaturalSmallsCardSaid :=
  Claim7.holds_tied_plain_at .later [] [.data, .data, .data, .data, .sentinel, .sentinel, .pinned] true (true, "36a0984eb45fb90564eab1dc4bd947cda073a644e6b221e26c92ba5708e8e0d2") true
    naturalSmalls_row (fun _ h => by cases h) (by kernel_rfl) (fun _ h => by cases h) naturalSmalls_row_tie rfl ⟨rfl, rfl⟩ (by kernel_rfl) rfl
    (fun f fn hf hfn => by
      obtain rfl : f = 12 := Option.some.inj ((show Tryd.prog.funcNamed "coinage/coinagelaw01.NaturalSmalls" = some 12 by kernel_rfl).symm.trans hf) |>.symm
      obtain rfl : fn = Tryd.f12 := (Option.some.inj (Tryd.func12.symm.trans hfn)).symm
      exact ⟨by kernel_rfl, fun j t ht => by
        rw [Tryd.params12] at ht
        have hm : t ∈ [35, 35] := by simpa using Array.mem_of_getElem? ht
        have hall : ([35, 35].all fun u => !Tryd.prog.wantsStandIn u) = true := by kernel_rfl
        exact (show Tryd.prog.wantsStandIn t = false by simpa using List.all_eq_true.1 hall t hm)⟩)
    (by kernel_rfl)
#print axioms naturalSmalls_holds
end Go.Proofs.YtjacffmoccpogaaDoor
