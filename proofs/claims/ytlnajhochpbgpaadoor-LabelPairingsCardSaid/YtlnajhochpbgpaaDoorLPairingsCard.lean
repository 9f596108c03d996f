/- The statement LabelPairings holds: for every input the law returns true, and each argument reads afterwards as it read before. Conditions: those of the row alone (the library's tables as the program's text lays them). -/
import Derived.Test.YtlnajhochpbgpaaDoorLb12
import Derived.Test.YtlnajhochpbgpaaDoorLcard
import Derived.Test.YtlnajhochpbgpaaDoorCardS
import Derived.Test.YtlnajhochpbgpaaDoorCards
import Derived.Lay
namespace Go.Proofs.YtlnajhochpbgpaaDoor
open Go.Joins Go.ChangeShapes Go.WideShapes Go.ChangeAt Go.WideMaps Go.WideElems Go.RowKit Go.Proofs Go

theorem labelPairings_door (os : Os) (args : Array Value) : laidMetH Tryd.prog Rows.labelPairingsRow.laid ((World.laidAll Tryd.prog os Rows.labelPairingsRow.laid).forCall (fun _ _ => 0) ⟨#[], args, []⟩).memory := by
  rw [MakeChecks.laidMetH_plain _ _ _ (by kernel_rfl)]
  exact laidMet_laidAll _ (by kernel_rfl) (by kernel_rfl)
theorem labelPairings_tab {W : World} (h : laidMetH Tryd.prog Rows.labelPairingsRow.laid W) : Tab W := by
  rw [MakeChecks.laidMetH_plain _ _ _ (by kernel_rfl)] at h
  exact tab_of_reads rfl (Lib.laidMet.reads h (.tail _ (.tail _ (.head _))))

set_option maxRecDepth 100000 in
theorem labelPairings_lifted (os : Os) (started : os.Started) (H : Type) (enc : TypeId × Value → H) :
    ReturnsInHanded {} Tryd.checked os 10 .any (fun w args => (Rows.labelPairingsSpec.pre enc Tryd.prog Tryd.f10 [] false w args ∧ laidMetH Tryd.prog Rows.labelPairingsRow.laid w) ∧ sizedMet enc Tryd.prog Tryd.f10 (OpenSpec.ofChange Rows.labelPairingsSpec) false w args)
      (Rows.labelPairingsSpec.post enc Tryd.prog Tryd.f10 false true false false) := by
  refine handed_and_shaped (C := Tryd.checked) (X := fun w _ => laidMetH Tryd.prog Rows.labelPairingsRow.laid w) (fun _ _ _ hh h => h.of_heap hh) own started (by kernel_rfl) Tryd.func10
    (ChangeSpec.witness_shaped (enc := enc) (C := Tryd.checked) (os := os) (X := fun w _ => laidMetH Tryd.prog Rows.labelPairingsRow.laid w) false (World.laidAll Tryd.prog os Rows.labelPairingsRow.laid) #[.agg #[.int .i64 0, .int .i64 0, .int .i64 0], .agg #[.int .i64 0, .int .i64 0, .int .i64 0], .string ⟨#[]⟩] 8 (World.laidAll_os _ _ _) (World.shaped_of_ZipB (by kernel_rfl) (by kernel_rfl)) (by kernel_rfl) (by kernel_rfl) (by kernel_rfl) (labelPairings_door os _)) ?_
  intro W base args ds gs before hval0 hW hL hsh
  have hval : ∀ (j : Nat) t v, Tryd.f10.params[j]? = some t → args[j]? = some v → Value.okWide Tryd.prog W .any base t v := hval0
  have hW' := hW
  obtain ⟨p, q, hA0, hV, hbef, hfz, hnd⟩ := hW
  have hA : DataW.TrodAll enc Tryd.prog W 0 (fun _ => true) true Tryd.f10.params.toList args.toList ds p := hA0
  obtain ⟨rfl, rfl⟩ := trodVars_none hV
  have hA2 := hA
  have hpp : before = p := by simpa using hbef
  subst hpp
  rw [Tryd.params10] at hA hval
  obtain ⟨v0, v1, v2, d0, d1, d2, p0, p1, p2, rfl, rfl, hps, h0, h1, h2⟩ := trodAll_three hA
  have hT := labelPairings_tab hL
  have hE := env_of hT hsh hL fun h => by
    rw [MakeChecks.laidMetH_plain _ _ _ (by kernel_rfl)] at h
    exact h
  have hfin : ∀ W' : World, Below W.heap.size W W' → Rows.labelPairingsSpec.post enc Tryd.prog Tryd.f10 false true false false W _ (.bool true) W' := fun W' hb =>
    law_post (s := Rows.labelPairingsSpec) laidOut (by rw [Tryd.params10]; exact fun t ht => of_decide_eq_true (List.all_eq_true.1 (show ([23, 23, 9].all fun t => decide (Tryd.prog.readableRec t = true ∧ t < Tryd.prog.types.size)) = true by kernel_rfl) t (by simpa using ht))) (by kernel_rfl) Tryd.underlying4 rfl rfl hW' hA2 hb
  clear hA0 hval0
  obtain ⟨a0, b0, c0, rfl⟩ := open_label (hval 0 _ _ rfl rfl) h0
  obtain ⟨a1, b1, c1, rfl⟩ := open_label (hval 1 _ _ rfl rfl) h1
  obtain ⟨s2, rfl, _, _, w2⟩ := Go.ChangeMaps.open_string Tryd.underlying9 (hval 2 _ _ rfl rfl) h2
  obtain ⟨L2, rfl⟩ : ∃ L, s2 = str L := ⟨s2.data.toList, by simp [str]⟩
  replace w2 : L2.length ≤ 9223372036854775807 := by rw [str_size] at w2; exact w2
  refine (lpairS_any W hE w2).mono fun e W' he => ?_
  obtain ⟨rfl, hb⟩ := he
  exact ⟨_, rfl, hfin W' hb⟩

theorem labelPairings_row : Rows.LabelPairingsSaid :=
  OpenClaim.holds_of_wide 10 Tryd.f10 rfl rfl rfl rfl rfl rfl rfl ⟨rfl, rfl, rfl, rfl, rfl⟩ rfl rfl rfl rfl rfl (by kernel_rfl) Tryd.func10 (by kernel_rfl)
    (of_decide_eq_true (by kernel_rfl)) (by unfold Func.isWrapper; first | (rw [if_pos (by decide +kernel)]; kernel_rfl) | (rw [if_neg (by decide +kernel)]; exact ⟨rfl, rfl⟩))
    (fun os started H enc _ => labelPairings_lifted os started H enc)
theorem labelPairings_holds : Rows.LabelPairingsCardSaid :=
  Claim7.holds_tied_plain_at .later [] [.data, .data, .data, .data, .sentinel, .sentinel, .pinned] true (true, "94fc3692b66d66530cad91dd9a908315f52bbbe04b3f5e4d22a574ccfbe5d98a") true
    labelPairings_row (fun _ h => by cases h) (by kernel_rfl) (fun _ h => by cases h) labelPairings_row_tie rfl ⟨rfl, rfl⟩ (by kernel_rfl) rfl
    (fun f fn hf hfn => by
      obtain rfl : f = 10 := Option.some.inj ((show Tryd.prog.funcNamed "coinage/coinagelaw05.LabelPairings" = some 10 by kernel_rfl).symm.trans hf) |>.symm
      obtain rfl : fn = Tryd.f10 := (Option.some.inj (Tryd.func10.symm.trans hfn)).symm
      exact ⟨by kernel_rfl, fun j t ht => by
        rw [Tryd.params10] at ht
        have hm : t ∈ [23, 23, 9] := by simpa using Array.mem_of_getElem? ht
        have hall : ([23, 23, 9].all fun u => !Tryd.prog.wantsStandIn u) = true := by kernel_rfl
        exact (show Tryd.prog.wantsStandIn t = false by simpa using List.all_eq_true.1 hall t hm)⟩)
    (by kernel_rfl)
#print axioms labelPairings_holds
end Go.Proofs.YtlnajhochpbgpaaDoor
