/- The statement LabelShort holds: for every input the law returns true, and each argument reads afterwards as it read before. Conditions: those of the row alone (the library's tables as the program's text lays them). -/
import Derived.Test.YtlnajhochpbgpaaDoorLb13
import Derived.Test.YtlnajhochpbgpaaDoorLcard
import Derived.Test.YtlnajhochpbgpaaDoorCardS
import Derived.Test.YtlnajhochpbgpaaDoorCards
import Derived.Lay
namespace Go.Proofs.YtlnajhochpbgpaaDoor
open Go.Joins Go.ChangeShapes Go.WideShapes Go.ChangeAt Go.WideMaps Go.WideElems Go.RowKit Go.Proofs Go

theorem labelShort_door (os : Os) (args : Array Value) : laidMetH Tryd.prog Rows.labelShortRow.laid ((World.laidAll Tryd.prog os Rows.labelShortRow.laid).forCall (fun _ _ => 0) ⟨#[], args, []⟩).memory := by
  rw [MakeChecks.laidMetH_plain _ _ _ (by kernel_rfl)]
  exact laidMet_laidAll _ (by kernel_rfl) (by kernel_rfl)
theorem labelShort_tab {W : World} (h : laidMetH Tryd.prog Rows.labelShortRow.laid W) : Tab W := by
  rw [MakeChecks.laidMetH_plain _ _ _ (by kernel_rfl)] at h
  exact tab_of_reads rfl (Lib.laidMet.reads h (.tail _ (.tail _ (.head _))))

set_option maxRecDepth 100000 in
theorem labelShort_lifted (os : Os) (started : os.Started) (H : Type) (enc : TypeId × Value → H) :
    ReturnsInHanded {} Tryd.checked os 9 .any (fun w args => (Rows.labelShortSpec.pre enc Tryd.prog Tryd.f9 [] false w args ∧ laidMetH Tryd.prog Rows.labelShortRow.laid w) ∧ sizedMet enc Tryd.prog Tryd.f9 (OpenSpec.ofChange Rows.labelShortSpec) false w args)
      (Rows.labelShortSpec.post enc Tryd.prog Tryd.f9 false true false false) := by
  refine handed_and_shaped (C := Tryd.checked) (X := fun w _ => laidMetH Tryd.prog Rows.labelShortRow.laid w) (fun _ _ _ hh h => h.of_heap hh) own started (by kernel_rfl) Tryd.func9
    (ChangeSpec.witness_shaped (enc := enc) (C := Tryd.checked) (os := os) (X := fun w _ => laidMetH Tryd.prog Rows.labelShortRow.laid w) false (World.laidAll Tryd.prog os Rows.labelShortRow.laid) #[.int .u16 0, .int .u8 0, .int .u8 0] 8 (World.laidAll_os _ _ _) (World.shaped_of_ZipB (by kernel_rfl) (by kernel_rfl)) (by kernel_rfl) (by kernel_rfl) (by kernel_rfl) (labelShort_door os _)) ?_
  intro W base args ds gs before hval0 hW hL hsh
  have hval : ∀ (j : Nat) t v, Tryd.f9.params[j]? = some t → args[j]? = some v → Value.okWide Tryd.prog W .any base t v := hval0
  have hW' := hW
  obtain ⟨p, q, hA0, hV, hbef, hfz, hnd⟩ := hW
  have hA : DataW.TrodAll enc Tryd.prog W 0 (fun _ => true) true Tryd.f9.params.toList args.toList ds p := hA0
  obtain ⟨rfl, rfl⟩ := trodVars_none hV
  have hA2 := hA
  have hpp : before = p := by simpa using hbef
  subst hpp
  rw [Tryd.params9] at hA hval
  obtain ⟨v0, v1, v2, d0, d1, d2, p0, p1, p2, rfl, rfl, hps, h0, h1, h2⟩ := trodAll_three hA
  have hT := labelShort_tab hL
  have hE := env_of hT hsh hL fun h => by
    rw [MakeChecks.laidMetH_plain _ _ _ (by kernel_rfl)] at h
    exact h
  have hfin : ∀ W' : World, Below W.heap.size W W' → Rows.labelShortSpec.post enc Tryd.prog Tryd.f9 false true false false W _ (.bool true) W' := fun W' hb =>
    law_post (s := Rows.labelShortSpec) laidOut (by rw [Tryd.params9]; exact fun t ht => of_decide_eq_true (List.all_eq_true.1 (show ([41, 5, 5].all fun t => decide (Tryd.prog.readableRec t = true ∧ t < Tryd.prog.types.size)) = true by kernel_rfl) t (by simpa using ht))) (by kernel_rfl) Tryd.underlying4 rfl rfl hW' hA2 hb
  clear hA0 hval0
  obtain ⟨x0, rfl, _, _, w0⟩ := open_int Tryd.underlying41 (hval 0 _ _ rfl rfl) h0
  replace w0 := u16_bd w0
  obtain ⟨x1, rfl, _, _, w1⟩ := open_int Tryd.underlying5 (hval 1 _ _ rfl rfl) h1
  replace w1 := u8_bd w1
  obtain ⟨x2, rfl, _, _, w2⟩ := open_int Tryd.underlying5 (hval 2 _ _ rfl rfl) h2
  replace w2 := u8_bd w2
  refine (lshort_any W hE w0.1 w0.2 w1.1 w1.2 w2.1 w2.2).mono fun e W' he => ?_
  obtain ⟨rfl, hb⟩ := he
  exact ⟨_, rfl, hfin W' hb⟩

theorem labelShort_row : Rows.LabelShortSaid :=
  OpenClaim.holds_of_wide 9 Tryd.f9 rfl rfl rfl rfl rfl rfl rfl ⟨rfl, rfl, rfl, rfl, rfl⟩ rfl rfl rfl rfl rfl (by kernel_rfl) Tryd.func9 (by kernel_rfl)
    (of_decide_eq_true (by kernel_rfl)) (by unfold Func.isWrapper; first | (rw [if_pos (by decide +kernel)]; kernel_rfl) | (rw [if_neg (by decide +kernel)]; exact ⟨rfl, rfl⟩))
    (fun os started H enc _ => labelShort_lifted os started H enc)
theorem labelShort_holds : Rows.LabelShortCardSaid :=
  Claim7.holds_tied_plain_at .later [] [.data, .data, .data, .data, .sentinel, .sentinel, .pinned] true (true, "94fc3692b66d66530cad91dd9a908315f52bbbe04b3f5e4d22a574ccfbe5d98a") true
    labelShort_row (fun _ h => by cases h) (by kernel_rfl) (fun _ h => by cases h) labelShort_row_tie rfl ⟨rfl, rfl⟩ (by kernel_rfl) rfl
    (fun f fn hf hfn => by
      obtain rfl : f = 9 := Option.some.inj ((show Tryd.prog.funcNamed "coinage/coinagelaw05.LabelShort" = some 9 by kernel_rfl).symm.trans hf) |>.symm
      obtain rfl : fn = Tryd.f9 := (Option.some.inj (Tryd.func9.symm.trans hfn)).symm
      exact ⟨by kernel_rfl, fun j t ht => by
        rw [Tryd.params9] at ht
        have hm : t ∈ [41, 5, 5] := by simpa using Array.mem_of_getElem? ht
        have hall : ([41, 5, 5].all fun u => !Tryd.prog.wantsStandIn u) = true := by kernel_rfl
        exact (show Tryd.prog.wantsStandIn t = false by simpa using List.all_eq_true.1 hall t hm)⟩)
    (by kernel_rfl)
#print axioms labelShort_holds
end Go.Proofs.YtlnajhochpbgpaaDoor
