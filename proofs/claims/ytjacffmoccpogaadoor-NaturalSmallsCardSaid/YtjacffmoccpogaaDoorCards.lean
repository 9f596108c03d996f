/-
  DERIVED. GIVEN WITH THE SEED: THE CARDS: each row of YtjacffmoccpogaaDoorRows.lean that lists a variable, with what it lists TIED to the program's text (the seventh form; the later family's looks); each row that meets fmt, with fmt's text TOLD by the authors' own Lean function (tested against real Go, not proved from fmt's source: count such statements apart). THE CARD IS WHAT COUNTS. Prove the row's statement (the work); the ties are given (YtjacffmoccpogaaDoorTie.lean); close each card by the builder's one call (the guide's Derived/Test/ToyasCard.lean, 'card_holds'). Laid BY PROGRAM, IN A SANDBOX (cutbox-door.mjs). By AI agents, Wed Nov 11 2026. No macro, syntax, notation, axiom, sorry.
-/
import Derived.Test.YtjacffmoccpogaaDoorRows
import GoSem.ClaimSeven
namespace Go.Proofs.YtjacffmoccpogaaDoor
namespace Rows

/-- THE TIED CARD OF 'coinagelaw01.NaturalTexts'. -/
def naturalTextsCard : Claim7 := { stood := { row := naturalTextsRow, standIns := [], harness := (true, "36a0984eb45fb90564eab1dc4bd947cda073a644e6b221e26c92ba5708e8e0d2"), looks := true }, kinds := [], alts := [], laidByText := true, laidKinds := [.data, .data, .data, .data, .sentinel, .sentinel, .pinned], laidTests := true, laidLooks := .later }
def NaturalTextsCardSaid : Prop := Claim7.holds Tryd.pinned (.plain (OpenSpec.ofChange naturalTextsSpec)) naturalTextsCard

/-- THE TIED CARD OF 'coinagelaw01.NaturalParses'. -/
def naturalParsesCard : Claim7 := { stood := { row := naturalParsesRow, standIns := [], harness := (true, "36a0984eb45fb90564eab1dc4bd947cda073a644e6b221e26c92ba5708e8e0d2"), looks := true }, kinds := [], alts := [], laidByText := true, laidKinds := [.data, .data, .data, .data, .sentinel, .sentinel, .pinned], laidTests := true, laidLooks := .later }
def NaturalParsesCardSaid : Prop := Claim7.holds Tryd.pinned (.plain (OpenSpec.ofChange naturalParsesSpec)) naturalParsesCard

/-- THE TIED CARD OF 'coinagelaw01.NaturalLarges'. -/
def naturalLargesCard : Claim7 := { stood := { row := naturalLargesRow, standIns := [], harness := (true, "36a0984eb45fb90564eab1dc4bd947cda073a644e6b221e26c92ba5708e8e0d2"), looks := true }, kinds := [], alts := [], laidByText := true, laidKinds := [.data, .data, .data, .data, .sentinel, .sentinel, .pinned], laidTests := true, laidLooks := .later }
def NaturalLargesCardSaid : Prop := Claim7.holds Tryd.pinned (.plain (OpenSpec.ofChange naturalLargesSpec)) naturalLargesCard

/-- THE TIED CARD OF 'coinagelaw01.NaturalGcds'. -/
def naturalGcdsCard : Claim7 := { stood := { row := naturalGcdsRow, standIns := [], harness := (true, "36a0984eb45fb90564eab1dc4bd947cda073a644e6b221e26c92ba5708e8e0d2"), looks := true }, kinds := [], alts := [], laidByText := true, laidKinds := [.data, .data, .data, .data, .sentinel, .sentinel, .pinned], laidTests := true, laidLooks := .later }
def NaturalGcdsCardSaid : Prop := Claim7.holds Tryd.pinned (.plain (OpenSpec.ofChange naturalGcdsSpec)) naturalGcdsCard

/-- THE TIED CARD OF 'coinagelaw01.NaturalPowers'. -/
def naturalPowersCard : Claim7 := { stood := { row := naturalPowersRow, standIns := [], harness := (true, "36a0984eb45fb90564eab1dc4bd947cda073a644e6b221e26c92ba5708e8e0d2"), looks := true }, kinds := [], alts := [], laidByText := true, laidKinds := [.data, .data, .data, .data, .sentinel, .sentinel, .pinned], laidTests := true, laidLooks := .later }
def NaturalPowersCardSaid : Prop := Claim7.holds Tryd.pinned (.plain (OpenSpec.ofChange naturalPowersSpec)) naturalPowersCard

/-- THE TIED CARD OF 'coinagelaw01.NaturalSubtracts'. -/
def naturalSubtractsCard : Claim7 := { stood := { row := naturalSubtractsRow, standIns := [], harness := (true, "36a0984eb45fb90564eab1dc4bd947cda073a644e6b221e26c92ba5708e8e0d2"), looks := true }, kinds := [], alts := [], laidByText := true, laidKinds := [.data, .data, .data, .data, .sentinel, .sentinel, .pinned], laidTests := true, laidLooks := .later }
def NaturalSubtractsCardSaid : Prop := Claim7.holds Tryd.pinned (.plain (OpenSpec.ofChange naturalSubtractsSpec)) naturalSubtractsCard

/-- THE TIED CARD OF 'coinagelaw01.NaturalRing'. -/
def naturalRingCard : Claim7 := { stood := { row := naturalRingRow, standIns := [], harness := (true, "36a0984eb45fb90564eab1dc4bd947cda073a644e6b221e26c92ba5708e8e0d2"), looks := true }, kinds := [], alts := [], laidByText := true, laidKinds := [.data, .data, .data, .data, .sentinel, .sentinel, .pinned], laidTests := true, laidLooks := .later }
def NaturalRingCardSaid : Prop := Claim7.holds Tryd.pinned (.plain (OpenSpec.ofChange naturalRingSpec)) naturalRingCard

/-- THE TIED CARD OF 'coinagelaw01.NaturalMatchesReference'. -/
def naturalMatchesReferenceCard : Claim7 := { stood := { row := naturalMatchesReferenceRow, standIns := [], harness := (true, "36a0984eb45fb90564eab1dc4bd947cda073a644e6b221e26c92ba5708e8e0d2"), looks := true }, kinds := [], alts := [], laidByText := true, laidKinds := [.data, .data, .data, .data, .sentinel, .sentinel, .pinned], laidTests := true, laidLooks := .later }
def NaturalMatchesReferenceCardSaid : Prop := Claim7.holds Tryd.pinned (.plain (OpenSpec.ofChange naturalMatchesReferenceSpec)) naturalMatchesReferenceCard

/-- THE TIED CARD OF 'coinagelaw01.NaturalDivides'. -/
def naturalDividesCard : Claim7 := { stood := { row := naturalDividesRow, standIns := [], harness := (true, "36a0984eb45fb90564eab1dc4bd947cda073a644e6b221e26c92ba5708e8e0d2"), looks := true }, kinds := [], alts := [], laidByText := true, laidKinds := [.data, .data, .data, .data, .sentinel, .sentinel, .pinned], laidTests := true, laidLooks := .later }
def NaturalDividesCardSaid : Prop := Claim7.holds Tryd.pinned (.plain (OpenSpec.ofChange naturalDividesSpec)) naturalDividesCard

/-- THE TIED CARD OF 'coinagelaw01.NaturalSmalls'. -/
def naturalSmallsCard : Claim7 := { stood := { row := naturalSmallsRow, standIns := [], harness := (true, "36a0984eb45fb90564eab1dc4bd947cda073a644e6b221e26c92ba5708e8e0d2"), looks := true }, kinds := [], alts := [], laidByText := true, laidKinds := [.data, .data, .data, .data, .sentinel, .sentinel, .pinned], laidTests := true, laidLooks := .later }
def NaturalSmallsCardSaid : Prop := Claim7.holds Tryd.pinned (.plain (OpenSpec.ofChange naturalSmallsSpec)) naturalSmallsCard

/-- THE SECOND FORM's CARD OF 'coinagelaw01.NaturalTexts'. -/
def naturalTextsUptoCard : Claim7 := { stood := { row := naturalTextsUptoRow, standIns := [], harness := (true, "36a0984eb45fb90564eab1dc4bd947cda073a644e6b221e26c92ba5708e8e0d2"), looks := true }, kinds := [], alts := [], laidByText := true, laidKinds := [.data, .data, .data, .data, .sentinel, .sentinel, .pinned], laidTests := true, laidLooks := .later }
def NaturalTextsUptoCardSaid : Prop := Claim7.holds Tryd.pinned (.plain (OpenSpec.upto naturalTextsSpec)) naturalTextsUptoCard

/-- THE SECOND FORM's CARD OF 'coinagelaw01.NaturalParses'. -/
def naturalParsesUptoCard : Claim7 := { stood := { row := naturalParsesUptoRow, standIns := [], harness := (true, "36a0984eb45fb90564eab1dc4bd947cda073a644e6b221e26c92ba5708e8e0d2"), looks := true }, kinds := [], alts := [], laidByText := true, laidKinds := [.data, .data, .data, .data, .sentinel, .sentinel, .pinned], laidTests := true, laidLooks := .later }
def NaturalParsesUptoCardSaid : Prop := Claim7.holds Tryd.pinned (.plain (OpenSpec.upto naturalParsesSpec)) naturalParsesUptoCard

/-- THE SECOND FORM's CARD OF 'coinagelaw01.NaturalLarges'. -/
def naturalLargesUptoCard : Claim7 := { stood := { row := naturalLargesUptoRow, standIns := [], harness := (true, "36a0984eb45fb90564eab1dc4bd947cda073a644e6b221e26c92ba5708e8e0d2"), looks := true }, kinds := [], alts := [], laidByText := true, laidKinds := [.data, .data, .data, .data, .sentinel, .sentinel, .pinned], laidTests := true, laidLooks := .later }
def NaturalLargesUptoCardSaid : Prop := Claim7.holds Tryd.pinned (.plain (OpenSpec.upto naturalLargesSpec)) naturalLargesUptoCard

/-- THE SECOND FORM's CARD OF 'coinagelaw01.NaturalGcds'. -/
def naturalGcdsUptoCard : Claim7 := { stood := { row := naturalGcdsUptoRow, standIns := [], harness := (true, "36a0984eb45fb90564eab1dc4bd947cda073a644e6b221e26c92ba5708e8e0d2"), looks := true }, kinds := [], alts := [], laidByText := true, laidKinds := [.data, .data, .data, .data, .sentinel, .sentinel, .pinned], laidTests := true, laidLooks := .later }
def NaturalGcdsUptoCardSaid : Prop := Claim7.holds Tryd.pinned (.plain (OpenSpec.upto naturalGcdsSpec)) naturalGcdsUptoCard

/-- THE SECOND FORM's CARD OF 'coinagelaw01.NaturalPowers'. -/
def naturalPowersUptoCard : Claim7 := { stood := { row := naturalPowersUptoRow, standIns := [], harness := (true, "36a0984eb45fb90564eab1dc4bd947cda073a644e6b221e26c92ba5708e8e0d2"), looks := true }, kinds := [], alts := [], laidByText := true, laidKinds := [.data, .data, .data, .data, .sentinel, .sentinel, .pinned], laidTests := true, laidLooks := .later }
def NaturalPowersUptoCardSaid : Prop := Claim7.holds Tryd.pinned (.plain (OpenSpec.upto naturalPowersSpec)) naturalPowersUptoCard

/-- THE SECOND FORM's CARD OF 'coinagelaw01.NaturalSubtracts'. -/
def naturalSubtractsUptoCard : Claim7 := { stood := { row := naturalSubtractsUptoRow, standIns := [], harness := (true, "36a0984eb45fb90564eab1dc4bd947cda073a644e6b221e26c92ba5708e8e0d2"), looks := true }, kinds := [], alts := [], laidByText := true, laidKinds := [.data, .data, .data, .data, .sentinel, .sentinel, .pinned], laidTests := true, laidLooks := .later }
def NaturalSubtractsUptoCardSaid : Prop := Claim7.holds Tryd.pinned (.plain (OpenSpec.upto naturalSubtractsSpec)) naturalSubtractsUptoCard

/-- THE SECOND FORM's CARD OF 'coinagelaw01.NaturalRing'. -/
def naturalRingUptoCard : Claim7 := { stood := { row := naturalRingUptoRow, standIns := [], harness := (true, "36a0984eb45fb90564eab1dc4bd947cda073a644e6b221e26c92ba5708e8e0d2"), looks := true }, kinds := [], alts := [], laidByText := true, laidKinds := [.data, .data, .data, .data, .sentinel, .sentinel, .pinned], laidTests := true, laidLooks := .later }
def NaturalRingUptoCardSaid : Prop := Claim7.holds Tryd.pinned (.plain (OpenSpec.upto naturalRingSpec)) naturalRingUptoCard

/-- THE SECOND FORM's CARD OF 'coinagelaw01.NaturalMatchesReference'. -/
def naturalMatchesReferenceUptoCard : Claim7 := { stood := { row := naturalMatchesReferenceUptoRow, standIns := [], harness := (true, "36a0984eb45fb90564eab1dc4bd947cda073a644e6b221e26c92ba5708e8e0d2"), looks := true }, kinds := [], alts := [], laidByText := true, laidKinds := [.data, .data, .data, .data, .sentinel, .sentinel, .pinned], laidTests := true, laidLooks := .later }
def NaturalMatchesReferenceUptoCardSaid : Prop := Claim7.holds Tryd.pinned (.plain (OpenSpec.upto naturalMatchesReferenceSpec)) naturalMatchesReferenceUptoCard

/-- THE SECOND FORM's CARD OF 'coinagelaw01.NaturalDivides'. -/
def naturalDividesUptoCard : Claim7 := { stood := { row := naturalDividesUptoRow, standIns := [], harness := (true, "36a0984eb45fb90564eab1dc4bd947cda073a644e6b221e26c92ba5708e8e0d2"), looks := true }, kinds := [], alts := [], laidByText := true, laidKinds := [.data, .data, .data, .data, .sentinel, .sentinel, .pinned], laidTests := true, laidLooks := .later }
def NaturalDividesUptoCardSaid : Prop := Claim7.holds Tryd.pinned (.plain (OpenSpec.upto naturalDividesSpec)) naturalDividesUptoCard

/-- THE SECOND FORM's CARD OF 'coinagelaw01.NaturalSmalls'. -/
def naturalSmallsUptoCard : Claim7 := { stood := { row := naturalSmallsUptoRow, standIns := [], harness := (true, "36a0984eb45fb90564eab1dc4bd947cda073a644e6b221e26c92ba5708e8e0d2"), looks := true }, kinds := [], alts := [], laidByText := true, laidKinds := [.data, .data, .data, .data, .sentinel, .sentinel, .pinned], laidTests := true, laidLooks := .later }
def NaturalSmallsUptoCardSaid : Prop := Claim7.holds Tryd.pinned (.plain (OpenSpec.upto naturalSmallsSpec)) naturalSmallsUptoCard
end Rows
end Go.Proofs.YtjacffmoccpogaaDoor
