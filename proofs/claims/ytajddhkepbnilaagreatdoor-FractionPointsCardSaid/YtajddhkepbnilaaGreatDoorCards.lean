/-
  DERIVED. GIVEN WITH THE SEED: THE CARDS: each row of YtajddhkepbnilaaGreatDoorRows.lean that lists a variable, with what it lists TIED to the program's text (the seventh form; the later family's looks); each row that meets fmt, with fmt's text TOLD by the authors' own Lean function (tested against real Go, not proved from fmt's source: count such statements apart). THE CARD IS WHAT COUNTS. Prove the row's statement (the work); the ties are given (YtajddhkepbnilaaGreatDoorTie.lean); close each card by the builder's one call (the guide's Derived/Test/ToyasCard.lean, 'card_holds'). Laid BY PROGRAM, IN A SANDBOX (cutbox-door.mjs). By AI agents, Wed Nov 11 2026. No macro, syntax, notation, axiom, sorry.
-/
import Derived.Test.YtajddhkepbnilaaGreatDoorRows
import GoSem.ClaimSeven
namespace Go.Proofs.YtajddhkepbnilaaGreatDoor
namespace Rows

/-- THE TIED CARD OF 'coinagelaw02.FractionParses'. -/
def fractionParsesCard : Claim7 := { stood := { row := fractionParsesRow, standIns := [], harness := (true, "2189d618782eca09c7c70b47c3758ab4ccac6195e5183eaecbfa92a83726d1bb"), looks := true }, kinds := [], alts := [], laidByText := true, laidKinds := [.data, .data, .data, .data, .sentinel, .sentinel, .pinned], laidTests := true, laidLooks := .later }
def FractionParsesCardSaid : Prop := Claim7.holds Tryz.pinned (.plain (OpenSpec.ofChange fractionParsesSpec)) fractionParsesCard

/-- THE TIED CARD OF 'coinagelaw02.FractionTexts'. -/
def fractionTextsCard : Claim7 := { stood := { row := fractionTextsRow, standIns := [], harness := (true, "2189d618782eca09c7c70b47c3758ab4ccac6195e5183eaecbfa92a83726d1bb"), looks := true }, kinds := [], alts := [], laidByText := true, laidKinds := [.data, .data, .data, .data, .sentinel, .sentinel, .pinned], laidTests := true, laidLooks := .later }
def FractionTextsCardSaid : Prop := Claim7.holds Tryz.pinned (.plain (OpenSpec.ofChange fractionTextsSpec)) fractionTextsCard

/-- THE TIED CARD OF 'coinagelaw02.FractionPoints'. -/
def fractionPointsCard : Claim7 := { stood := { row := fractionPointsRow, standIns := [], harness := (true, "2189d618782eca09c7c70b47c3758ab4ccac6195e5183eaecbfa92a83726d1bb"), looks := true }, kinds := [], alts := [], laidByText := true, laidKinds := [.data, .data, .data, .data, .sentinel, .sentinel, .pinned], laidTests := true, laidLooks := .later }
def FractionPointsCardSaid : Prop := Claim7.holds Tryz.pinned (.plain (OpenSpec.ofChange fractionPointsSpec)) fractionPointsCard

/-- THE TIED CARD OF 'coinagelaw02.FractionRounds'. -/
def fractionRoundsCard : Claim7 := { stood := { row := fractionRoundsRow, standIns := [], harness := (true, "2189d618782eca09c7c70b47c3758ab4ccac6195e5183eaecbfa92a83726d1bb"), looks := true }, kinds := [], alts := [], laidByText := true, laidKinds := [.data, .data, .data, .data, .sentinel, .sentinel, .pinned], laidTests := true, laidLooks := .later }
def FractionRoundsCardSaid : Prop := Claim7.holds Tryz.pinned (.plain (OpenSpec.ofChange fractionRoundsSpec)) fractionRoundsCard

/-- THE TIED CARD OF 'coinagelaw32.HoardTexts'. -/
def hoardTextsCard : Claim7 := { stood := { row := hoardTextsRow, standIns := [], harness := (true, "2189d618782eca09c7c70b47c3758ab4ccac6195e5183eaecbfa92a83726d1bb"), looks := true }, kinds := [], alts := [], laidByText := true, laidKinds := [.data, .data, .data, .data, .sentinel, .sentinel, .pinned], laidTests := true, laidLooks := .later }
def HoardTextsCardSaid : Prop := Claim7.holds Tryz.pinned (.plain (OpenSpec.ofChange hoardTextsSpec)) hoardTextsCard

/-- THE TIED CARD OF 'coinagelaw32.HoardParses'. -/
def hoardParsesCard : Claim7 := { stood := { row := hoardParsesRow, standIns := [], harness := (true, "2189d618782eca09c7c70b47c3758ab4ccac6195e5183eaecbfa92a83726d1bb"), looks := true }, kinds := [], alts := [], laidByText := true, laidKinds := [.data, .data, .data, .data, .sentinel, .sentinel, .pinned], laidTests := true, laidLooks := .later }
def HoardParsesCardSaid : Prop := Claim7.holds Tryz.pinned (.plain (OpenSpec.ofChange hoardParsesSpec)) hoardParsesCard

/-- THE SECOND FORM's CARD OF 'coinagelaw02.FractionParses'. -/
def fractionParsesUptoCard : Claim7 := { stood := { row := fractionParsesUptoRow, standIns := [], harness := (true, "2189d618782eca09c7c70b47c3758ab4ccac6195e5183eaecbfa92a83726d1bb"), looks := true }, kinds := [], alts := [], laidByText := true, laidKinds := [.data, .data, .data, .data, .sentinel, .sentinel, .pinned], laidTests := true, laidLooks := .later }
def FractionParsesUptoCardSaid : Prop := Claim7.holds Tryz.pinned (.plain (OpenSpec.upto fractionParsesSpec)) fractionParsesUptoCard

/-- THE SECOND FORM's CARD OF 'coinagelaw02.FractionTexts'. -/
def fractionTextsUptoCard : Claim7 := { stood := { row := fractionTextsUptoRow, standIns := [], harness := (true, "2189d618782eca09c7c70b47c3758ab4ccac6195e5183eaecbfa92a83726d1bb"), looks := true }, kinds := [], alts := [], laidByText := true, laidKinds := [.data, .data, .data, .data, .sentinel, .sentinel, .pinned], laidTests := true, laidLooks := .later }
def FractionTextsUptoCardSaid : Prop := Claim7.holds Tryz.pinned (.plain (OpenSpec.upto fractionTextsSpec)) fractionTextsUptoCard

/-- THE SECOND FORM's CARD OF 'coinagelaw02.FractionPoints'. -/
def fractionPointsUptoCard : Claim7 := { stood := { row := fractionPointsUptoRow, standIns := [], harness := (true, "2189d618782eca09c7c70b47c3758ab4ccac6195e5183eaecbfa92a83726d1bb"), looks := true }, kinds := [], alts := [], laidByText := true, laidKinds := [.data, .data, .data, .data, .sentinel, .sentinel, .pinned], laidTests := true, laidLooks := .later }
def FractionPointsUptoCardSaid : Prop := Claim7.holds Tryz.pinned (.plain (OpenSpec.upto fractionPointsSpec)) fractionPointsUptoCard

/-- THE SECOND FORM's CARD OF 'coinagelaw02.FractionRounds'. -/
def fractionRoundsUptoCard : Claim7 := { stood := { row := fractionRoundsUptoRow, standIns := [], harness := (true, "2189d618782eca09c7c70b47c3758ab4ccac6195e5183eaecbfa92a83726d1bb"), looks := true }, kinds := [], alts := [], laidByText := true, laidKinds := [.data, .data, .data, .data, .sentinel, .sentinel, .pinned], laidTests := true, laidLooks := .later }
def FractionRoundsUptoCardSaid : Prop := Claim7.holds Tryz.pinned (.plain (OpenSpec.upto fractionRoundsSpec)) fractionRoundsUptoCard

/-- THE SECOND FORM's CARD OF 'coinagelaw32.HoardTexts'. -/
def hoardTextsUptoCard : Claim7 := { stood := { row := hoardTextsUptoRow, standIns := [], harness := (true, "2189d618782eca09c7c70b47c3758ab4ccac6195e5183eaecbfa92a83726d1bb"), looks := true }, kinds := [], alts := [], laidByText := true, laidKinds := [.data, .data, .data, .data, .sentinel, .sentinel, .pinned], laidTests := true, laidLooks := .later }
def HoardTextsUptoCardSaid : Prop := Claim7.holds Tryz.pinned (.plain (OpenSpec.upto hoardTextsSpec)) hoardTextsUptoCard

/-- THE SECOND FORM's CARD OF 'coinagelaw32.HoardParses'. -/
def hoardParsesUptoCard : Claim7 := { stood := { row := hoardParsesUptoRow, standIns := [], harness := (true, "2189d618782eca09c7c70b47c3758ab4ccac6195e5183eaecbfa92a83726d1bb"), looks := true }, kinds := [], alts := [], laidByText := true, laidKinds := [.data, .data, .data, .data, .sentinel, .sentinel, .pinned], laidTests := true, laidLooks := .later }
def HoardParsesUptoCardSaid : Prop := Claim7.holds Tryz.pinned (.plain (OpenSpec.upto hoardParsesSpec)) hoardParsesUptoCard
end Rows
end Go.Proofs.YtajddhkepbnilaaGreatDoor
