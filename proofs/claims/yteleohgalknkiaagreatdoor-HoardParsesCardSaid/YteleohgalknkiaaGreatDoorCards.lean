/-
  DERIVED. GIVEN WITH THE SEED: THE CARDS: each row of YteleohgalknkiaaGreatDoorRows.lean that lists a variable, with what it lists TIED to the program's text (the seventh form; the later family's looks); each row that meets fmt, with fmt's text TOLD by the authors' own Lean function (tested against real Go, not proved from fmt's source: count such statements apart). THE CARD IS WHAT COUNTS. Prove the row's statement (the work); the ties are given (YteleohgalknkiaaGreatDoorTie.lean); close each card by the builder's one call (the guide's Derived/Test/ToyasCard.lean, 'card_holds'). Laid BY PROGRAM, IN A SANDBOX (cutbox-door.mjs). By AI agents, Wed Nov 11 2026. No macro, syntax, notation, axiom, sorry.
-/
import Derived.Test.YteleohgalknkiaaGreatDoorRows
import GoSem.ClaimSeven
namespace Go.Proofs.YteleohgalknkiaaGreatDoor
namespace Rows

/-- THE TIED CARD OF 'coinagetop.WholeHoards'. -/
def wholeHoardsCard : Claim7 := { stood := { row := wholeHoardsRow, standIns := [], harness := (true, "93e66eabb801440ae1d577680f5c8f917098893537ffb1529d3b0713b8af4b3a"), looks := true }, kinds := [], alts := [], laidByText := true, laidKinds := [.data, .data, .data, .data, .sentinel, .sentinel, .pinned], laidTests := true, laidLooks := .later }
def WholeHoardsCardSaid : Prop := Claim7.holds Tryz.pinned (.plain (OpenSpec.ofChange wholeHoardsSpec)) wholeHoardsCard

/-- THE TIED CARD OF 'coinagelaw32.HoardParses'. -/
def hoardParsesCard : Claim7 := { stood := { row := hoardParsesRow, standIns := [], harness := (true, "93e66eabb801440ae1d577680f5c8f917098893537ffb1529d3b0713b8af4b3a"), looks := true }, kinds := [], alts := [], laidByText := true, laidKinds := [.data, .data, .data, .data, .sentinel, .sentinel, .pinned], laidTests := true, laidLooks := .later }
def HoardParsesCardSaid : Prop := Claim7.holds Tryz.pinned (.plain (OpenSpec.ofChange hoardParsesSpec)) hoardParsesCard

/-- THE TIED CARD OF 'coinagelaw37.WeightTables'. -/
def weightTablesCard : Claim7 := { stood := { row := weightTablesRow, standIns := [], harness := (true, "93e66eabb801440ae1d577680f5c8f917098893537ffb1529d3b0713b8af4b3a"), looks := true }, kinds := [], alts := [], laidByText := true, laidKinds := [.data, .data, .data, .data, .sentinel, .sentinel, .pinned], laidTests := true, laidLooks := .later }
def WeightTablesCardSaid : Prop := Claim7.holds Tryz.pinned (.plain (OpenSpec.ofChange weightTablesSpec)) weightTablesCard

/-- THE TIED CARD OF 'coinagelaw37.WeightModes'. -/
def weightModesCard : Claim7 := { stood := { row := weightModesRow, standIns := [], harness := (true, "93e66eabb801440ae1d577680f5c8f917098893537ffb1529d3b0713b8af4b3a"), looks := true }, kinds := [], alts := [], laidByText := true, laidKinds := [.data, .data, .data, .data, .sentinel, .sentinel, .pinned], laidTests := true, laidLooks := .later }
def WeightModesCardSaid : Prop := Claim7.holds Tryz.pinned (.plain (OpenSpec.ofChange weightModesSpec)) weightModesCard

/-- THE TIED CARD OF 'coinagelaw37.WeightMedians'. -/
def weightMediansCard : Claim7 := { stood := { row := weightMediansRow, standIns := [], harness := (true, "93e66eabb801440ae1d577680f5c8f917098893537ffb1529d3b0713b8af4b3a"), looks := true }, kinds := [], alts := [], laidByText := true, laidKinds := [.data, .data, .data, .data, .sentinel, .sentinel, .pinned], laidTests := true, laidLooks := .later }
def WeightMediansCardSaid : Prop := Claim7.holds Tryz.pinned (.plain (OpenSpec.ofChange weightMediansSpec)) weightMediansCard

/-- THE TIED CARD OF 'coinagelaw37.WeightQuantiles'. -/
def weightQuantilesCard : Claim7 := { stood := { row := weightQuantilesRow, standIns := [], harness := (true, "93e66eabb801440ae1d577680f5c8f917098893537ffb1529d3b0713b8af4b3a"), looks := true }, kinds := [], alts := [], laidByText := true, laidKinds := [.data, .data, .data, .data, .sentinel, .sentinel, .pinned], laidTests := true, laidLooks := .later }
def WeightQuantilesCardSaid : Prop := Claim7.holds Tryz.pinned (.plain (OpenSpec.ofChange weightQuantilesSpec)) weightQuantilesCard

/-- THE TIED CARD OF 'coinagelaw37.WeightMeans'. -/
def weightMeansCard : Claim7 := { stood := { row := weightMeansRow, standIns := [], harness := (true, "93e66eabb801440ae1d577680f5c8f917098893537ffb1529d3b0713b8af4b3a"), looks := true }, kinds := [], alts := [], laidByText := true, laidKinds := [.data, .data, .data, .data, .sentinel, .sentinel, .pinned], laidTests := true, laidLooks := .later }
def WeightMeansCardSaid : Prop := Claim7.holds Tryz.pinned (.plain (OpenSpec.ofChange weightMeansSpec)) weightMeansCard

/-- THE TIED CARD OF 'coinagelaw37.WeightDeviates'. -/
def weightDeviatesCard : Claim7 := { stood := { row := weightDeviatesRow, standIns := [], harness := (true, "93e66eabb801440ae1d577680f5c8f917098893537ffb1529d3b0713b8af4b3a"), looks := true }, kinds := [], alts := [], laidByText := true, laidKinds := [.data, .data, .data, .data, .sentinel, .sentinel, .pinned], laidTests := true, laidLooks := .later }
def WeightDeviatesCardSaid : Prop := Claim7.holds Tryz.pinned (.plain (OpenSpec.ofChange weightDeviatesSpec)) weightDeviatesCard

/-- THE TIED CARD OF 'coinagelaw37.WeightTrims'. -/
def weightTrimsCard : Claim7 := { stood := { row := weightTrimsRow, standIns := [], harness := (true, "93e66eabb801440ae1d577680f5c8f917098893537ffb1529d3b0713b8af4b3a"), looks := true }, kinds := [], alts := [], laidByText := true, laidKinds := [.data, .data, .data, .data, .sentinel, .sentinel, .pinned], laidTests := true, laidLooks := .later }
def WeightTrimsCardSaid : Prop := Claim7.holds Tryz.pinned (.plain (OpenSpec.ofChange weightTrimsSpec)) weightTrimsCard

/-- THE TIED CARD OF 'coinagelaw37.WeightGrams'. -/
def weightGramsCard : Claim7 := { stood := { row := weightGramsRow, standIns := [], harness := (true, "93e66eabb801440ae1d577680f5c8f917098893537ffb1529d3b0713b8af4b3a"), looks := true }, kinds := [], alts := [], laidByText := true, laidKinds := [.data, .data, .data, .data, .sentinel, .sentinel, .pinned], laidTests := true, laidLooks := .later }
def WeightGramsCardSaid : Prop := Claim7.holds Tryz.pinned (.plain (OpenSpec.ofChange weightGramsSpec)) weightGramsCard

/-- THE SECOND FORM's CARD OF 'coinagetop.WholeHoards'. -/
def wholeHoardsUptoCard : Claim7 := { stood := { row := wholeHoardsUptoRow, standIns := [], harness := (true, "93e66eabb801440ae1d577680f5c8f917098893537ffb1529d3b0713b8af4b3a"), looks := true }, kinds := [], alts := [], laidByText := true, laidKinds := [.data, .data, .data, .data, .sentinel, .sentinel, .pinned], laidTests := true, laidLooks := .later }
def WholeHoardsUptoCardSaid : Prop := Claim7.holds Tryz.pinned (.plain (OpenSpec.upto wholeHoardsSpec)) wholeHoardsUptoCard

/-- THE SECOND FORM's CARD OF 'coinagelaw32.HoardParses'. -/
def hoardParsesUptoCard : Claim7 := { stood := { row := hoardParsesUptoRow, standIns := [], harness := (true, "93e66eabb801440ae1d577680f5c8f917098893537ffb1529d3b0713b8af4b3a"), looks := true }, kinds := [], alts := [], laidByText := true, laidKinds := [.data, .data, .data, .data, .sentinel, .sentinel, .pinned], laidTests := true, laidLooks := .later }
def HoardParsesUptoCardSaid : Prop := Claim7.holds Tryz.pinned (.plain (OpenSpec.upto hoardParsesSpec)) hoardParsesUptoCard

/-- THE SECOND FORM's CARD OF 'coinagelaw37.WeightTables'. -/
def weightTablesUptoCard : Claim7 := { stood := { row := weightTablesUptoRow, standIns := [], harness := (true, "93e66eabb801440ae1d577680f5c8f917098893537ffb1529d3b0713b8af4b3a"), looks := true }, kinds := [], alts := [], laidByText := true, laidKinds := [.data, .data, .data, .data, .sentinel, .sentinel, .pinned], laidTests := true, laidLooks := .later }
def WeightTablesUptoCardSaid : Prop := Claim7.holds Tryz.pinned (.plain (OpenSpec.upto weightTablesSpec)) weightTablesUptoCard

/-- THE SECOND FORM's CARD OF 'coinagelaw37.WeightModes'. -/
def weightModesUptoCard : Claim7 := { stood := { row := weightModesUptoRow, standIns := [], harness := (true, "93e66eabb801440ae1d577680f5c8f917098893537ffb1529d3b0713b8af4b3a"), looks := true }, kinds := [], alts := [], laidByText := true, laidKinds := [.data, .data, .data, .data, .sentinel, .sentinel, .pinned], laidTests := true, laidLooks := .later }
def WeightModesUptoCardSaid : Prop := Claim7.holds Tryz.pinned (.plain (OpenSpec.upto weightModesSpec)) weightModesUptoCard

/-- THE SECOND FORM's CARD OF 'coinagelaw37.WeightMedians'. -/
def weightMediansUptoCard : Claim7 := { stood := { row := weightMediansUptoRow, standIns := [], harness := (true, "93e66eabb801440ae1d577680f5c8f917098893537ffb1529d3b0713b8af4b3a"), looks := true }, kinds := [], alts := [], laidByText := true, laidKinds := [.data, .data, .data, .data, .sentinel, .sentinel, .pinned], laidTests := true, laidLooks := .later }
def WeightMediansUptoCardSaid : Prop := Claim7.holds Tryz.pinned (.plain (OpenSpec.upto weightMediansSpec)) weightMediansUptoCard

/-- THE SECOND FORM's CARD OF 'coinagelaw37.WeightQuantiles'. -/
def weightQuantilesUptoCard : Claim7 := { stood := { row := weightQuantilesUptoRow, standIns := [], harness := (true, "93e66eabb801440ae1d577680f5c8f917098893537ffb1529d3b0713b8af4b3a"), looks := true }, kinds := [], alts := [], laidByText := true, laidKinds := [.data, .data, .data, .data, .sentinel, .sentinel, .pinned], laidTests := true, laidLooks := .later }
def WeightQuantilesUptoCardSaid : Prop := Claim7.holds Tryz.pinned (.plain (OpenSpec.upto weightQuantilesSpec)) weightQuantilesUptoCard

/-- THE SECOND FORM's CARD OF 'coinagelaw37.WeightMeans'. -/
def weightMeansUptoCard : Claim7 := { stood := { row := weightMeansUptoRow, standIns := [], harness := (true, "93e66eabb801440ae1d577680f5c8f917098893537ffb1529d3b0713b8af4b3a"), looks := true }, kinds := [], alts := [], laidByText := true, laidKinds := [.data, .data, .data, .data, .sentinel, .sentinel, .pinned], laidTests := true, laidLooks := .later }
def WeightMeansUptoCardSaid : Prop := Claim7.holds Tryz.pinned (.plain (OpenSpec.upto weightMeansSpec)) weightMeansUptoCard

/-- THE SECOND FORM's CARD OF 'coinagelaw37.WeightDeviates'. -/
def weightDeviatesUptoCard : Claim7 := { stood := { row := weightDeviatesUptoRow, standIns := [], harness := (true, "93e66eabb801440ae1d577680f5c8f917098893537ffb1529d3b0713b8af4b3a"), looks := true }, kinds := [], alts := [], laidByText := true, laidKinds := [.data, .data, .data, .data, .sentinel, .sentinel, .pinned], laidTests := true, laidLooks := .later }
def WeightDeviatesUptoCardSaid : Prop := Claim7.holds Tryz.pinned (.plain (OpenSpec.upto weightDeviatesSpec)) weightDeviatesUptoCard

/-- THE SECOND FORM's CARD OF 'coinagelaw37.WeightTrims'. -/
def weightTrimsUptoCard : Claim7 := { stood := { row := weightTrimsUptoRow, standIns := [], harness := (true, "93e66eabb801440ae1d577680f5c8f917098893537ffb1529d3b0713b8af4b3a"), looks := true }, kinds := [], alts := [], laidByText := true, laidKinds := [.data, .data, .data, .data, .sentinel, .sentinel, .pinned], laidTests := true, laidLooks := .later }
def WeightTrimsUptoCardSaid : Prop := Claim7.holds Tryz.pinned (.plain (OpenSpec.upto weightTrimsSpec)) weightTrimsUptoCard

/-- THE SECOND FORM's CARD OF 'coinagelaw37.WeightGrams'. -/
def weightGramsUptoCard : Claim7 := { stood := { row := weightGramsUptoRow, standIns := [], harness := (true, "93e66eabb801440ae1d577680f5c8f917098893537ffb1529d3b0713b8af4b3a"), looks := true }, kinds := [], alts := [], laidByText := true, laidKinds := [.data, .data, .data, .data, .sentinel, .sentinel, .pinned], laidTests := true, laidLooks := .later }
def WeightGramsUptoCardSaid : Prop := Claim7.holds Tryz.pinned (.plain (OpenSpec.upto weightGramsSpec)) weightGramsUptoCard
end Rows
end Go.Proofs.YteleohgalknkiaaGreatDoor
