/-
  DERIVED. GIVEN WITH THE SEED: THE CARDS: each row of YtlnajhochpbgpaaGreatDoorRows.lean that lists a variable, with what it lists TIED to the program's text (the seventh form; the later family's looks); each row that meets fmt, with fmt's text TOLD by the authors' own Lean function (tested against real Go, not proved from fmt's source: count such statements apart). THE CARD IS WHAT COUNTS. Prove the row's statement (the work); the ties are given (YtlnajhochpbgpaaGreatDoorTie.lean); close each card by the builder's one call (the guide's Derived/Test/ToyasCard.lean, 'card_holds'). Laid BY PROGRAM, IN A SANDBOX (cutbox-door.mjs). By AI agents, Wed Nov 11 2026. No macro, syntax, notation, axiom, sorry.
-/
import Derived.Test.YtlnajhochpbgpaaGreatDoorRows
import GoSem.ClaimSeven
namespace Go.Proofs.YtlnajhochpbgpaaGreatDoor
namespace Rows

/-- THE TIED CARD OF 'coinagelaw32.HoardTexts'. -/
def hoardTextsCard : Claim7 := { stood := { row := hoardTextsRow, standIns := [], harness := (true, "972dadc38c3df9585be5c2754d2101062b032b96d16f383bb5189ba5aef9eb09"), looks := true }, kinds := [], alts := [], laidByText := true, laidKinds := [.data, .data, .data, .data, .sentinel, .sentinel, .pinned], laidTests := true, laidLooks := .later }
def HoardTextsCardSaid : Prop := Claim7.holds Tryz.pinned (.plain (OpenSpec.ofChange hoardTextsSpec)) hoardTextsCard

/-- THE TIED CARD OF 'coinagelaw32.HoardParses'. -/
def hoardParsesCard : Claim7 := { stood := { row := hoardParsesRow, standIns := [], harness := (true, "972dadc38c3df9585be5c2754d2101062b032b96d16f383bb5189ba5aef9eb09"), looks := true }, kinds := [], alts := [], laidByText := true, laidKinds := [.data, .data, .data, .data, .sentinel, .sentinel, .pinned], laidTests := true, laidLooks := .later }
def HoardParsesCardSaid : Prop := Claim7.holds Tryz.pinned (.plain (OpenSpec.ofChange hoardParsesSpec)) hoardParsesCard

/-- THE SECOND FORM's CARD OF 'coinagelaw32.HoardTexts'. -/
def hoardTextsUptoCard : Claim7 := { stood := { row := hoardTextsUptoRow, standIns := [], harness := (true, "972dadc38c3df9585be5c2754d2101062b032b96d16f383bb5189ba5aef9eb09"), looks := true }, kinds := [], alts := [], laidByText := true, laidKinds := [.data, .data, .data, .data, .sentinel, .sentinel, .pinned], laidTests := true, laidLooks := .later }
def HoardTextsUptoCardSaid : Prop := Claim7.holds Tryz.pinned (.plain (OpenSpec.upto hoardTextsSpec)) hoardTextsUptoCard

/-- THE SECOND FORM's CARD OF 'coinagelaw32.HoardParses'. -/
def hoardParsesUptoCard : Claim7 := { stood := { row := hoardParsesUptoRow, standIns := [], harness := (true, "972dadc38c3df9585be5c2754d2101062b032b96d16f383bb5189ba5aef9eb09"), looks := true }, kinds := [], alts := [], laidByText := true, laidKinds := [.data, .data, .data, .data, .sentinel, .sentinel, .pinned], laidTests := true, laidLooks := .later }
def HoardParsesUptoCardSaid : Prop := Claim7.holds Tryz.pinned (.plain (OpenSpec.upto hoardParsesSpec)) hoardParsesUptoCard
end Rows
end Go.Proofs.YtlnajhochpbgpaaGreatDoor
