/-
  DERIVED. GIVEN WITH THE SEED: THE CARDS: each row of YtilojhhmichemaaGreatDoorRows.lean that lists a variable, with what it lists TIED to the program's text (the seventh form; the later family's looks); each row that meets fmt, with fmt's text TOLD by the authors' own Lean function (tested against real Go, not proved from fmt's source: count such statements apart). THE CARD IS WHAT COUNTS. Prove the row's statement (the work); the ties are given (YtilojhhmichemaaGreatDoorTie.lean); close each card by the builder's one call (the guide's Derived/Test/ToyasCard.lean, 'card_holds'). Laid BY PROGRAM, IN A SANDBOX (cutbox-door.mjs). By AI agents, Wed Nov 11 2026. No macro, syntax, notation, axiom, sorry.
-/
import Derived.Test.YtilojhhmichemaaGreatDoorRows
import GoSem.ClaimSeven
namespace Go.Proofs.YtilojhhmichemaaGreatDoor
namespace Rows

/-- THE TIED CARD OF 'coinagelaw50.QueryTexts'. -/
def queryTextsCard : Claim7 := { stood := { row := queryTextsRow, standIns := [], harness := (true, "84915764660d8e8627ec781c963153dc5944b826ffc0212d8148c8c602cbd587"), looks := true }, kinds := [], alts := [], laidByText := true, laidKinds := [.data, .data, .data, .sentinel, .sentinel], laidTests := true, laidLooks := .later }
def QueryTextsCardSaid : Prop := Claim7.holds Tryz.pinned (.plain (OpenSpec.ofChange queryTextsSpec)) queryTextsCard

/-- THE TIED CARD OF 'coinagelaw50.QueryParses'. -/
def queryParsesCard : Claim7 := { stood := { row := queryParsesRow, standIns := [], harness := (true, "84915764660d8e8627ec781c963153dc5944b826ffc0212d8148c8c602cbd587"), looks := true }, kinds := [], alts := [], laidByText := true, laidKinds := [.data, .data, .data, .sentinel, .sentinel], laidTests := true, laidLooks := .later }
def QueryParsesCardSaid : Prop := Claim7.holds Tryz.pinned (.plain (OpenSpec.ofChange queryParsesSpec)) queryParsesCard

/-- THE TIED CARD OF 'coinagelaw50.QuerySelects'. -/
def querySelectsCard : Claim7 := { stood := { row := querySelectsRow, standIns := [], harness := (true, "84915764660d8e8627ec781c963153dc5944b826ffc0212d8148c8c602cbd587"), looks := true }, kinds := [], alts := [], laidByText := true, laidKinds := [.data, .data, .data, .sentinel, .sentinel], laidTests := true, laidLooks := .later }
def QuerySelectsCardSaid : Prop := Claim7.holds Tryz.pinned (.plain (OpenSpec.ofChange querySelectsSpec)) querySelectsCard

/-- THE TIED CARD OF 'coinagelaw50.QueryNegates'. -/
def queryNegatesCard : Claim7 := { stood := { row := queryNegatesRow, standIns := [], harness := (true, "84915764660d8e8627ec781c963153dc5944b826ffc0212d8148c8c602cbd587"), looks := true }, kinds := [], alts := [], laidByText := true, laidKinds := [.data, .data, .data, .sentinel, .sentinel], laidTests := true, laidLooks := .later }
def QueryNegatesCardSaid : Prop := Claim7.holds Tryz.pinned (.plain (OpenSpec.ofChange queryNegatesSpec)) queryNegatesCard

/-- THE TIED CARD OF 'coinagelaw50.QueryNormals'. -/
def queryNormalsCard : Claim7 := { stood := { row := queryNormalsRow, standIns := [], harness := (true, "84915764660d8e8627ec781c963153dc5944b826ffc0212d8148c8c602cbd587"), looks := true }, kinds := [], alts := [], laidByText := true, laidKinds := [.data, .data, .data, .sentinel, .sentinel], laidTests := true, laidLooks := .later }
def QueryNormalsCardSaid : Prop := Claim7.holds Tryz.pinned (.plain (OpenSpec.ofChange queryNormalsSpec)) queryNormalsCard

/-- THE TIED CARD OF 'coinagelaw50.QueryTwice'. -/
def queryTwiceCard : Claim7 := { stood := { row := queryTwiceRow, standIns := [], harness := (true, "84915764660d8e8627ec781c963153dc5944b826ffc0212d8148c8c602cbd587"), looks := true }, kinds := [], alts := [], laidByText := true, laidKinds := [.data, .data, .data, .sentinel, .sentinel], laidTests := true, laidLooks := .later }
def QueryTwiceCardSaid : Prop := Claim7.holds Tryz.pinned (.plain (OpenSpec.ofChange queryTwiceSpec)) queryTwiceCard

/-- THE TIED CARD OF 'coinagelaw50.QueryLogic'. -/
def queryLogicCard : Claim7 := { stood := { row := queryLogicRow, standIns := [], harness := (true, "84915764660d8e8627ec781c963153dc5944b826ffc0212d8148c8c602cbd587"), looks := true }, kinds := [], alts := [], laidByText := true, laidKinds := [.data, .data, .data, .sentinel, .sentinel], laidTests := true, laidLooks := .later }
def QueryLogicCardSaid : Prop := Claim7.holds Tryz.pinned (.plain (OpenSpec.ofChange queryLogicSpec)) queryLogicCard

/-- THE SECOND FORM's CARD OF 'coinagelaw50.QueryTexts'. -/
def queryTextsUptoCard : Claim7 := { stood := { row := queryTextsUptoRow, standIns := [], harness := (true, "84915764660d8e8627ec781c963153dc5944b826ffc0212d8148c8c602cbd587"), looks := true }, kinds := [], alts := [], laidByText := true, laidKinds := [.data, .data, .data, .sentinel, .sentinel], laidTests := true, laidLooks := .later }
def QueryTextsUptoCardSaid : Prop := Claim7.holds Tryz.pinned (.plain (OpenSpec.upto queryTextsSpec)) queryTextsUptoCard

/-- THE SECOND FORM's CARD OF 'coinagelaw50.QueryParses'. -/
def queryParsesUptoCard : Claim7 := { stood := { row := queryParsesUptoRow, standIns := [], harness := (true, "84915764660d8e8627ec781c963153dc5944b826ffc0212d8148c8c602cbd587"), looks := true }, kinds := [], alts := [], laidByText := true, laidKinds := [.data, .data, .data, .sentinel, .sentinel], laidTests := true, laidLooks := .later }
def QueryParsesUptoCardSaid : Prop := Claim7.holds Tryz.pinned (.plain (OpenSpec.upto queryParsesSpec)) queryParsesUptoCard

/-- THE SECOND FORM's CARD OF 'coinagelaw50.QuerySelects'. -/
def querySelectsUptoCard : Claim7 := { stood := { row := querySelectsUptoRow, standIns := [], harness := (true, "84915764660d8e8627ec781c963153dc5944b826ffc0212d8148c8c602cbd587"), looks := true }, kinds := [], alts := [], laidByText := true, laidKinds := [.data, .data, .data, .sentinel, .sentinel], laidTests := true, laidLooks := .later }
def QuerySelectsUptoCardSaid : Prop := Claim7.holds Tryz.pinned (.plain (OpenSpec.upto querySelectsSpec)) querySelectsUptoCard

/-- THE SECOND FORM's CARD OF 'coinagelaw50.QueryNegates'. -/
def queryNegatesUptoCard : Claim7 := { stood := { row := queryNegatesUptoRow, standIns := [], harness := (true, "84915764660d8e8627ec781c963153dc5944b826ffc0212d8148c8c602cbd587"), looks := true }, kinds := [], alts := [], laidByText := true, laidKinds := [.data, .data, .data, .sentinel, .sentinel], laidTests := true, laidLooks := .later }
def QueryNegatesUptoCardSaid : Prop := Claim7.holds Tryz.pinned (.plain (OpenSpec.upto queryNegatesSpec)) queryNegatesUptoCard

/-- THE SECOND FORM's CARD OF 'coinagelaw50.QueryNormals'. -/
def queryNormalsUptoCard : Claim7 := { stood := { row := queryNormalsUptoRow, standIns := [], harness := (true, "84915764660d8e8627ec781c963153dc5944b826ffc0212d8148c8c602cbd587"), looks := true }, kinds := [], alts := [], laidByText := true, laidKinds := [.data, .data, .data, .sentinel, .sentinel], laidTests := true, laidLooks := .later }
def QueryNormalsUptoCardSaid : Prop := Claim7.holds Tryz.pinned (.plain (OpenSpec.upto queryNormalsSpec)) queryNormalsUptoCard

/-- THE SECOND FORM's CARD OF 'coinagelaw50.QueryTwice'. -/
def queryTwiceUptoCard : Claim7 := { stood := { row := queryTwiceUptoRow, standIns := [], harness := (true, "84915764660d8e8627ec781c963153dc5944b826ffc0212d8148c8c602cbd587"), looks := true }, kinds := [], alts := [], laidByText := true, laidKinds := [.data, .data, .data, .sentinel, .sentinel], laidTests := true, laidLooks := .later }
def QueryTwiceUptoCardSaid : Prop := Claim7.holds Tryz.pinned (.plain (OpenSpec.upto queryTwiceSpec)) queryTwiceUptoCard

/-- THE SECOND FORM's CARD OF 'coinagelaw50.QueryLogic'. -/
def queryLogicUptoCard : Claim7 := { stood := { row := queryLogicUptoRow, standIns := [], harness := (true, "84915764660d8e8627ec781c963153dc5944b826ffc0212d8148c8c602cbd587"), looks := true }, kinds := [], alts := [], laidByText := true, laidKinds := [.data, .data, .data, .sentinel, .sentinel], laidTests := true, laidLooks := .later }
def QueryLogicUptoCardSaid : Prop := Claim7.holds Tryz.pinned (.plain (OpenSpec.upto queryLogicSpec)) queryLogicUptoCard
end Rows
end Go.Proofs.YtilojhhmichemaaGreatDoor
