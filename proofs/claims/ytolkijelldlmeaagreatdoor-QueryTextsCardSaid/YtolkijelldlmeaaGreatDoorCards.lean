/-
  DERIVED. GIVEN WITH THE SEED: THE CARDS: each row of YtolkijelldlmeaaGreatDoorRows.lean that lists a variable, with what it lists TIED to the program's text (the seventh form; the later family's looks); each row that meets fmt, with fmt's text TOLD by the authors' own Lean function (tested against real Go, not proved from fmt's source: count such statements apart). THE CARD IS WHAT COUNTS. Prove the row's statement (the work); the ties are given (YtolkijelldlmeaaGreatDoorTie.lean); close each card by the builder's one call (the guide's Derived/Test/ToyasCard.lean, 'card_holds'). Laid BY PROGRAM, IN A SANDBOX (cutbox-door.mjs). By AI agents, Wed Nov 11 2026. No macro, syntax, notation, axiom, sorry.
-/
import Derived.Test.YtolkijelldlmeaaGreatDoorRows
import GoSem.ClaimSeven
namespace Go.Proofs.YtolkijelldlmeaaGreatDoor
namespace Rows

/-- THE TIED CARD OF 'coinagetop.WholeShares'. -/
def wholeSharesCard : Claim7 := { stood := { row := wholeSharesRow, standIns := [], harness := (true, "fb79bc7895108874f1bb19cd57c7023846e31105b3180b67d67af4be8b6ee529"), looks := true }, kinds := [], alts := [], laidByText := true, laidKinds := [.data, .data, .data], laidTests := true, laidLooks := .later }
def WholeSharesCardSaid : Prop := Claim7.holds Tryz.pinned (.plain (OpenSpec.ofChange wholeSharesSpec)) wholeSharesCard

/-- THE TIED CARD OF 'coinagetop.WholeQueries'. -/
def wholeQueriesCard : Claim7 := { stood := { row := wholeQueriesRow, standIns := [], harness := (true, "fb79bc7895108874f1bb19cd57c7023846e31105b3180b67d67af4be8b6ee529"), looks := true }, kinds := [], alts := [], laidByText := true, laidKinds := [.data, .data, .data, .sentinel, .sentinel], laidTests := true, laidLooks := .later }
def WholeQueriesCardSaid : Prop := Claim7.holds Tryz.pinned (.plain (OpenSpec.ofChange wholeQueriesSpec)) wholeQueriesCard

/-- THE TIED CARD OF 'coinagelaw50.QueryTexts'. -/
def queryTextsCard : Claim7 := { stood := { row := queryTextsRow, standIns := [], harness := (true, "fb79bc7895108874f1bb19cd57c7023846e31105b3180b67d67af4be8b6ee529"), looks := true }, kinds := [], alts := [], laidByText := true, laidKinds := [.data, .data, .data, .sentinel, .sentinel], laidTests := true, laidLooks := .later }
def QueryTextsCardSaid : Prop := Claim7.holds Tryz.pinned (.plain (OpenSpec.ofChange queryTextsSpec)) queryTextsCard

/-- THE TIED CARD OF 'coinagelaw50.QueryParses'. -/
def queryParsesCard : Claim7 := { stood := { row := queryParsesRow, standIns := [], harness := (true, "fb79bc7895108874f1bb19cd57c7023846e31105b3180b67d67af4be8b6ee529"), looks := true }, kinds := [], alts := [], laidByText := true, laidKinds := [.data, .data, .data, .sentinel, .sentinel], laidTests := true, laidLooks := .later }
def QueryParsesCardSaid : Prop := Claim7.holds Tryz.pinned (.plain (OpenSpec.ofChange queryParsesSpec)) queryParsesCard

/-- THE TIED CARD OF 'coinagelaw50.QuerySelects'. -/
def querySelectsCard : Claim7 := { stood := { row := querySelectsRow, standIns := [], harness := (true, "fb79bc7895108874f1bb19cd57c7023846e31105b3180b67d67af4be8b6ee529"), looks := true }, kinds := [], alts := [], laidByText := true, laidKinds := [.data, .data, .data, .sentinel, .sentinel], laidTests := true, laidLooks := .later }
def QuerySelectsCardSaid : Prop := Claim7.holds Tryz.pinned (.plain (OpenSpec.ofChange querySelectsSpec)) querySelectsCard

/-- THE TIED CARD OF 'coinagelaw50.QueryLogic'. -/
def queryLogicCard : Claim7 := { stood := { row := queryLogicRow, standIns := [], harness := (true, "fb79bc7895108874f1bb19cd57c7023846e31105b3180b67d67af4be8b6ee529"), looks := true }, kinds := [], alts := [], laidByText := true, laidKinds := [.data, .data, .data, .sentinel, .sentinel], laidTests := true, laidLooks := .later }
def QueryLogicCardSaid : Prop := Claim7.holds Tryz.pinned (.plain (OpenSpec.ofChange queryLogicSpec)) queryLogicCard

/-- THE TIED CARD OF 'coinagetop.WholeCatalog'. -/
def wholeCatalogCard : Claim7 := { stood := { row := wholeCatalogRow, standIns := [], harness := (true, "fb79bc7895108874f1bb19cd57c7023846e31105b3180b67d67af4be8b6ee529"), looks := true }, kinds := [], alts := [], laidByText := true, laidKinds := [.data, .data, .data, .data, .sentinel, .sentinel, .pinned], laidTests := true, laidLooks := .later }
def WholeCatalogCardSaid : Prop := Claim7.holds Tryz.pinned (.plain (OpenSpec.ofChange wholeCatalogSpec)) wholeCatalogCard

/-- THE SECOND FORM's CARD OF 'coinagetop.WholeShares'. -/
def wholeSharesUptoCard : Claim7 := { stood := { row := wholeSharesUptoRow, standIns := [], harness := (true, "fb79bc7895108874f1bb19cd57c7023846e31105b3180b67d67af4be8b6ee529"), looks := true }, kinds := [], alts := [], laidByText := true, laidKinds := [.data, .data, .data], laidTests := true, laidLooks := .later }
def WholeSharesUptoCardSaid : Prop := Claim7.holds Tryz.pinned (.plain (OpenSpec.upto wholeSharesSpec)) wholeSharesUptoCard

/-- THE SECOND FORM's CARD OF 'coinagetop.WholeQueries'. -/
def wholeQueriesUptoCard : Claim7 := { stood := { row := wholeQueriesUptoRow, standIns := [], harness := (true, "fb79bc7895108874f1bb19cd57c7023846e31105b3180b67d67af4be8b6ee529"), looks := true }, kinds := [], alts := [], laidByText := true, laidKinds := [.data, .data, .data, .sentinel, .sentinel], laidTests := true, laidLooks := .later }
def WholeQueriesUptoCardSaid : Prop := Claim7.holds Tryz.pinned (.plain (OpenSpec.upto wholeQueriesSpec)) wholeQueriesUptoCard

/-- THE SECOND FORM's CARD OF 'coinagelaw50.QueryTexts'. -/
def queryTextsUptoCard : Claim7 := { stood := { row := queryTextsUptoRow, standIns := [], harness := (true, "fb79bc7895108874f1bb19cd57c7023846e31105b3180b67d67af4be8b6ee529"), looks := true }, kinds := [], alts := [], laidByText := true, laidKinds := [.data, .data, .data, .sentinel, .sentinel], laidTests := true, laidLooks := .later }
def QueryTextsUptoCardSaid : Prop := Claim7.holds Tryz.pinned (.plain (OpenSpec.upto queryTextsSpec)) queryTextsUptoCard

/-- THE SECOND FORM's CARD OF 'coinagelaw50.QueryParses'. -/
def queryParsesUptoCard : Claim7 := { stood := { row := queryParsesUptoRow, standIns := [], harness := (true, "fb79bc7895108874f1bb19cd57c7023846e31105b3180b67d67af4be8b6ee529"), looks := true }, kinds := [], alts := [], laidByText := true, laidKinds := [.data, .data, .data, .sentinel, .sentinel], laidTests := true, laidLooks := .later }
def QueryParsesUptoCardSaid : Prop := Claim7.holds Tryz.pinned (.plain (OpenSpec.upto queryParsesSpec)) queryParsesUptoCard

/-- THE SECOND FORM's CARD OF 'coinagelaw50.QuerySelects'. -/
def querySelectsUptoCard : Claim7 := { stood := { row := querySelectsUptoRow, standIns := [], harness := (true, "fb79bc7895108874f1bb19cd57c7023846e31105b3180b67d67af4be8b6ee529"), looks := true }, kinds := [], alts := [], laidByText := true, laidKinds := [.data, .data, .data, .sentinel, .sentinel], laidTests := true, laidLooks := .later }
def QuerySelectsUptoCardSaid : Prop := Claim7.holds Tryz.pinned (.plain (OpenSpec.upto querySelectsSpec)) querySelectsUptoCard

/-- THE SECOND FORM's CARD OF 'coinagelaw50.QueryLogic'. -/
def queryLogicUptoCard : Claim7 := { stood := { row := queryLogicUptoRow, standIns := [], harness := (true, "fb79bc7895108874f1bb19cd57c7023846e31105b3180b67d67af4be8b6ee529"), looks := true }, kinds := [], alts := [], laidByText := true, laidKinds := [.data, .data, .data, .sentinel, .sentinel], laidTests := true, laidLooks := .later }
def QueryLogicUptoCardSaid : Prop := Claim7.holds Tryz.pinned (.plain (OpenSpec.upto queryLogicSpec)) queryLogicUptoCard

/-- THE SECOND FORM's CARD OF 'coinagetop.WholeCatalog'. -/
def wholeCatalogUptoCard : Claim7 := { stood := { row := wholeCatalogUptoRow, standIns := [], harness := (true, "fb79bc7895108874f1bb19cd57c7023846e31105b3180b67d67af4be8b6ee529"), looks := true }, kinds := [], alts := [], laidByText := true, laidKinds := [.data, .data, .data, .data, .sentinel, .sentinel, .pinned], laidTests := true, laidLooks := .later }
def WholeCatalogUptoCardSaid : Prop := Claim7.holds Tryz.pinned (.plain (OpenSpec.upto wholeCatalogSpec)) wholeCatalogUptoCard
end Rows
end Go.Proofs.YtolkijelldlmeaaGreatDoor
