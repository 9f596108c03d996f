/-
  DERIVED. GIVEN WITH THE SEED: THE CARDS: each row of YtfndbmflllmpgaaDoorRows.lean that lists a variable, with what it lists TIED to the program's text (the seventh form; the later family's looks); each row that meets fmt, with fmt's text TOLD by the authors' own Lean function (tested against real Go, not proved from fmt's source: count such statements apart). THE CARD IS WHAT COUNTS. Prove the row's statement (the work); the ties are given (YtfndbmflllmpgaaDoorTie.lean); close each card by the builder's one call (the guide's Derived/Test/ToyasCard.lean, 'card_holds'). Laid BY PROGRAM, IN A SANDBOX (cutbox-door.mjs). By AI agents, Wed Nov 11 2026. No macro, syntax, notation, axiom, sorry.
-/
import Derived.Test.YtfndbmflllmpgaaDoorRows
import GoSem.ClaimSeven
namespace Go.Proofs.YtfndbmflllmpgaaDoor
namespace Rows

/-- THE TIED CARD OF 'coinagelaw02.FractionDecimals'. -/
def fractionDecimalsCard : Claim7 := { stood := { row := fractionDecimalsRow, standIns := [], harness := (true, "c772ff3f2c2fa0c697c91b85f2eb2364f51f01ad886902ee279d622c2bf05df5"), looks := false }, kinds := [], alts := [], laidByText := true, laidKinds := [.data, .data, .data], laidTests := true, laidLooks := .later }
def FractionDecimalsCardSaid : Prop := Claim7.holds Tryd.pinned (.plain (OpenSpec.ofChange fractionDecimalsSpec)) fractionDecimalsCard

/-- THE TIED CARD OF 'coinagelaw02.FractionNorms'. -/
def fractionNormsCard : Claim7 := { stood := { row := fractionNormsRow, standIns := [], harness := (true, "c772ff3f2c2fa0c697c91b85f2eb2364f51f01ad886902ee279d622c2bf05df5"), looks := false }, kinds := [], alts := [], laidByText := true, laidKinds := [.data, .data, .data], laidTests := true, laidLooks := .later }
def FractionNormsCardSaid : Prop := Claim7.holds Tryd.pinned (.plain (OpenSpec.ofChange fractionNormsSpec)) fractionNormsCard

/-- THE TIED CARD OF 'coinagelaw02.FractionField'. -/
def fractionFieldCard : Claim7 := { stood := { row := fractionFieldRow, standIns := [], harness := (true, "c772ff3f2c2fa0c697c91b85f2eb2364f51f01ad886902ee279d622c2bf05df5"), looks := false }, kinds := [], alts := [], laidByText := true, laidKinds := [.data, .data, .data], laidTests := true, laidLooks := .later }
def FractionFieldCardSaid : Prop := Claim7.holds Tryd.pinned (.plain (OpenSpec.ofChange fractionFieldSpec)) fractionFieldCard

/-- THE TIED CARD OF 'coinagelaw02.FractionQuotients'. -/
def fractionQuotientsCard : Claim7 := { stood := { row := fractionQuotientsRow, standIns := [], harness := (true, "c772ff3f2c2fa0c697c91b85f2eb2364f51f01ad886902ee279d622c2bf05df5"), looks := false }, kinds := [], alts := [], laidByText := true, laidKinds := [.data, .data, .data], laidTests := true, laidLooks := .later }
def FractionQuotientsCardSaid : Prop := Claim7.holds Tryd.pinned (.plain (OpenSpec.ofChange fractionQuotientsSpec)) fractionQuotientsCard

/-- THE TIED CARD OF 'coinagelaw02.FractionSums'. -/
def fractionSumsCard : Claim7 := { stood := { row := fractionSumsRow, standIns := [], harness := (true, "c772ff3f2c2fa0c697c91b85f2eb2364f51f01ad886902ee279d622c2bf05df5"), looks := false }, kinds := [], alts := [], laidByText := true, laidKinds := [.data, .data, .data], laidTests := true, laidLooks := .later }
def FractionSumsCardSaid : Prop := Claim7.holds Tryd.pinned (.plain (OpenSpec.ofChange fractionSumsSpec)) fractionSumsCard

/-- THE TIED CARD OF 'coinagelaw02.FractionOrder'. -/
def fractionOrderCard : Claim7 := { stood := { row := fractionOrderRow, standIns := [], harness := (true, "c772ff3f2c2fa0c697c91b85f2eb2364f51f01ad886902ee279d622c2bf05df5"), looks := false }, kinds := [], alts := [], laidByText := true, laidKinds := [.data, .data, .data], laidTests := true, laidLooks := .later }
def FractionOrderCardSaid : Prop := Claim7.holds Tryd.pinned (.plain (OpenSpec.ofChange fractionOrderSpec)) fractionOrderCard

/-- THE TIED CARD OF 'coinagelaw02.FractionMeans'. -/
def fractionMeansCard : Claim7 := { stood := { row := fractionMeansRow, standIns := [], harness := (true, "c772ff3f2c2fa0c697c91b85f2eb2364f51f01ad886902ee279d622c2bf05df5"), looks := false }, kinds := [], alts := [], laidByText := true, laidKinds := [.data, .data, .data], laidTests := true, laidLooks := .later }
def FractionMeansCardSaid : Prop := Claim7.holds Tryd.pinned (.plain (OpenSpec.ofChange fractionMeansSpec)) fractionMeansCard

/-- THE SECOND FORM's CARD OF 'coinagelaw02.FractionDecimals'. -/
def fractionDecimalsUptoCard : Claim7 := { stood := { row := fractionDecimalsUptoRow, standIns := [], harness := (true, "c772ff3f2c2fa0c697c91b85f2eb2364f51f01ad886902ee279d622c2bf05df5"), looks := false }, kinds := [], alts := [], laidByText := true, laidKinds := [.data, .data, .data], laidTests := true, laidLooks := .later }
def FractionDecimalsUptoCardSaid : Prop := Claim7.holds Tryd.pinned (.plain (OpenSpec.upto fractionDecimalsSpec)) fractionDecimalsUptoCard

/-- THE SECOND FORM's CARD OF 'coinagelaw02.FractionNorms'. -/
def fractionNormsUptoCard : Claim7 := { stood := { row := fractionNormsUptoRow, standIns := [], harness := (true, "c772ff3f2c2fa0c697c91b85f2eb2364f51f01ad886902ee279d622c2bf05df5"), looks := false }, kinds := [], alts := [], laidByText := true, laidKinds := [.data, .data, .data], laidTests := true, laidLooks := .later }
def FractionNormsUptoCardSaid : Prop := Claim7.holds Tryd.pinned (.plain (OpenSpec.upto fractionNormsSpec)) fractionNormsUptoCard

/-- THE SECOND FORM's CARD OF 'coinagelaw02.FractionField'. -/
def fractionFieldUptoCard : Claim7 := { stood := { row := fractionFieldUptoRow, standIns := [], harness := (true, "c772ff3f2c2fa0c697c91b85f2eb2364f51f01ad886902ee279d622c2bf05df5"), looks := false }, kinds := [], alts := [], laidByText := true, laidKinds := [.data, .data, .data], laidTests := true, laidLooks := .later }
def FractionFieldUptoCardSaid : Prop := Claim7.holds Tryd.pinned (.plain (OpenSpec.upto fractionFieldSpec)) fractionFieldUptoCard

/-- THE SECOND FORM's CARD OF 'coinagelaw02.FractionQuotients'. -/
def fractionQuotientsUptoCard : Claim7 := { stood := { row := fractionQuotientsUptoRow, standIns := [], harness := (true, "c772ff3f2c2fa0c697c91b85f2eb2364f51f01ad886902ee279d622c2bf05df5"), looks := false }, kinds := [], alts := [], laidByText := true, laidKinds := [.data, .data, .data], laidTests := true, laidLooks := .later }
def FractionQuotientsUptoCardSaid : Prop := Claim7.holds Tryd.pinned (.plain (OpenSpec.upto fractionQuotientsSpec)) fractionQuotientsUptoCard

/-- THE SECOND FORM's CARD OF 'coinagelaw02.FractionSums'. -/
def fractionSumsUptoCard : Claim7 := { stood := { row := fractionSumsUptoRow, standIns := [], harness := (true, "c772ff3f2c2fa0c697c91b85f2eb2364f51f01ad886902ee279d622c2bf05df5"), looks := false }, kinds := [], alts := [], laidByText := true, laidKinds := [.data, .data, .data], laidTests := true, laidLooks := .later }
def FractionSumsUptoCardSaid : Prop := Claim7.holds Tryd.pinned (.plain (OpenSpec.upto fractionSumsSpec)) fractionSumsUptoCard

/-- THE SECOND FORM's CARD OF 'coinagelaw02.FractionOrder'. -/
def fractionOrderUptoCard : Claim7 := { stood := { row := fractionOrderUptoRow, standIns := [], harness := (true, "c772ff3f2c2fa0c697c91b85f2eb2364f51f01ad886902ee279d622c2bf05df5"), looks := false }, kinds := [], alts := [], laidByText := true, laidKinds := [.data, .data, .data], laidTests := true, laidLooks := .later }
def FractionOrderUptoCardSaid : Prop := Claim7.holds Tryd.pinned (.plain (OpenSpec.upto fractionOrderSpec)) fractionOrderUptoCard

/-- THE SECOND FORM's CARD OF 'coinagelaw02.FractionMeans'. -/
def fractionMeansUptoCard : Claim7 := { stood := { row := fractionMeansUptoRow, standIns := [], harness := (true, "c772ff3f2c2fa0c697c91b85f2eb2364f51f01ad886902ee279d622c2bf05df5"), looks := false }, kinds := [], alts := [], laidByText := true, laidKinds := [.data, .data, .data], laidTests := true, laidLooks := .later }
def FractionMeansUptoCardSaid : Prop := Claim7.holds Tryd.pinned (.plain (OpenSpec.upto fractionMeansSpec)) fractionMeansUptoCard
end Rows
end Go.Proofs.YtfndbmflllmpgaaDoor
