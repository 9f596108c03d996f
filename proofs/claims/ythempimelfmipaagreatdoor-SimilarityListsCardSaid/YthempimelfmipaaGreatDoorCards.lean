/-
  DERIVED. GIVEN WITH THE SEED: THE CARDS: each row of YthempimelfmipaaGreatDoorRows.lean that lists a variable, with what it lists TIED to the program's text (the seventh form; the later family's looks); each row that meets fmt, with fmt's text TOLD by the authors' own Lean function (tested against real Go, not proved from fmt's source: count such statements apart). THE CARD IS WHAT COUNTS. Prove the row's statement (the work); the ties are given (YthempimelfmipaaGreatDoorTie.lean); close each card by the builder's one call (the guide's Derived/Test/ToyasCard.lean, 'card_holds'). Laid BY PROGRAM, IN A SANDBOX (cutbox-door.mjs). By AI agents, Wed Nov 11 2026. No macro, syntax, notation, axiom, sorry.
-/
import Derived.Test.YthempimelfmipaaGreatDoorRows
import GoSem.ClaimSeven
namespace Go.Proofs.YthempimelfmipaaGreatDoor
namespace Rows

/-- THE TIED CARD OF 'coinagelaw36.SimilarityRange'. -/
def similarityRangeCard : Claim7 := { stood := { row := similarityRangeRow, standIns := [], harness := (true, "e8a63e75366c56ffc657a11156ed77ef73f811ece2eb758bae933995f4f70aa0"), looks := false }, kinds := [], alts := [], laidByText := true, laidKinds := [.data, .data, .data], laidTests := true, laidLooks := .later }
def SimilarityRangeCardSaid : Prop := Claim7.holds Tryz.pinned (.plain (OpenSpec.ofChange similarityRangeSpec)) similarityRangeCard

/-- THE TIED CARD OF 'coinagelaw36.SimilarityScales'. -/
def similarityScalesCard : Claim7 := { stood := { row := similarityScalesRow, standIns := [], harness := (true, "e8a63e75366c56ffc657a11156ed77ef73f811ece2eb758bae933995f4f70aa0"), looks := false }, kinds := [], alts := [], laidByText := true, laidKinds := [.data, .data, .data], laidTests := true, laidLooks := .later }
def SimilarityScalesCardSaid : Prop := Claim7.holds Tryz.pinned (.plain (OpenSpec.ofChange similarityScalesSpec)) similarityScalesCard

/-- THE TIED CARD OF 'coinagelaw36.SimilarityEvents'. -/
def similarityEventsCard : Claim7 := { stood := { row := similarityEventsRow, standIns := [], harness := (true, "e8a63e75366c56ffc657a11156ed77ef73f811ece2eb758bae933995f4f70aa0"), looks := false }, kinds := [], alts := [], laidByText := true, laidKinds := [.data, .data, .data], laidTests := true, laidLooks := .later }
def SimilarityEventsCardSaid : Prop := Claim7.holds Tryz.pinned (.plain (OpenSpec.ofChange similarityEventsSpec)) similarityEventsCard

/-- THE TIED CARD OF 'coinagelaw36.SimilarityBest'. -/
def similarityBestCard : Claim7 := { stood := { row := similarityBestRow, standIns := [], harness := (true, "e8a63e75366c56ffc657a11156ed77ef73f811ece2eb758bae933995f4f70aa0"), looks := false }, kinds := [], alts := [], laidByText := true, laidKinds := [.data, .data, .data], laidTests := true, laidLooks := .later }
def SimilarityBestCardSaid : Prop := Claim7.holds Tryz.pinned (.plain (OpenSpec.ofChange similarityBestSpec)) similarityBestCard

/-- THE TIED CARD OF 'coinagelaw36.SimilarityPairs'. -/
def similarityPairsCard : Claim7 := { stood := { row := similarityPairsRow, standIns := [], harness := (true, "e8a63e75366c56ffc657a11156ed77ef73f811ece2eb758bae933995f4f70aa0"), looks := false }, kinds := [], alts := [], laidByText := true, laidKinds := [.data, .data, .data], laidTests := true, laidLooks := .later }
def SimilarityPairsCardSaid : Prop := Claim7.holds Tryz.pinned (.plain (OpenSpec.ofChange similarityPairsSpec)) similarityPairsCard

/-- THE TIED CARD OF 'coinagelaw36.SimilarityLists'. -/
def similarityListsCard : Claim7 := { stood := { row := similarityListsRow, standIns := [], harness := (true, "e8a63e75366c56ffc657a11156ed77ef73f811ece2eb758bae933995f4f70aa0"), looks := false }, kinds := [], alts := [], laidByText := true, laidKinds := [.data, .data, .data], laidTests := true, laidLooks := .later }
def SimilarityListsCardSaid : Prop := Claim7.holds Tryz.pinned (.plain (OpenSpec.ofChange similarityListsSpec)) similarityListsCard

/-- THE TIED CARD OF 'coinagelaw36.SimilarityNearest'. -/
def similarityNearestCard : Claim7 := { stood := { row := similarityNearestRow, standIns := [], harness := (true, "e8a63e75366c56ffc657a11156ed77ef73f811ece2eb758bae933995f4f70aa0"), looks := false }, kinds := [], alts := [], laidByText := true, laidKinds := [.data, .data, .data], laidTests := true, laidLooks := .later }
def SimilarityNearestCardSaid : Prop := Claim7.holds Tryz.pinned (.plain (OpenSpec.ofChange similarityNearestSpec)) similarityNearestCard

/-- THE TIED CARD OF 'coinagelaw36.SimilarityTriangle'. -/
def similarityTriangleCard : Claim7 := { stood := { row := similarityTriangleRow, standIns := [], harness := (true, "e8a63e75366c56ffc657a11156ed77ef73f811ece2eb758bae933995f4f70aa0"), looks := false }, kinds := [], alts := [], laidByText := true, laidKinds := [.data, .data, .data], laidTests := true, laidLooks := .later }
def SimilarityTriangleCardSaid : Prop := Claim7.holds Tryz.pinned (.plain (OpenSpec.ofChange similarityTriangleSpec)) similarityTriangleCard

/-- THE SECOND FORM's CARD OF 'coinagelaw36.SimilarityRange'. -/
def similarityRangeUptoCard : Claim7 := { stood := { row := similarityRangeUptoRow, standIns := [], harness := (true, "e8a63e75366c56ffc657a11156ed77ef73f811ece2eb758bae933995f4f70aa0"), looks := false }, kinds := [], alts := [], laidByText := true, laidKinds := [.data, .data, .data], laidTests := true, laidLooks := .later }
def SimilarityRangeUptoCardSaid : Prop := Claim7.holds Tryz.pinned (.plain (OpenSpec.upto similarityRangeSpec)) similarityRangeUptoCard

/-- THE SECOND FORM's CARD OF 'coinagelaw36.SimilarityScales'. -/
def similarityScalesUptoCard : Claim7 := { stood := { row := similarityScalesUptoRow, standIns := [], harness := (true, "e8a63e75366c56ffc657a11156ed77ef73f811ece2eb758bae933995f4f70aa0"), looks := false }, kinds := [], alts := [], laidByText := true, laidKinds := [.data, .data, .data], laidTests := true, laidLooks := .later }
def SimilarityScalesUptoCardSaid : Prop := Claim7.holds Tryz.pinned (.plain (OpenSpec.upto similarityScalesSpec)) similarityScalesUptoCard

/-- THE SECOND FORM's CARD OF 'coinagelaw36.SimilarityEvents'. -/
def similarityEventsUptoCard : Claim7 := { stood := { row := similarityEventsUptoRow, standIns := [], harness := (true, "e8a63e75366c56ffc657a11156ed77ef73f811ece2eb758bae933995f4f70aa0"), looks := false }, kinds := [], alts := [], laidByText := true, laidKinds := [.data, .data, .data], laidTests := true, laidLooks := .later }
def SimilarityEventsUptoCardSaid : Prop := Claim7.holds Tryz.pinned (.plain (OpenSpec.upto similarityEventsSpec)) similarityEventsUptoCard

/-- THE SECOND FORM's CARD OF 'coinagelaw36.SimilarityBest'. -/
def similarityBestUptoCard : Claim7 := { stood := { row := similarityBestUptoRow, standIns := [], harness := (true, "e8a63e75366c56ffc657a11156ed77ef73f811ece2eb758bae933995f4f70aa0"), looks := false }, kinds := [], alts := [], laidByText := true, laidKinds := [.data, .data, .data], laidTests := true, laidLooks := .later }
def SimilarityBestUptoCardSaid : Prop := Claim7.holds Tryz.pinned (.plain (OpenSpec.upto similarityBestSpec)) similarityBestUptoCard

/-- THE SECOND FORM's CARD OF 'coinagelaw36.SimilarityPairs'. -/
def similarityPairsUptoCard : Claim7 := { stood := { row := similarityPairsUptoRow, standIns := [], harness := (true, "e8a63e75366c56ffc657a11156ed77ef73f811ece2eb758bae933995f4f70aa0"), looks := false }, kinds := [], alts := [], laidByText := true, laidKinds := [.data, .data, .data], laidTests := true, laidLooks := .later }
def SimilarityPairsUptoCardSaid : Prop := Claim7.holds Tryz.pinned (.plain (OpenSpec.upto similarityPairsSpec)) similarityPairsUptoCard

/-- THE SECOND FORM's CARD OF 'coinagelaw36.SimilarityLists'. -/
def similarityListsUptoCard : Claim7 := { stood := { row := similarityListsUptoRow, standIns := [], harness := (true, "e8a63e75366c56ffc657a11156ed77ef73f811ece2eb758bae933995f4f70aa0"), looks := false }, kinds := [], alts := [], laidByText := true, laidKinds := [.data, .data, .data], laidTests := true, laidLooks := .later }
def SimilarityListsUptoCardSaid : Prop := Claim7.holds Tryz.pinned (.plain (OpenSpec.upto similarityListsSpec)) similarityListsUptoCard

/-- THE SECOND FORM's CARD OF 'coinagelaw36.SimilarityNearest'. -/
def similarityNearestUptoCard : Claim7 := { stood := { row := similarityNearestUptoRow, standIns := [], harness := (true, "e8a63e75366c56ffc657a11156ed77ef73f811ece2eb758bae933995f4f70aa0"), looks := false }, kinds := [], alts := [], laidByText := true, laidKinds := [.data, .data, .data], laidTests := true, laidLooks := .later }
def SimilarityNearestUptoCardSaid : Prop := Claim7.holds Tryz.pinned (.plain (OpenSpec.upto similarityNearestSpec)) similarityNearestUptoCard

/-- THE SECOND FORM's CARD OF 'coinagelaw36.SimilarityTriangle'. -/
def similarityTriangleUptoCard : Claim7 := { stood := { row := similarityTriangleUptoRow, standIns := [], harness := (true, "e8a63e75366c56ffc657a11156ed77ef73f811ece2eb758bae933995f4f70aa0"), looks := false }, kinds := [], alts := [], laidByText := true, laidKinds := [.data, .data, .data], laidTests := true, laidLooks := .later }
def SimilarityTriangleUptoCardSaid : Prop := Claim7.holds Tryz.pinned (.plain (OpenSpec.upto similarityTriangleSpec)) similarityTriangleUptoCard
end Rows
end Go.Proofs.YthempimelfmipaaGreatDoor
