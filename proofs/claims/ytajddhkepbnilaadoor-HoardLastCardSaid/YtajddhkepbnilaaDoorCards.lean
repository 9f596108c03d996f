/-
  DERIVED. GIVEN WITH THE SEED: THE CARDS: each row of YtajddhkepbnilaaDoorRows.lean that lists a variable, with what it lists TIED to the program's text (the seventh form; the later family's looks); each row that meets fmt, with fmt's text TOLD by the authors' own Lean function (tested against real Go, not proved from fmt's source: count such statements apart). THE CARD IS WHAT COUNTS. Prove the row's statement (the work); the ties are given (YtajddhkepbnilaaDoorTie.lean); close each card by the builder's one call (the guide's Derived/Test/ToyasCard.lean, 'card_holds'). Laid BY PROGRAM, IN A SANDBOX (cutbox-door.mjs). By AI agents, Wed Nov 11 2026. No macro, syntax, notation, axiom, sorry.
-/
import Derived.Test.YtajddhkepbnilaaDoorRows
import GoSem.ClaimSeven
namespace Go.Proofs.YtajddhkepbnilaaDoor
namespace Rows

/-- THE TIED CARD OF 'coinagelaw32.HoardNumbers'. -/
def hoardNumbersCard : Claim7 := { stood := { row := hoardNumbersRow, standIns := [], harness := (true, "4e1cbc145f4d39e83b4a5e604098bf68dc94fc357b10035971d2f612804a22df"), looks := false }, kinds := [], alts := [], laidByText := true, laidKinds := [.data, .data, .data], laidTests := true, laidLooks := .later }
def HoardNumbersCardSaid : Prop := Claim7.holds Tryd.pinned (.plain (OpenSpec.ofChange hoardNumbersSpec)) hoardNumbersCard

/-- THE TIED CARD OF 'coinagelaw32.HoardLatest'. -/
def hoardLatestCard : Claim7 := { stood := { row := hoardLatestRow, standIns := [], harness := (true, "4e1cbc145f4d39e83b4a5e604098bf68dc94fc357b10035971d2f612804a22df"), looks := false }, kinds := [], alts := [], laidByText := true, laidKinds := [.data, .data, .data], laidTests := true, laidLooks := .later }
def HoardLatestCardSaid : Prop := Claim7.holds Tryd.pinned (.plain (OpenSpec.ofChange hoardLatestSpec)) hoardLatestCard

/-- THE TIED CARD OF 'coinagelaw32.HoardAdds'. -/
def hoardAddsCard : Claim7 := { stood := { row := hoardAddsRow, standIns := [], harness := (true, "4e1cbc145f4d39e83b4a5e604098bf68dc94fc357b10035971d2f612804a22df"), looks := false }, kinds := [], alts := [], laidByText := true, laidKinds := [.data, .data, .data], laidTests := true, laidLooks := .later }
def HoardAddsCardSaid : Prop := Claim7.holds Tryd.pinned (.plain (OpenSpec.ofChange hoardAddsSpec)) hoardAddsCard

/-- THE TIED CARD OF 'coinagelaw32.HoardLast'. -/
def hoardLastCard : Claim7 := { stood := { row := hoardLastRow, standIns := [], harness := (true, "4e1cbc145f4d39e83b4a5e604098bf68dc94fc357b10035971d2f612804a22df"), looks := false }, kinds := [], alts := [], laidByText := true, laidKinds := [.data, .data, .data], laidTests := true, laidLooks := .later }
def HoardLastCardSaid : Prop := Claim7.holds Tryd.pinned (.plain (OpenSpec.ofChange hoardLastSpec)) hoardLastCard

/-- THE TIED CARD OF 'coinagelaw32.HoardMerges'. -/
def hoardMergesCard : Claim7 := { stood := { row := hoardMergesRow, standIns := [], harness := (true, "4e1cbc145f4d39e83b4a5e604098bf68dc94fc357b10035971d2f612804a22df"), looks := false }, kinds := [], alts := [], laidByText := true, laidKinds := [.data, .data, .data], laidTests := true, laidLooks := .later }
def HoardMergesCardSaid : Prop := Claim7.holds Tryd.pinned (.plain (OpenSpec.ofChange hoardMergesSpec)) hoardMergesCard

/-- THE TIED CARD OF 'coinagelaw32.HoardShares'. -/
def hoardSharesCard : Claim7 := { stood := { row := hoardSharesRow, standIns := [], harness := (true, "4e1cbc145f4d39e83b4a5e604098bf68dc94fc357b10035971d2f612804a22df"), looks := false }, kinds := [], alts := [], laidByText := true, laidKinds := [.data, .data, .data], laidTests := true, laidLooks := .later }
def HoardSharesCardSaid : Prop := Claim7.holds Tryd.pinned (.plain (OpenSpec.ofChange hoardSharesSpec)) hoardSharesCard

/-- THE SECOND FORM's CARD OF 'coinagelaw32.HoardNumbers'. -/
def hoardNumbersUptoCard : Claim7 := { stood := { row := hoardNumbersUptoRow, standIns := [], harness := (true, "4e1cbc145f4d39e83b4a5e604098bf68dc94fc357b10035971d2f612804a22df"), looks := false }, kinds := [], alts := [], laidByText := true, laidKinds := [.data, .data, .data], laidTests := true, laidLooks := .later }
def HoardNumbersUptoCardSaid : Prop := Claim7.holds Tryd.pinned (.plain (OpenSpec.upto hoardNumbersSpec)) hoardNumbersUptoCard

/-- THE SECOND FORM's CARD OF 'coinagelaw32.HoardLatest'. -/
def hoardLatestUptoCard : Claim7 := { stood := { row := hoardLatestUptoRow, standIns := [], harness := (true, "4e1cbc145f4d39e83b4a5e604098bf68dc94fc357b10035971d2f612804a22df"), looks := false }, kinds := [], alts := [], laidByText := true, laidKinds := [.data, .data, .data], laidTests := true, laidLooks := .later }
def HoardLatestUptoCardSaid : Prop := Claim7.holds Tryd.pinned (.plain (OpenSpec.upto hoardLatestSpec)) hoardLatestUptoCard

/-- THE SECOND FORM's CARD OF 'coinagelaw32.HoardAdds'. -/
def hoardAddsUptoCard : Claim7 := { stood := { row := hoardAddsUptoRow, standIns := [], harness := (true, "4e1cbc145f4d39e83b4a5e604098bf68dc94fc357b10035971d2f612804a22df"), looks := false }, kinds := [], alts := [], laidByText := true, laidKinds := [.data, .data, .data], laidTests := true, laidLooks := .later }
def HoardAddsUptoCardSaid : Prop := Claim7.holds Tryd.pinned (.plain (OpenSpec.upto hoardAddsSpec)) hoardAddsUptoCard

/-- THE SECOND FORM's CARD OF 'coinagelaw32.HoardLast'. -/
def hoardLastUptoCard : Claim7 := { stood := { row := hoardLastUptoRow, standIns := [], harness := (true, "4e1cbc145f4d39e83b4a5e604098bf68dc94fc357b10035971d2f612804a22df"), looks := false }, kinds := [], alts := [], laidByText := true, laidKinds := [.data, .data, .data], laidTests := true, laidLooks := .later }
def HoardLastUptoCardSaid : Prop := Claim7.holds Tryd.pinned (.plain (OpenSpec.upto hoardLastSpec)) hoardLastUptoCard

/-- THE SECOND FORM's CARD OF 'coinagelaw32.HoardMerges'. -/
def hoardMergesUptoCard : Claim7 := { stood := { row := hoardMergesUptoRow, standIns := [], harness := (true, "4e1cbc145f4d39e83b4a5e604098bf68dc94fc357b10035971d2f612804a22df"), looks := false }, kinds := [], alts := [], laidByText := true, laidKinds := [.data, .data, .data], laidTests := true, laidLooks := .later }
def HoardMergesUptoCardSaid : Prop := Claim7.holds Tryd.pinned (.plain (OpenSpec.upto hoardMergesSpec)) hoardMergesUptoCard

/-- THE SECOND FORM's CARD OF 'coinagelaw32.HoardShares'. -/
def hoardSharesUptoCard : Claim7 := { stood := { row := hoardSharesUptoRow, standIns := [], harness := (true, "4e1cbc145f4d39e83b4a5e604098bf68dc94fc357b10035971d2f612804a22df"), looks := false }, kinds := [], alts := [], laidByText := true, laidKinds := [.data, .data, .data], laidTests := true, laidLooks := .later }
def HoardSharesUptoCardSaid : Prop := Claim7.holds Tryd.pinned (.plain (OpenSpec.upto hoardSharesSpec)) hoardSharesUptoCard
end Rows
end Go.Proofs.YtajddhkepbnilaaDoor
