/-
  DERIVED. GIVEN WITH THE SEED: THE CARDS: each row of YtlnajhochpbgpaaDoorRows.lean that lists a variable, with what it lists TIED to the program's text (the seventh form; the later family's looks); each row that meets fmt, with fmt's text TOLD by the authors' own Lean function (tested against real Go, not proved from fmt's source: count such statements apart). THE CARD IS WHAT COUNTS. Prove the row's statement (the work); the ties are given (YtlnajhochpbgpaaDoorTie.lean); close each card by the builder's one call (the guide's Derived/Test/ToyasCard.lean, 'card_holds'). Laid BY PROGRAM, IN A SANDBOX (cutbox-door.mjs). By AI agents, Wed Nov 11 2026. No macro, syntax, notation, axiom, sorry.
-/
import Derived.Test.YtlnajhochpbgpaaDoorRows
import GoSem.ClaimSeven
namespace Go.Proofs.YtlnajhochpbgpaaDoor
namespace Rows

/-- THE TIED CARD OF 'coinagelaw05.LabelTexts'. -/
def labelTextsCard : Claim7 := { stood := { row := labelTextsRow, standIns := [], harness := (true, "94fc3692b66d66530cad91dd9a908315f52bbbe04b3f5e4d22a574ccfbe5d98a"), looks := true }, kinds := [], alts := [], laidByText := true, laidKinds := [.data, .data, .data, .data, .sentinel, .sentinel, .pinned], laidTests := true, laidLooks := .later }
def LabelTextsCardSaid : Prop := Claim7.holds Tryd.pinned (.plain (OpenSpec.ofChange labelTextsSpec)) labelTextsCard

/-- THE TIED CARD OF 'coinagelaw05.LabelParses'. -/
def labelParsesCard : Claim7 := { stood := { row := labelParsesRow, standIns := [], harness := (true, "94fc3692b66d66530cad91dd9a908315f52bbbe04b3f5e4d22a574ccfbe5d98a"), looks := true }, kinds := [], alts := [], laidByText := true, laidKinds := [.data, .data, .data, .data, .sentinel, .sentinel, .pinned], laidTests := true, laidLooks := .later }
def LabelParsesCardSaid : Prop := Claim7.holds Tryd.pinned (.plain (OpenSpec.ofChange labelParsesSpec)) labelParsesCard

/-- THE TIED CARD OF 'coinagelaw05.LabelCompares'. -/
def labelComparesCard : Claim7 := { stood := { row := labelComparesRow, standIns := [], harness := (true, "94fc3692b66d66530cad91dd9a908315f52bbbe04b3f5e4d22a574ccfbe5d98a"), looks := true }, kinds := [], alts := [], laidByText := true, laidKinds := [.data, .data, .data, .data, .sentinel, .sentinel, .pinned], laidTests := true, laidLooks := .later }
def LabelComparesCardSaid : Prop := Claim7.holds Tryd.pinned (.plain (OpenSpec.ofChange labelComparesSpec)) labelComparesCard

/-- THE TIED CARD OF 'coinagelaw05.LabelDifferent'. -/
def labelDifferentCard : Claim7 := { stood := { row := labelDifferentRow, standIns := [], harness := (true, "94fc3692b66d66530cad91dd9a908315f52bbbe04b3f5e4d22a574ccfbe5d98a"), looks := true }, kinds := [], alts := [], laidByText := true, laidKinds := [.data, .data, .data, .data, .sentinel, .sentinel, .pinned], laidTests := true, laidLooks := .later }
def LabelDifferentCardSaid : Prop := Claim7.holds Tryd.pinned (.plain (OpenSpec.ofChange labelDifferentSpec)) labelDifferentCard

/-- THE TIED CARD OF 'coinagelaw05.LabelRuns'. -/
def labelRunsCard : Claim7 := { stood := { row := labelRunsRow, standIns := [], harness := (true, "94fc3692b66d66530cad91dd9a908315f52bbbe04b3f5e4d22a574ccfbe5d98a"), looks := true }, kinds := [], alts := [], laidByText := true, laidKinds := [.data, .data, .data, .data, .sentinel, .sentinel, .pinned], laidTests := true, laidLooks := .later }
def LabelRunsCardSaid : Prop := Claim7.holds Tryd.pinned (.plain (OpenSpec.ofChange labelRunsSpec)) labelRunsCard

/-- THE TIED CARD OF 'coinagelaw05.LabelExpands'. -/
def labelExpandsCard : Claim7 := { stood := { row := labelExpandsRow, standIns := [], harness := (true, "94fc3692b66d66530cad91dd9a908315f52bbbe04b3f5e4d22a574ccfbe5d98a"), looks := true }, kinds := [], alts := [], laidByText := true, laidKinds := [.data, .data, .data, .data, .sentinel, .sentinel, .pinned], laidTests := true, laidLooks := .later }
def LabelExpandsCardSaid : Prop := Claim7.holds Tryd.pinned (.plain (OpenSpec.ofChange labelExpandsSpec)) labelExpandsCard

/-- THE TIED CARD OF 'coinagelaw05.LabelShort'. -/
def labelShortCard : Claim7 := { stood := { row := labelShortRow, standIns := [], harness := (true, "94fc3692b66d66530cad91dd9a908315f52bbbe04b3f5e4d22a574ccfbe5d98a"), looks := true }, kinds := [], alts := [], laidByText := true, laidKinds := [.data, .data, .data, .data, .sentinel, .sentinel, .pinned], laidTests := true, laidLooks := .later }
def LabelShortCardSaid : Prop := Claim7.holds Tryd.pinned (.plain (OpenSpec.ofChange labelShortSpec)) labelShortCard

/-- THE TIED CARD OF 'coinagelaw05.LabelPairings'. -/
def labelPairingsCard : Claim7 := { stood := { row := labelPairingsRow, standIns := [], harness := (true, "94fc3692b66d66530cad91dd9a908315f52bbbe04b3f5e4d22a574ccfbe5d98a"), looks := true }, kinds := [], alts := [], laidByText := true, laidKinds := [.data, .data, .data, .data, .sentinel, .sentinel, .pinned], laidTests := true, laidLooks := .later }
def LabelPairingsCardSaid : Prop := Claim7.holds Tryd.pinned (.plain (OpenSpec.ofChange labelPairingsSpec)) labelPairingsCard

/-- THE SECOND FORM's CARD OF 'coinagelaw05.LabelTexts'. -/
def labelTextsUptoCard : Claim7 := { stood := { row := labelTextsUptoRow, standIns := [], harness := (true, "94fc3692b66d66530cad91dd9a908315f52bbbe04b3f5e4d22a574ccfbe5d98a"), looks := true }, kinds := [], alts := [], laidByText := true, laidKinds := [.data, .data, .data, .data, .sentinel, .sentinel, .pinned], laidTests := true, laidLooks := .later }
def LabelTextsUptoCardSaid : Prop := Claim7.holds Tryd.pinned (.plain (OpenSpec.upto labelTextsSpec)) labelTextsUptoCard

/-- THE SECOND FORM's CARD OF 'coinagelaw05.LabelParses'. -/
def labelParsesUptoCard : Claim7 := { stood := { row := labelParsesUptoRow, standIns := [], harness := (true, "94fc3692b66d66530cad91dd9a908315f52bbbe04b3f5e4d22a574ccfbe5d98a"), looks := true }, kinds := [], alts := [], laidByText := true, laidKinds := [.data, .data, .data, .data, .sentinel, .sentinel, .pinned], laidTests := true, laidLooks := .later }
def LabelParsesUptoCardSaid : Prop := Claim7.holds Tryd.pinned (.plain (OpenSpec.upto labelParsesSpec)) labelParsesUptoCard

/-- THE SECOND FORM's CARD OF 'coinagelaw05.LabelCompares'. -/
def labelComparesUptoCard : Claim7 := { stood := { row := labelComparesUptoRow, standIns := [], harness := (true, "94fc3692b66d66530cad91dd9a908315f52bbbe04b3f5e4d22a574ccfbe5d98a"), looks := true }, kinds := [], alts := [], laidByText := true, laidKinds := [.data, .data, .data, .data, .sentinel, .sentinel, .pinned], laidTests := true, laidLooks := .later }
def LabelComparesUptoCardSaid : Prop := Claim7.holds Tryd.pinned (.plain (OpenSpec.upto labelComparesSpec)) labelComparesUptoCard

/-- THE SECOND FORM's CARD OF 'coinagelaw05.LabelDifferent'. -/
def labelDifferentUptoCard : Claim7 := { stood := { row := labelDifferentUptoRow, standIns := [], harness := (true, "94fc3692b66d66530cad91dd9a908315f52bbbe04b3f5e4d22a574ccfbe5d98a"), looks := true }, kinds := [], alts := [], laidByText := true, laidKinds := [.data, .data, .data, .data, .sentinel, .sentinel, .pinned], laidTests := true, laidLooks := .later }
def LabelDifferentUptoCardSaid : Prop := Claim7.holds Tryd.pinned (.plain (OpenSpec.upto labelDifferentSpec)) labelDifferentUptoCard

/-- THE SECOND FORM's CARD OF 'coinagelaw05.LabelRuns'. -/
def labelRunsUptoCard : Claim7 := { stood := { row := labelRunsUptoRow, standIns := [], harness := (true, "94fc3692b66d66530cad91dd9a908315f52bbbe04b3f5e4d22a574ccfbe5d98a"), looks := true }, kinds := [], alts := [], laidByText := true, laidKinds := [.data, .data, .data, .data, .sentinel, .sentinel, .pinned], laidTests := true, laidLooks := .later }
def LabelRunsUptoCardSaid : Prop := Claim7.holds Tryd.pinned (.plain (OpenSpec.upto labelRunsSpec)) labelRunsUptoCard

/-- THE SECOND FORM's CARD OF 'coinagelaw05.LabelExpands'. -/
def labelExpandsUptoCard : Claim7 := { stood := { row := labelExpandsUptoRow, standIns := [], harness := (true, "94fc3692b66d66530cad91dd9a908315f52bbbe04b3f5e4d22a574ccfbe5d98a"), looks := true }, kinds := [], alts := [], laidByText := true, laidKinds := [.data, .data, .data, .data, .sentinel, .sentinel, .pinned], laidTests := true, laidLooks := .later }
def LabelExpandsUptoCardSaid : Prop := Claim7.holds Tryd.pinned (.plain (OpenSpec.upto labelExpandsSpec)) labelExpandsUptoCard

/-- THE SECOND FORM's CARD OF 'coinagelaw05.LabelShort'. -/
def labelShortUptoCard : Claim7 := { stood := { row := labelShortUptoRow, standIns := [], harness := (true, "94fc3692b66d66530cad91dd9a908315f52bbbe04b3f5e4d22a574ccfbe5d98a"), looks := true }, kinds := [], alts := [], laidByText := true, laidKinds := [.data, .data, .data, .data, .sentinel, .sentinel, .pinned], laidTests := true, laidLooks := .later }
def LabelShortUptoCardSaid : Prop := Claim7.holds Tryd.pinned (.plain (OpenSpec.upto labelShortSpec)) labelShortUptoCard

/-- THE SECOND FORM's CARD OF 'coinagelaw05.LabelPairings'. -/
def labelPairingsUptoCard : Claim7 := { stood := { row := labelPairingsUptoRow, standIns := [], harness := (true, "94fc3692b66d66530cad91dd9a908315f52bbbe04b3f5e4d22a574ccfbe5d98a"), looks := true }, kinds := [], alts := [], laidByText := true, laidKinds := [.data, .data, .data, .data, .sentinel, .sentinel, .pinned], laidTests := true, laidLooks := .later }
def LabelPairingsUptoCardSaid : Prop := Claim7.holds Tryd.pinned (.plain (OpenSpec.upto labelPairingsSpec)) labelPairingsUptoCard
end Rows
end Go.Proofs.YtlnajhochpbgpaaDoor
