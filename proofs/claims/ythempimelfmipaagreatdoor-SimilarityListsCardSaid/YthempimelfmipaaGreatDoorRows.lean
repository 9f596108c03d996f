/-
  NARROWER THAN 'FOR EVERY INPUT', by the rows' own cells (each row's printed sentence says how): SimilarityRange: laid · SimilarityScales: laid · SimilarityEvents: laid · SimilarityBest: laid · SimilarityPairs: laid · SimilarityLists: laid · SimilarityNearest: laid · SimilarityTriangle: laid.
  DERIVED. THE GIVEN ROWS OF THIS SEAT. 8 by the template 'for every input the law returns true; each argument reads behind the call as it read before'; 0 by the template 'total and deterministic' (their statements: YthempimelfmipaaGreatDoorTotals.lean).
  GIVEN WITH THE SEED: the statements are not yours to turn. If you find one false, say at which input.
  Laid BY PROGRAM, IN A SANDBOX (cutbox-rows.mjs): the forced cells as the released guide's own fill.sh prints them over the translation f6f065e42de9aff8… (all of the seat's roots in one cut). By AI agents, Wed Nov 11 2026. No macro, syntax, notation, axiom, sorry.
-/
import Derived.Test.YthempimelfmipaaGreatDoorChecked
import GoSem.Claim
import GoSem.ClaimJoined
import GoSem.ClaimMapViews
import Derived.JoinedTies
import Derived.KernelRfl
namespace Go.Proofs.YthempimelfmipaaGreatDoor
/- THE CELL 'sum', in the pinned program and in every row, IS THE sha256 OF THE DUMP (.gsa) THAT YthempimelfmipaaGreatDoorProg.lean LOADS. Nothing in Lean hashes anything: it is a label: what it is worth is what the hold of that sum in a sandbox is worth. -/
noncomputable def Tryz.pinned : Pinned := { name := "ythempimelfmipaagreatdoor", sum := "f6f065e42de9aff80c316c2e80fa9a3b38ba945815a867e119706962768b8838", checked := Tryz.checked }
namespace Rows
def none {H : Type} : Left H := { results := [], args := [] }

/- WHAT THE LISTED PACKAGE-LEVEL VARIABLES READ AS WHEN THE CALL BEGINS. Each datum BY PROGRAM (the guide's laid-datum.mjs) off the statement by which the dump's own 'gosem.cut.vars' lays the variable. In a bare row this is a premise. The card (YthempimelfmipaaGreatDoorCards.lean) ties it to the program's text. -/
def laid_math_bits_deBruijn32tab {H : Type} : DataW H := .agg [.lit (.int .u8 0), .lit (.int .u8 1), .lit (.int .u8 28), .lit (.int .u8 2), .lit (.int .u8 29), .lit (.int .u8 14), .lit (.int .u8 24), .lit (.int .u8 3), .lit (.int .u8 30), .lit (.int .u8 22), .lit (.int .u8 20), .lit (.int .u8 15), .lit (.int .u8 25), .lit (.int .u8 17), .lit (.int .u8 4), .lit (.int .u8 8), .lit (.int .u8 31), .lit (.int .u8 27), .lit (.int .u8 13), .lit (.int .u8 23), .lit (.int .u8 21), .lit (.int .u8 19), .lit (.int .u8 16), .lit (.int .u8 7), .lit (.int .u8 26), .lit (.int .u8 12), .lit (.int .u8 18), .lit (.int .u8 6), .lit (.int .u8 11), .lit (.int .u8 5), .lit (.int .u8 10), .lit (.int .u8 9)]
def laid_math_bits_deBruijn64tab {H : Type} : DataW H := .agg [.lit (.int .u8 0), .lit (.int .u8 1), .lit (.int .u8 56), .lit (.int .u8 2), .lit (.int .u8 57), .lit (.int .u8 49), .lit (.int .u8 28), .lit (.int .u8 3), .lit (.int .u8 61), .lit (.int .u8 58), .lit (.int .u8 42), .lit (.int .u8 50), .lit (.int .u8 38), .lit (.int .u8 29), .lit (.int .u8 17), .lit (.int .u8 4), .lit (.int .u8 62), .lit (.int .u8 47), .lit (.int .u8 59), .lit (.int .u8 36), .lit (.int .u8 45), .lit (.int .u8 43), .lit (.int .u8 51), .lit (.int .u8 22), .lit (.int .u8 53), .lit (.int .u8 39), .lit (.int .u8 33), .lit (.int .u8 30), .lit (.int .u8 24), .lit (.int .u8 18), .lit (.int .u8 12), .lit (.int .u8 5), .lit (.int .u8 63), .lit (.int .u8 55), .lit (.int .u8 48), .lit (.int .u8 27), .lit (.int .u8 60), .lit (.int .u8 41), .lit (.int .u8 37), .lit (.int .u8 16), .lit (.int .u8 46), .lit (.int .u8 35), .lit (.int .u8 44), .lit (.int .u8 21), .lit (.int .u8 52), .lit (.int .u8 32), .lit (.int .u8 23), .lit (.int .u8 11), .lit (.int .u8 54), .lit (.int .u8 26), .lit (.int .u8 40), .lit (.int .u8 15), .lit (.int .u8 34), .lit (.int .u8 20), .lit (.int .u8 31), .lit (.int .u8 10), .lit (.int .u8 25), .lit (.int .u8 14), .lit (.int .u8 19), .lit (.int .u8 9), .lit (.int .u8 13), .lit (.int .u8 8), .lit (.int .u8 7), .lit (.int .u8 6)]
def laid_internal_strconv_uint64pow10 {H : Type} : DataW H := .agg [.lit (.int .u64 1), .lit (.int .u64 10), .lit (.int .u64 100), .lit (.int .u64 1000), .lit (.int .u64 10000), .lit (.int .u64 100000), .lit (.int .u64 1000000), .lit (.int .u64 10000000), .lit (.int .u64 100000000), .lit (.int .u64 1000000000), .lit (.int .u64 10000000000), .lit (.int .u64 100000000000), .lit (.int .u64 1000000000000), .lit (.int .u64 10000000000000), .lit (.int .u64 100000000000000), .lit (.int .u64 1000000000000000), .lit (.int .u64 10000000000000000), .lit (.int .u64 100000000000000000), .lit (.int .u64 1000000000000000000), .lit (.int .u64 10000000000000000000)]

/-- 'coinagelaw36.SimilarityRange': WHATEVER THE INPUT: true; the input reads as it did. -/
def similarityRangeSpec : ChangeSpec := { name := "similarityRange", fn := fun _ => fun
  | [d1, d2] => { results := [.lit (.bool true)], args := [d1, d2] }
  | _ => none }
def similarityRangeRow : OpenClaim := { program := "ythempimelfmipaagreatdoor", sum := "f6f065e42de9aff80c316c2e80fa9a3b38ba945815a867e119706962768b8838", func := "coinage/coinagelaw36.SimilarityRange", spec := "similarityRange", inPlace := ["internal/abi.NoEscape", "internal/bytealg.MakeNoZero"], unfollowed := true, recurses := true, named := ["internal/strconv.uint64pow10", "math/bits.deBruijn32tab", "math/bits.deBruijn64tab"], apart := false, laid := [("math/bits.deBruijn32tab", laid_math_bits_deBruijn32tab), ("math/bits.deBruijn64tab", laid_math_bits_deBruijn64tab), ("internal/strconv.uint64pow10", laid_internal_strconv_uint64pow10)] }
def SimilarityRangeSaid : Prop := similarityRangeRow.holds Tryz.pinned (OpenSpec.ofChange similarityRangeSpec)

/-- ITS FALSE NEIGHBOUR: 'it returns false'. Refute it at one input. -/
def similarityRangeWrong : ChangeSpec := { name := "similarityRange", fn := fun _ => fun
  | [d1, d2] => { results := [.lit (.bool false)], args := [d1, d2] }
  | _ => none }
def SimilarityRangeWrongFalsely : Prop := similarityRangeRow.holds Tryz.pinned (OpenSpec.ofChange similarityRangeWrong)

/-- 'coinagelaw36.SimilarityScales': WHATEVER THE INPUT: true; the input reads as it did. -/
def similarityScalesSpec : ChangeSpec := { name := "similarityScales", fn := fun _ => fun
  | [d1, d2, d3] => { results := [.lit (.bool true)], args := [d1, d2, d3] }
  | _ => none }
def similarityScalesRow : OpenClaim := { program := "ythempimelfmipaagreatdoor", sum := "f6f065e42de9aff80c316c2e80fa9a3b38ba945815a867e119706962768b8838", func := "coinage/coinagelaw36.SimilarityScales", spec := "similarityScales", inPlace := ["internal/abi.NoEscape", "internal/bytealg.MakeNoZero"], unfollowed := true, recurses := true, named := ["internal/strconv.uint64pow10", "math/bits.deBruijn32tab", "math/bits.deBruijn64tab"], apart := false, laid := [("math/bits.deBruijn32tab", laid_math_bits_deBruijn32tab), ("math/bits.deBruijn64tab", laid_math_bits_deBruijn64tab), ("internal/strconv.uint64pow10", laid_internal_strconv_uint64pow10)] }
def SimilarityScalesSaid : Prop := similarityScalesRow.holds Tryz.pinned (OpenSpec.ofChange similarityScalesSpec)

/-- ITS FALSE NEIGHBOUR: 'it returns false'. Refute it at one input. -/
def similarityScalesWrong : ChangeSpec := { name := "similarityScales", fn := fun _ => fun
  | [d1, d2, d3] => { results := [.lit (.bool false)], args := [d1, d2, d3] }
  | _ => none }
def SimilarityScalesWrongFalsely : Prop := similarityScalesRow.holds Tryz.pinned (OpenSpec.ofChange similarityScalesWrong)

/-- 'coinagelaw36.SimilarityEvents': WHATEVER THE INPUT: true; the input reads as it did. -/
def similarityEventsSpec : ChangeSpec := { name := "similarityEvents", fn := fun _ => fun
  | [d1, d2] => { results := [.lit (.bool true)], args := [d1, d2] }
  | _ => none }
def similarityEventsRow : OpenClaim := { program := "ythempimelfmipaagreatdoor", sum := "f6f065e42de9aff80c316c2e80fa9a3b38ba945815a867e119706962768b8838", func := "coinage/coinagelaw36.SimilarityEvents", spec := "similarityEvents", inPlace := ["internal/abi.NoEscape", "internal/bytealg.MakeNoZero"], unfollowed := true, recurses := true, named := ["internal/strconv.uint64pow10", "math/bits.deBruijn32tab", "math/bits.deBruijn64tab"], apart := false, laid := [("math/bits.deBruijn32tab", laid_math_bits_deBruijn32tab), ("math/bits.deBruijn64tab", laid_math_bits_deBruijn64tab), ("internal/strconv.uint64pow10", laid_internal_strconv_uint64pow10)] }
def SimilarityEventsSaid : Prop := similarityEventsRow.holds Tryz.pinned (OpenSpec.ofChange similarityEventsSpec)

/-- ITS FALSE NEIGHBOUR: 'it returns false'. Refute it at one input. -/
def similarityEventsWrong : ChangeSpec := { name := "similarityEvents", fn := fun _ => fun
  | [d1, d2] => { results := [.lit (.bool false)], args := [d1, d2] }
  | _ => none }
def SimilarityEventsWrongFalsely : Prop := similarityEventsRow.holds Tryz.pinned (OpenSpec.ofChange similarityEventsWrong)

/-- 'coinagelaw36.SimilarityBest': WHATEVER THE INPUT: true; the input reads as it did. -/
def similarityBestSpec : ChangeSpec := { name := "similarityBest", fn := fun _ => fun
  | [d1, d2] => { results := [.lit (.bool true)], args := [d1, d2] }
  | _ => none }
def similarityBestRow : OpenClaim := { program := "ythempimelfmipaagreatdoor", sum := "f6f065e42de9aff80c316c2e80fa9a3b38ba945815a867e119706962768b8838", func := "coinage/coinagelaw36.SimilarityBest", spec := "similarityBest", inPlace := ["internal/abi.NoEscape", "internal/bytealg.MakeNoZero"], unfollowed := true, recurses := true, named := ["internal/strconv.uint64pow10", "math/bits.deBruijn32tab", "math/bits.deBruijn64tab"], apart := false, laid := [("math/bits.deBruijn32tab", laid_math_bits_deBruijn32tab), ("math/bits.deBruijn64tab", laid_math_bits_deBruijn64tab), ("internal/strconv.uint64pow10", laid_internal_strconv_uint64pow10)] }
def SimilarityBestSaid : Prop := similarityBestRow.holds Tryz.pinned (OpenSpec.ofChange similarityBestSpec)

/-- ITS FALSE NEIGHBOUR: 'it returns false'. Refute it at one input. -/
def similarityBestWrong : ChangeSpec := { name := "similarityBest", fn := fun _ => fun
  | [d1, d2] => { results := [.lit (.bool false)], args := [d1, d2] }
  | _ => none }
def SimilarityBestWrongFalsely : Prop := similarityBestRow.holds Tryz.pinned (OpenSpec.ofChange similarityBestWrong)

/-- 'coinagelaw36.SimilarityPairs': WHATEVER THE INPUT: true; the input reads as it did. -/
def similarityPairsSpec : ChangeSpec := { name := "similarityPairs", fn := fun _ => fun
  | [d1, d2] => { results := [.lit (.bool true)], args := [d1, d2] }
  | _ => none }
def similarityPairsRow : OpenClaim := { program := "ythempimelfmipaagreatdoor", sum := "f6f065e42de9aff80c316c2e80fa9a3b38ba945815a867e119706962768b8838", func := "coinage/coinagelaw36.SimilarityPairs", spec := "similarityPairs", inPlace := ["internal/abi.NoEscape", "internal/bytealg.MakeNoZero"], unfollowed := true, recurses := true, named := ["internal/strconv.uint64pow10", "math/bits.deBruijn32tab", "math/bits.deBruijn64tab"], apart := false, laid := [("math/bits.deBruijn32tab", laid_math_bits_deBruijn32tab), ("math/bits.deBruijn64tab", laid_math_bits_deBruijn64tab), ("internal/strconv.uint64pow10", laid_internal_strconv_uint64pow10)] }
def SimilarityPairsSaid : Prop := similarityPairsRow.holds Tryz.pinned (OpenSpec.ofChange similarityPairsSpec)

/-- ITS FALSE NEIGHBOUR: 'it returns false'. Refute it at one input. -/
def similarityPairsWrong : ChangeSpec := { name := "similarityPairs", fn := fun _ => fun
  | [d1, d2] => { results := [.lit (.bool false)], args := [d1, d2] }
  | _ => none }
def SimilarityPairsWrongFalsely : Prop := similarityPairsRow.holds Tryz.pinned (OpenSpec.ofChange similarityPairsWrong)

/-- 'coinagelaw36.SimilarityLists': WHATEVER THE INPUT: true; the input reads as it did. -/
def similarityListsSpec : ChangeSpec := { name := "similarityLists", fn := fun _ => fun
  | [d1, d2] => { results := [.lit (.bool true)], args := [d1, d2] }
  | _ => none }
def similarityListsRow : OpenClaim := { program := "ythempimelfmipaagreatdoor", sum := "f6f065e42de9aff80c316c2e80fa9a3b38ba945815a867e119706962768b8838", func := "coinage/coinagelaw36.SimilarityLists", spec := "similarityLists", inPlace := ["internal/abi.NoEscape", "internal/bytealg.MakeNoZero"], unfollowed := true, recurses := true, named := ["internal/strconv.uint64pow10", "math/bits.deBruijn32tab", "math/bits.deBruijn64tab"], apart := false, laid := [("math/bits.deBruijn32tab", laid_math_bits_deBruijn32tab), ("math/bits.deBruijn64tab", laid_math_bits_deBruijn64tab), ("internal/strconv.uint64pow10", laid_internal_strconv_uint64pow10)] }
def SimilarityListsSaid : Prop := similarityListsRow.holds Tryz.pinned (OpenSpec.ofChange similarityListsSpec)

/-- ITS FALSE NEIGHBOUR: 'it returns false'. Refute it at one input. -/
def similarityListsWrong : ChangeSpec := { name := "similarityLists", fn := fun _ => fun
  | [d1, d2] => { results := [.lit (.bool false)], args := [d1, d2] }
  | _ => none }
def SimilarityListsWrongFalsely : Prop := similarityListsRow.holds Tryz.pinned (OpenSpec.ofChange similarityListsWrong)

/-- 'coinagelaw36.SimilarityNearest': WHATEVER THE INPUT: true; the input reads as it did. -/
def similarityNearestSpec : ChangeSpec := { name := "similarityNearest", fn := fun _ => fun
  | [d1, d2] => { results := [.lit (.bool true)], args := [d1, d2] }
  | _ => none }
def similarityNearestRow : OpenClaim := { program := "ythempimelfmipaagreatdoor", sum := "f6f065e42de9aff80c316c2e80fa9a3b38ba945815a867e119706962768b8838", func := "coinage/coinagelaw36.SimilarityNearest", spec := "similarityNearest", inPlace := ["internal/abi.NoEscape", "internal/bytealg.MakeNoZero"], unfollowed := true, recurses := true, named := ["internal/strconv.uint64pow10", "math/bits.deBruijn32tab", "math/bits.deBruijn64tab"], apart := false, laid := [("math/bits.deBruijn32tab", laid_math_bits_deBruijn32tab), ("math/bits.deBruijn64tab", laid_math_bits_deBruijn64tab), ("internal/strconv.uint64pow10", laid_internal_strconv_uint64pow10)] }
def SimilarityNearestSaid : Prop := similarityNearestRow.holds Tryz.pinned (OpenSpec.ofChange similarityNearestSpec)

/-- ITS FALSE NEIGHBOUR: 'it returns false'. Refute it at one input. -/
def similarityNearestWrong : ChangeSpec := { name := "similarityNearest", fn := fun _ => fun
  | [d1, d2] => { results := [.lit (.bool false)], args := [d1, d2] }
  | _ => none }
def SimilarityNearestWrongFalsely : Prop := similarityNearestRow.holds Tryz.pinned (OpenSpec.ofChange similarityNearestWrong)

/-- 'coinagelaw36.SimilarityTriangle': WHATEVER THE INPUT: true; the input reads as it did. -/
def similarityTriangleSpec : ChangeSpec := { name := "similarityTriangle", fn := fun _ => fun
  | [d1, d2, d3] => { results := [.lit (.bool true)], args := [d1, d2, d3] }
  | _ => none }
def similarityTriangleRow : OpenClaim := { program := "ythempimelfmipaagreatdoor", sum := "f6f065e42de9aff80c316c2e80fa9a3b38ba945815a867e119706962768b8838", func := "coinage/coinagelaw36.SimilarityTriangle", spec := "similarityTriangle", inPlace := ["internal/abi.NoEscape", "internal/bytealg.MakeNoZero"], unfollowed := true, recurses := true, named := ["internal/strconv.uint64pow10", "math/bits.deBruijn32tab", "math/bits.deBruijn64tab"], apart := false, laid := [("math/bits.deBruijn32tab", laid_math_bits_deBruijn32tab), ("math/bits.deBruijn64tab", laid_math_bits_deBruijn64tab), ("internal/strconv.uint64pow10", laid_internal_strconv_uint64pow10)] }
def SimilarityTriangleSaid : Prop := similarityTriangleRow.holds Tryz.pinned (OpenSpec.ofChange similarityTriangleSpec)

/-- ITS FALSE NEIGHBOUR: 'it returns false'. Refute it at one input. -/
def similarityTriangleWrong : ChangeSpec := { name := "similarityTriangle", fn := fun _ => fun
  | [d1, d2, d3] => { results := [.lit (.bool false)], args := [d1, d2, d3] }
  | _ => none }
def SimilarityTriangleWrongFalsely : Prop := similarityTriangleRow.holds Tryz.pinned (OpenSpec.ofChange similarityTriangleWrong)

/- THE SECOND FORM. 'bulk': how many values and letters a reading holds, each counted each time it is reached (what is shared counts as often as it is met; a slice's spare places count too). A statement '..UptoSaid' is the law's where the arguments, and the package variables that the reading takes, are together of bulk at most 1048576: NARROWER than '..Said'. Prove '..Said' where nothing that the law and all that it calls make is longer than what came in: it says more and counts as full. Else prove '..UptoSaid'. A law counts once. -/
mutual
def uptoBulk {H : Type} : DataW H → Nat
  | .lit (.string bytes) => bytes.length + 1
  | .lit _ => 1
  | .nil => 1
  | .ptr d => uptoBulk d + 1
  | .slice elems spare => uptoBulkAll elems + uptoBulkAll spare + 1
  | .agg parts => uptoBulkAll parts + 1
  | .iface _ d => uptoBulk d + 1
  | .map entries => uptoBulkEntries entries + 1
  | .held _ => 1
def uptoBulkAll {H : Type} : List (DataW H) → Nat
  | [] => 0
  | d :: r => uptoBulk d + uptoBulkAll r
def uptoBulkEntries {H : Type} : List (Lit × DataW H) → Nat
  | [] => 0
  | x :: r => uptoBulkEntry x + uptoBulkEntries r
def uptoBulkEntry {H : Type} : Lit × DataW H → Nat
  | (.string bytes, d) => bytes.length + uptoBulk d + 1
  | (_, d) => uptoBulk d + 1
 end
def uptoSmall : (H : Type) → List (DataW H) → Bool := fun _ ds => decide (uptoBulkAll ds ≤ 1048576)
def OpenSpec.upto (s : _root_.Go.ChangeSpec) : _root_.Go.OpenSpec := { _root_.Go.OpenSpec.ofChange s with cond := some uptoSmall }

/-- 'coinagelaw36.SimilarityRange', WHERE WHAT IT READS IS OF BULK AT MOST 1048576: true; the input reads as it did. -/
def similarityRangeUptoRow : OpenClaim := { program := "ythempimelfmipaagreatdoor", sum := "f6f065e42de9aff80c316c2e80fa9a3b38ba945815a867e119706962768b8838", func := "coinage/coinagelaw36.SimilarityRange", spec := "similarityRange", inPlace := ["internal/abi.NoEscape", "internal/bytealg.MakeNoZero"], unfollowed := true, recurses := true, named := ["internal/strconv.uint64pow10", "math/bits.deBruijn32tab", "math/bits.deBruijn64tab"], apart := false, laid := [("math/bits.deBruijn32tab", laid_math_bits_deBruijn32tab), ("math/bits.deBruijn64tab", laid_math_bits_deBruijn64tab), ("internal/strconv.uint64pow10", laid_internal_strconv_uint64pow10)], narrowed := true }
def SimilarityRangeUptoSaid : Prop := similarityRangeUptoRow.holds Tryz.pinned (OpenSpec.upto similarityRangeSpec)

/-- 'coinagelaw36.SimilarityScales', WHERE WHAT IT READS IS OF BULK AT MOST 1048576: true; the input reads as it did. -/
def similarityScalesUptoRow : OpenClaim := { program := "ythempimelfmipaagreatdoor", sum := "f6f065e42de9aff80c316c2e80fa9a3b38ba945815a867e119706962768b8838", func := "coinage/coinagelaw36.SimilarityScales", spec := "similarityScales", inPlace := ["internal/abi.NoEscape", "internal/bytealg.MakeNoZero"], unfollowed := true, recurses := true, named := ["internal/strconv.uint64pow10", "math/bits.deBruijn32tab", "math/bits.deBruijn64tab"], apart := false, laid := [("math/bits.deBruijn32tab", laid_math_bits_deBruijn32tab), ("math/bits.deBruijn64tab", laid_math_bits_deBruijn64tab), ("internal/strconv.uint64pow10", laid_internal_strconv_uint64pow10)], narrowed := true }
def SimilarityScalesUptoSaid : Prop := similarityScalesUptoRow.holds Tryz.pinned (OpenSpec.upto similarityScalesSpec)

/-- 'coinagelaw36.SimilarityEvents', WHERE WHAT IT READS IS OF BULK AT MOST 1048576: true; the input reads as it did. -/
def similarityEventsUptoRow : OpenClaim := { program := "ythempimelfmipaagreatdoor", sum := "f6f065e42de9aff80c316c2e80fa9a3b38ba945815a867e119706962768b8838", func := "coinage/coinagelaw36.SimilarityEvents", spec := "similarityEvents", inPlace := ["internal/abi.NoEscape", "internal/bytealg.MakeNoZero"], unfollowed := true, recurses := true, named := ["internal/strconv.uint64pow10", "math/bits.deBruijn32tab", "math/bits.deBruijn64tab"], apart := false, laid := [("math/bits.deBruijn32tab", laid_math_bits_deBruijn32tab), ("math/bits.deBruijn64tab", laid_math_bits_deBruijn64tab), ("internal/strconv.uint64pow10", laid_internal_strconv_uint64pow10)], narrowed := true }
def SimilarityEventsUptoSaid : Prop := similarityEventsUptoRow.holds Tryz.pinned (OpenSpec.upto similarityEventsSpec)

/-- 'coinagelaw36.SimilarityBest', WHERE WHAT IT READS IS OF BULK AT MOST 1048576: true; the input reads as it did. -/
def similarityBestUptoRow : OpenClaim := { program := "ythempimelfmipaagreatdoor", sum := "f6f065e42de9aff80c316c2e80fa9a3b38ba945815a867e119706962768b8838", func := "coinage/coinagelaw36.SimilarityBest", spec := "similarityBest", inPlace := ["internal/abi.NoEscape", "internal/bytealg.MakeNoZero"], unfollowed := true, recurses := true, named := ["internal/strconv.uint64pow10", "math/bits.deBruijn32tab", "math/bits.deBruijn64tab"], apart := false, laid := [("math/bits.deBruijn32tab", laid_math_bits_deBruijn32tab), ("math/bits.deBruijn64tab", laid_math_bits_deBruijn64tab), ("internal/strconv.uint64pow10", laid_internal_strconv_uint64pow10)], narrowed := true }
def SimilarityBestUptoSaid : Prop := similarityBestUptoRow.holds Tryz.pinned (OpenSpec.upto similarityBestSpec)

/-- 'coinagelaw36.SimilarityPairs', WHERE WHAT IT READS IS OF BULK AT MOST 1048576: true; the input reads as it did. -/
def similarityPairsUptoRow : OpenClaim := { program := "ythempimelfmipaagreatdoor", sum := "f6f065e42de9aff80c316c2e80fa9a3b38ba945815a867e119706962768b8838", func := "coinage/coinagelaw36.SimilarityPairs", spec := "similarityPairs", inPlace := ["internal/abi.NoEscape", "internal/bytealg.MakeNoZero"], unfollowed := true, recurses := true, named := ["internal/strconv.uint64pow10", "math/bits.deBruijn32tab", "math/bits.deBruijn64tab"], apart := false, laid := [("math/bits.deBruijn32tab", laid_math_bits_deBruijn32tab), ("math/bits.deBruijn64tab", laid_math_bits_deBruijn64tab), ("internal/strconv.uint64pow10", laid_internal_strconv_uint64pow10)], narrowed := true }
def SimilarityPairsUptoSaid : Prop := similarityPairsUptoRow.holds Tryz.pinned (OpenSpec.upto similarityPairsSpec)

/-- 'coinagelaw36.SimilarityLists', WHERE WHAT IT READS IS OF BULK AT MOST 1048576: true; the input reads as it did. -/
def similarityListsUptoRow : OpenClaim := { program := "ythempimelfmipaagreatdoor", sum := "f6f065e42de9aff80c316c2e80fa9a3b38ba945815a867e119706962768b8838", func := "coinage/coinagelaw36.SimilarityLists", spec := "similarityLists", inPlace := ["internal/abi.NoEscape", "internal/bytealg.MakeNoZero"], unfollowed := true, recurses := true, named := ["internal/strconv.uint64pow10", "math/bits.deBruijn32tab", "math/bits.deBruijn64tab"], apart := false, laid := [("math/bits.deBruijn32tab", laid_math_bits_deBruijn32tab), ("math/bits.deBruijn64tab", laid_math_bits_deBruijn64tab), ("internal/strconv.uint64pow10", laid_internal_strconv_uint64pow10)], narrowed := true }
def SimilarityListsUptoSaid : Prop := similarityListsUptoRow.holds Tryz.pinned (OpenSpec.upto similarityListsSpec)

/-- 'coinagelaw36.SimilarityNearest', WHERE WHAT IT READS IS OF BULK AT MOST 1048576: true; the input reads as it did. -/
def similarityNearestUptoRow : OpenClaim := { program := "ythempimelfmipaagreatdoor", sum := "f6f065e42de9aff80c316c2e80fa9a3b38ba945815a867e119706962768b8838", func := "coinage/coinagelaw36.SimilarityNearest", spec := "similarityNearest", inPlace := ["internal/abi.NoEscape", "internal/bytealg.MakeNoZero"], unfollowed := true, recurses := true, named := ["internal/strconv.uint64pow10", "math/bits.deBruijn32tab", "math/bits.deBruijn64tab"], apart := false, laid := [("math/bits.deBruijn32tab", laid_math_bits_deBruijn32tab), ("math/bits.deBruijn64tab", laid_math_bits_deBruijn64tab), ("internal/strconv.uint64pow10", laid_internal_strconv_uint64pow10)], narrowed := true }
def SimilarityNearestUptoSaid : Prop := similarityNearestUptoRow.holds Tryz.pinned (OpenSpec.upto similarityNearestSpec)

/-- 'coinagelaw36.SimilarityTriangle', WHERE WHAT IT READS IS OF BULK AT MOST 1048576: true; the input reads as it did. -/
def similarityTriangleUptoRow : OpenClaim := { program := "ythempimelfmipaagreatdoor", sum := "f6f065e42de9aff80c316c2e80fa9a3b38ba945815a867e119706962768b8838", func := "coinage/coinagelaw36.SimilarityTriangle", spec := "similarityTriangle", inPlace := ["internal/abi.NoEscape", "internal/bytealg.MakeNoZero"], unfollowed := true, recurses := true, named := ["internal/strconv.uint64pow10", "math/bits.deBruijn32tab", "math/bits.deBruijn64tab"], apart := false, laid := [("math/bits.deBruijn32tab", laid_math_bits_deBruijn32tab), ("math/bits.deBruijn64tab", laid_math_bits_deBruijn64tab), ("internal/strconv.uint64pow10", laid_internal_strconv_uint64pow10)], narrowed := true }
def SimilarityTriangleUptoSaid : Prop := similarityTriangleUptoRow.holds Tryz.pinned (OpenSpec.upto similarityTriangleSpec)

end Rows
end Go.Proofs.YthempimelfmipaaGreatDoor
