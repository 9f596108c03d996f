/- The reference's fractions, first part: of, zero, New, Norm, Neg, Mul, Of. -/
import Derived.Test.YtlnajhochpbgpaaGreatDoorRef4
import Derived.Test.YtlnajhochpbgpaaGreatDoorFrac6
namespace Go.Proofs.YtlnajhochpbgpaaGreatDoor
open Go.RowKit Go.Proofs Go

end Go.Proofs.YtlnajhochpbgpaaGreatDoor
