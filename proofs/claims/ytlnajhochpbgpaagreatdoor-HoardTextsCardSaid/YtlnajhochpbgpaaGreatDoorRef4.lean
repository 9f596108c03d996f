/- The reference's naturals: Gcd. -/
import Derived.Test.YtlnajhochpbgpaaGreatDoorRef3
namespace Go.Proofs.YtlnajhochpbgpaaGreatDoor
open Go.RowKit Go.Proofs Go

end Go.Proofs.YtlnajhochpbgpaaGreatDoor
