/- The statements' own helpers: coinagebase.Fraction. -/
import Derived.Test.YtlnajhochpbgpaaGreatDoorFrac7
import Derived.Test.YtlnajhochpbgpaaGreatDoorBnat
namespace Go.Proofs.YtlnajhochpbgpaaGreatDoor
open Go.RowKit Go.Proofs Go

theorem nat_small (x : Nat) (h : x ≤ 1073741824) : x ≤ 1099511627776 := by omega
end Go.Proofs.YtlnajhochpbgpaaGreatDoor
