/- The package natural, seventh part: divide, the long way. -/
import Derived.Test.YtlnajhochpbgpaaDoorNat6
import Derived.Deep.DeepCutAuto
import Derived.Deep.CutBlock
namespace Go.Proofs.YtlnajhochpbgpaaDoor
open Go.RowKit Go.Proofs

end Go.Proofs.YtlnajhochpbgpaaDoor
