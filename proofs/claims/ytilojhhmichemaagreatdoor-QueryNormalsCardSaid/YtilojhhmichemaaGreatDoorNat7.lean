/- The package natural, seventh part: divide, the long way. -/
import Derived.Test.YtilojhhmichemaaGreatDoorNat6
import Derived.Deep.DeepCutAuto
import Derived.Deep.CutBlock
namespace Go.Proofs.YtilojhhmichemaaGreatDoor
open Go.RowKit Go.Proofs

end Go.Proofs.YtilojhhmichemaaGreatDoor
