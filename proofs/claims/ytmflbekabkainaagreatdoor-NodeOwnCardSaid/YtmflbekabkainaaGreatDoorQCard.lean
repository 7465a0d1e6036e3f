import Derived.Test.YtmflbekabkainaaGreatDoorQLaid
import Derived.Test.YtmflbekabkainaaGreatDoorQHgD
import Derived.Test.YtmflbekabkainaaGreatDoorQHgA
import Derived.Test.YtmflbekabkainaaGreatDoorCards
import Derived.Test.YtmflbekabkainaaGreatDoorTie
import Derived.WalkKit
import Derived.ProofKit
import Derived.OpenShut
import Derived.Deep.DeepHandedRow
set_option linter.unusedVariables false
namespace Go.Proofs.YtmflbekabkainaaGreatDoor
open Go.RowKit Go.Hg
def layOver (cs : Array Value) : Obj → Obj
 | .cells _ t frozen => .cells cs t frozen
 | o => o
noncomputable def laidWorld (os : Os) : World :=
 let w := World.holding Tryz.prog os ⟨#[], #[], []⟩
 { w with heap := ((((w.heap.modify 3 (layOver (v32 H0).toArray)).modify 4 (layOver (v32 K0).toArray)).modify 0 (layOver (v32 sigma).toArray)).modify 1 (layOver (quartersZ.map (Value.int .i64)).toArray)).modify 2 (layOver (turnsZ.map (Value.int .i64)).toArray) }
end Go.Proofs.YtmflbekabkainaaGreatDoor
