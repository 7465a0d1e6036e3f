/-
  A world for the cards' witnesses: the settled one, the tables holding what their initialisers lay.
-/
import Derived.Test.YtgdphamdbpkjdaaDoorLaid
import Derived.Test.YtgdphamdbpkjdaaDoorHgD
import Derived.Test.YtgdphamdbpkjdaaDoorHgA
import Derived.Test.YtgdphamdbpkjdaaDoorCards
import Derived.Test.YtgdphamdbpkjdaaDoorTie
import Derived.WalkKit
import Derived.ProofKit
import Derived.OpenShut
import Derived.Deep.DeepHandedRow
namespace Go.Proofs.YtgdphamdbpkjdaaDoor
open Go.RowKit Go.Hg
set_option linter.unusedVariables false
/-- What a table holds, laid over its block. -/
def layOver (cs : Array Value) : Obj → Obj
  | .cells _ t frozen => .cells cs t frozen
  | o => o
noncomputable def laidWorld (os : Os) : World :=
  let w := World.holding Tryd.prog os ⟨#[], #[], []⟩
  { w with heap := ((((w.heap.modify 3 (layOver (v32 H0).toArray)).modify 4 (layOver (v32 K0).toArray)).modify 0 (layOver (v32 sigma).toArray)).modify 1 (layOver (quartersZ.map (Value.int .i64)).toArray)).modify 2 (layOver (turnsZ.map (Value.int .i64)).toArray) }
end Go.Proofs.YtgdphamdbpkjdaaDoor
