/- FnExactUncoreForm answers true for every argument (its tables as the program lays them), and the arguments and the tables read afterwards as they read before. No condition beyond the given statement's. -/
import Derived.Test.YtomehndhbihfiaaGreatDoorEvTri
import Derived.Test.YtomehndhbihfiaaGreatDoorRlU
import Derived.Test.YtomehndhbihfiaaGreatDoorCards
import Derived.Test.YtomehndhbihfiaaGreatDoorTie
import Derived.WalkKit
import Derived.ProofKit
import Derived.OpenShut
import Derived.Deep.DeepHandedRow
import Derived.Lib.LaidTab
import Derived.Stop.LaidErr
namespace Go.Proofs.YtomehndhbihfiaaGreatDoor.fnExactUncoreForm
open Go.ChangeShapes Go.WideShapes Go.ChangeAt Go.ChangeMaps Go.RowKit Go.Mx
set_option linter.unusedVariables false
set_option maxRecDepth 100000
theorem facts : joinedFacts Tryz.pinned.checked.prog 3 Tryz.f3 (OpenSpec.ofChange Rows.fnExactUncoreFormSpec).bare Rows.fnExactUncoreFormRow = true := by kernel_rfl
end Go.Proofs.YtomehndhbihfiaaGreatDoor.fnExactUncoreForm
