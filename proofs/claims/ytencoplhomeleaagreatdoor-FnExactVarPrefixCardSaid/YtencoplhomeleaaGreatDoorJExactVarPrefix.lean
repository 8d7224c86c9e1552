/- FnExactVarPrefix answers true for every argument (its tables as the program lays them), and the arguments and the tables read afterwards as they read before. No condition beyond the given statement's. -/
import Derived.Test.YtencoplhomeleaaGreatDoorEvTri
import Derived.Test.YtencoplhomeleaaGreatDoorLwExactVarPrefix
import Derived.Test.YtencoplhomeleaaGreatDoorCards
import Derived.Test.YtencoplhomeleaaGreatDoorTie
import Derived.WalkKit
import Derived.ProofKit
import Derived.OpenShut
import Derived.Deep.DeepHandedRow
import Derived.Lib.LaidTab
import Derived.Stop.LaidErr
namespace Go.Proofs.YtencoplhomeleaaGreatDoor.fnExactVarPrefix
open Go.ChangeShapes Go.WideShapes Go.ChangeAt Go.ChangeMaps Go.RowKit Go.Mx
set_option linter.unusedVariables false
set_option maxRecDepth 100000
theorem facts : joinedFacts Tryz.pinned.checked.prog 8 Tryz.f8 (OpenSpec.ofChange Rows.fnExactVarPrefixSpec).bare Rows.fnExactVarPrefixRow = true := by kernel_rfl
end Go.Proofs.YtencoplhomeleaaGreatDoor.fnExactVarPrefix
