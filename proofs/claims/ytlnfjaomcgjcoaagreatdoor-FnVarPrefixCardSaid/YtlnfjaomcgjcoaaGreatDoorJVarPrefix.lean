/- FnVarPrefix answers true for every argument (its tables as the program lays them), and the arguments and the tables read afterwards as they read before. No condition beyond the given statement's. -/
import Derived.Test.YtlnfjaomcgjcoaaGreatDoorEvTri
import Derived.Test.YtlnfjaomcgjcoaaGreatDoorLwVarPrefix
import Derived.Test.YtlnfjaomcgjcoaaGreatDoorCards
import Derived.Test.YtlnfjaomcgjcoaaGreatDoorTie
import Derived.WalkKit
import Derived.ProofKit
import Derived.OpenShut
import Derived.Deep.DeepHandedRow
import Derived.Lib.LaidTab
import Derived.Stop.LaidErr
namespace Go.Proofs.YtlnfjaomcgjcoaaGreatDoor.fnVarPrefix
open Go.ChangeShapes Go.WideShapes Go.ChangeAt Go.ChangeMaps Go.RowKit Go.Mx
set_option linter.unusedVariables false
set_option maxRecDepth 100000
theorem facts : joinedFacts Tryz.pinned.checked.prog 5 Tryz.f5 (OpenSpec.ofChange Rows.fnVarPrefixSpec).bare Rows.fnVarPrefixRow = true := by kernel_rfl
end Go.Proofs.YtlnfjaomcgjcoaaGreatDoor.fnVarPrefix
