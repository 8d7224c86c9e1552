/- The text of a form that is a small number. No condition. -/
import Derived.Test.YtlnfjaomcgjcoaaGreatDoorEvTri
import Derived.Test.YtlnfjaomcgjcoaaGreatDoorShR7
import Derived.Lib.Hide
namespace Go.Ev
open Go.Proofs Go.Mx Go.RowKit
set_option linter.unusedVariables false
set_option maxHeartbeats 1000000
set_option maxRecDepth 100000
theorem WZ (nm:ByteArray) (n:Nat) (hn:n<100) (a1 a2:Option Addr) (l1 c1 l2 c2:Nat) (w:World) :
  Calls Tryz.prog 67 #[.agg #[.int .i64 2,.string nm,.int .i64 n,.slice a1 l1 c1,.slice a2 l2 c2]] w fun e w'=>e=.returned (.string (mkS (Lib.decDigits n)))∧Below w.heap.size w w':=by
 have HI:=Lib.hid (Tryz.strconv_Itoa_small n hn)
 go_enter Tryz.func67,Tryz.ntmps67
 go_wp2_with (go_at_call 99; refine Calls.mono (HI.out _) ?_; rintro e w1 ⟨rfl,rfl⟩)
 go_wp2_with fail
 go_ret
 exact⟨rfl,(Below.refl _ _).alloc (Nat.le_refl _) _⟩
end Go.Ev
