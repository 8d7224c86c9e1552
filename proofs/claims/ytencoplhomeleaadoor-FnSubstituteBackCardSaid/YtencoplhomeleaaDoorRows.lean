/-
  NARROWER THAN 'FOR EVERY INPUT', by the rows' own cells (each row's printed sentence says how): FnAtomValue: laid · FnSubstituteVar: laid · FnSubstituteBack: laid.
  DERIVED. THE GIVEN ROWS OF THIS SEAT. 3 by the template 'for every input the law returns true; each argument reads behind the call as it read before'; 0 by the template 'total and deterministic' (their statements: YtencoplhomeleaaDoorTotals.lean).
  GIVEN WITH THE SEED: the statements are not yours to turn. If you find one false, say at which input.
  Laid BY PROGRAM, IN A SANDBOX (cutbox-rows.mjs): the forced cells as the released guide's own fill.sh prints them over the translation 7503aade1f2f41e3… (all of the seat's roots in one cut). By AI agents, Wed Nov 11 2026. No macro, syntax, notation, axiom, sorry.
-/
import Derived.Test.YtencoplhomeleaaDoorChecked
import GoSem.Claim
import GoSem.ClaimJoined
import GoSem.ClaimMapViews
import Derived.JoinedTies
import Derived.KernelRfl
namespace Go.Proofs.YtencoplhomeleaaDoor
/- THE CELL 'sum', in the pinned program and in every row, IS THE sha256 OF THE DUMP (.gsa) THAT YtencoplhomeleaaDoorProg.lean LOADS. Nothing in Lean hashes anything: it is a label: what it is worth is what the hold of that sum in a sandbox is worth. -/
noncomputable def Tryd.pinned : Pinned := { name := "ytencoplhomeleaadoor", sum := "7503aade1f2f41e3a577e14d89b9a9a94099b7c73c92b4a56ed277cc4228f94f", checked := Tryd.checked }
namespace Rows
def none {H : Type} : Left H := { results := [], args := [] }

/- WHAT THE LISTED PACKAGE-LEVEL VARIABLES READ AS WHEN THE CALL BEGINS. Each datum BY PROGRAM (the guide's laid-datum.mjs) off the statement by which the dump's own 'gosem.cut.vars' lays the variable. In a bare row this is a premise. The card (YtencoplhomeleaaDoorCards.lean) ties it to the program's text. -/
def laid_loop_example_macroexpander_impl_primitives {H : Type} : DataW H := .agg [.lit (.string [108, 105, 115, 116]), .lit (.string [43]), .lit (.string [60]), .lit (.string [61]), .lit (.string [104, 101, 97, 100]), .lit (.string [116, 97, 105, 108])]

/-- 'laws.FnAtomValue': WHATEVER THE INPUT: true; the input reads as it did. -/
def fnAtomValueSpec : ChangeSpec := { name := "fnAtomValue", vars := ["loop.example/macroexpander/impl.primitives"], fn := fun _ => fun
  | [d, g1] => { results := [.lit (.bool true)], args := [d], vars := [g1] }
  | _ => none }
def fnAtomValueRow : OpenClaim := { program := "ytencoplhomeleaadoor", sum := "7503aade1f2f41e3a577e14d89b9a9a94099b7c73c92b4a56ed277cc4228f94f", func := "loop.example/macroexpander/laws.FnAtomValue", spec := "fnAtomValue", inPlace := ["internal/bytealg.IndexByteString"], unfollowed := true, recurses := true, named := ["loop.example/macroexpander/impl.primitives"], apart := false, laid := [("loop.example/macroexpander/impl.primitives", laid_loop_example_macroexpander_impl_primitives)] }
def FnAtomValueSaid : Prop := fnAtomValueRow.holds Tryd.pinned (OpenSpec.ofChange fnAtomValueSpec)

/-- ITS FALSE NEIGHBOUR: 'it returns false'. Refute it at one input. -/
def fnAtomValueWrong : ChangeSpec := { name := "fnAtomValue", vars := ["loop.example/macroexpander/impl.primitives"], fn := fun _ => fun
  | [d, g1] => { results := [.lit (.bool false)], args := [d], vars := [g1] }
  | _ => none }
def FnAtomValueWrongFalsely : Prop := fnAtomValueRow.holds Tryd.pinned (OpenSpec.ofChange fnAtomValueWrong)

/-- 'laws.FnSubstituteVar': WHATEVER THE INPUT: true; the input reads as it did. -/
def fnSubstituteVarSpec : ChangeSpec := { name := "fnSubstituteVar", vars := ["loop.example/macroexpander/impl.primitives"], fn := fun _ => fun
  | [d, g1] => { results := [.lit (.bool true)], args := [d], vars := [g1] }
  | _ => none }
def fnSubstituteVarRow : OpenClaim := { program := "ytencoplhomeleaadoor", sum := "7503aade1f2f41e3a577e14d89b9a9a94099b7c73c92b4a56ed277cc4228f94f", func := "loop.example/macroexpander/laws.FnSubstituteVar", spec := "fnSubstituteVar", inPlace := ["internal/bytealg.IndexByteString"], unfollowed := true, recurses := true, named := ["loop.example/macroexpander/impl.primitives"], apart := false, laid := [("loop.example/macroexpander/impl.primitives", laid_loop_example_macroexpander_impl_primitives)] }
def FnSubstituteVarSaid : Prop := fnSubstituteVarRow.holds Tryd.pinned (OpenSpec.ofChange fnSubstituteVarSpec)

/-- ITS FALSE NEIGHBOUR: 'it returns false'. Refute it at one input. -/
def fnSubstituteVarWrong : ChangeSpec := { name := "fnSubstituteVar", vars := ["loop.example/macroexpander/impl.primitives"], fn := fun _ => fun
  | [d, g1] => { results := [.lit (.bool false)], args := [d], vars := [g1] }
  | _ => none }
def FnSubstituteVarWrongFalsely : Prop := fnSubstituteVarRow.holds Tryd.pinned (OpenSpec.ofChange fnSubstituteVarWrong)

/-- 'laws.FnSubstituteBack': WHATEVER THE INPUT: true; the input reads as it did. -/
def fnSubstituteBackSpec : ChangeSpec := { name := "fnSubstituteBack", vars := ["loop.example/macroexpander/impl.primitives"], fn := fun _ => fun
  | [d, g1] => { results := [.lit (.bool true)], args := [d], vars := [g1] }
  | _ => none }
def fnSubstituteBackRow : OpenClaim := { program := "ytencoplhomeleaadoor", sum := "7503aade1f2f41e3a577e14d89b9a9a94099b7c73c92b4a56ed277cc4228f94f", func := "loop.example/macroexpander/laws.FnSubstituteBack", spec := "fnSubstituteBack", inPlace := ["internal/bytealg.IndexByteString"], unfollowed := true, recurses := true, named := ["loop.example/macroexpander/impl.primitives"], apart := false, laid := [("loop.example/macroexpander/impl.primitives", laid_loop_example_macroexpander_impl_primitives)] }
def FnSubstituteBackSaid : Prop := fnSubstituteBackRow.holds Tryd.pinned (OpenSpec.ofChange fnSubstituteBackSpec)

/-- ITS FALSE NEIGHBOUR: 'it returns false'. Refute it at one input. -/
def fnSubstituteBackWrong : ChangeSpec := { name := "fnSubstituteBack", vars := ["loop.example/macroexpander/impl.primitives"], fn := fun _ => fun
  | [d, g1] => { results := [.lit (.bool false)], args := [d], vars := [g1] }
  | _ => none }
def FnSubstituteBackWrongFalsely : Prop := fnSubstituteBackRow.holds Tryd.pinned (OpenSpec.ofChange fnSubstituteBackWrong)

/- THE SECOND FORM. 'bulk': how many values and letters a reading holds, each counted each time it is reached (what is shared counts as often as it is met; a slice's spare places count too). A statement '..UptoSaid' is the law's where the arguments, and the package variables that the reading takes, are together of bulk at most 1048576: NARROWER than '..Said'. Prove '..Said' where nothing that the law and all that it calls make is longer than what came in: it says more and counts as full. Else prove '..UptoSaid'. A law counts once. -/
mutual
def uptoBulk {H : Type} : DataW H → Nat
  | .lit (.string bytes) => bytes.length + 1
  | .lit _ => 1
  | .nil => 1
  | .ptr d => uptoBulk d + 1
  | .slice elems spare => uptoBulkAll elems + uptoBulkAll spare + 1
  | .agg parts => uptoBulkAll parts + 1
  | .iface _ d => uptoBulk d + 1
  | .map entries => uptoBulkEntries entries + 1
  | .held _ => 1
def uptoBulkAll {H : Type} : List (DataW H) → Nat
  | [] => 0
  | d :: r => uptoBulk d + uptoBulkAll r
def uptoBulkEntries {H : Type} : List (Lit × DataW H) → Nat
  | [] => 0
  | x :: r => uptoBulkEntry x + uptoBulkEntries r
def uptoBulkEntry {H : Type} : Lit × DataW H → Nat
  | (.string bytes, d) => bytes.length + uptoBulk d + 1
  | (_, d) => uptoBulk d + 1
 end
def uptoSmall : (H : Type) → List (DataW H) → Bool := fun _ ds => decide (uptoBulkAll ds ≤ 1048576)
def OpenSpec.upto (s : _root_.Go.ChangeSpec) : _root_.Go.OpenSpec := { _root_.Go.OpenSpec.ofChange s with cond := some uptoSmall }

/-- 'laws.FnAtomValue', WHERE WHAT IT READS IS OF BULK AT MOST 1048576: true; the input reads as it did. -/
def fnAtomValueUptoRow : OpenClaim := { program := "ytencoplhomeleaadoor", sum := "7503aade1f2f41e3a577e14d89b9a9a94099b7c73c92b4a56ed277cc4228f94f", func := "loop.example/macroexpander/laws.FnAtomValue", spec := "fnAtomValue", inPlace := ["internal/bytealg.IndexByteString"], unfollowed := true, recurses := true, named := ["loop.example/macroexpander/impl.primitives"], apart := false, laid := [("loop.example/macroexpander/impl.primitives", laid_loop_example_macroexpander_impl_primitives)], narrowed := true }
def FnAtomValueUptoSaid : Prop := fnAtomValueUptoRow.holds Tryd.pinned (OpenSpec.upto fnAtomValueSpec)

/-- 'laws.FnSubstituteVar', WHERE WHAT IT READS IS OF BULK AT MOST 1048576: true; the input reads as it did. -/
def fnSubstituteVarUptoRow : OpenClaim := { program := "ytencoplhomeleaadoor", sum := "7503aade1f2f41e3a577e14d89b9a9a94099b7c73c92b4a56ed277cc4228f94f", func := "loop.example/macroexpander/laws.FnSubstituteVar", spec := "fnSubstituteVar", inPlace := ["internal/bytealg.IndexByteString"], unfollowed := true, recurses := true, named := ["loop.example/macroexpander/impl.primitives"], apart := false, laid := [("loop.example/macroexpander/impl.primitives", laid_loop_example_macroexpander_impl_primitives)], narrowed := true }
def FnSubstituteVarUptoSaid : Prop := fnSubstituteVarUptoRow.holds Tryd.pinned (OpenSpec.upto fnSubstituteVarSpec)

/-- 'laws.FnSubstituteBack', WHERE WHAT IT READS IS OF BULK AT MOST 1048576: true; the input reads as it did. -/
def fnSubstituteBackUptoRow : OpenClaim := { program := "ytencoplhomeleaadoor", sum := "7503aade1f2f41e3a577e14d89b9a9a94099b7c73c92b4a56ed277cc4228f94f", func := "loop.example/macroexpander/laws.FnSubstituteBack", spec := "fnSubstituteBack", inPlace := ["internal/bytealg.IndexByteString"], unfollowed := true, recurses := true, named := ["loop.example/macroexpander/impl.primitives"], apart := false, laid := [("loop.example/macroexpander/impl.primitives", laid_loop_example_macroexpander_impl_primitives)], narrowed := true }
def FnSubstituteBackUptoSaid : Prop := fnSubstituteBackUptoRow.holds Tryd.pinned (OpenSpec.upto fnSubstituteBackSpec)

end Rows
end Go.Proofs.YtencoplhomeleaaDoor
