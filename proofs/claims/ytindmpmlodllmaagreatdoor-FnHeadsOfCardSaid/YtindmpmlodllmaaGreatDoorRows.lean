/-
  NARROWER THAN 'FOR EVERY INPUT', by the rows' own cells (each row's printed sentence says how): FnHeadsOf: laid · FnOpenNames: laid.
  DERIVED. THE GIVEN ROWS OF THIS SEAT. 2 by the template 'for every input the law returns true; each argument reads behind the call as it read before'; 0 by the template 'total and deterministic' (their statements: YtindmpmlodllmaaGreatDoorTotals.lean).
  GIVEN WITH THE SEED: the statements are not yours to turn. If you find one false, say at which input.
  Laid BY PROGRAM, IN A SANDBOX (cutbox-rows.mjs): the forced cells as the released guide's own fill.sh prints them over the translation df7b8fe4de804140… (all of the seat's roots in one cut). By AI agents, Wed Nov 11 2026. No macro, syntax, notation, axiom, sorry.
-/
import Derived.Test.YtindmpmlodllmaaGreatDoorChecked
import GoSem.Claim
import GoSem.ClaimJoined
import GoSem.ClaimMapViews
import Derived.JoinedTies
import Derived.KernelRfl
namespace Go.Proofs.YtindmpmlodllmaaGreatDoor
/- THE CELL 'sum', in the pinned program and in every row, IS THE sha256 OF THE DUMP (.gsa) THAT YtindmpmlodllmaaGreatDoorProg.lean LOADS. Nothing in Lean hashes anything: it is a label: what it is worth is what the hold of that sum in a sandbox is worth. -/
noncomputable def Tryz.pinned : Pinned := { name := "ytindmpmlodllmaagreatdoor", sum := "df7b8fe4de80414015f96e8f82aa93e547dbfc819200a22a13f61b4ce5faf297", checked := Tryz.checked }
namespace Rows
def none {H : Type} : Left H := { results := [], args := [] }

/- WHAT THE LISTED PACKAGE-LEVEL VARIABLES READ AS WHEN THE CALL BEGINS. Each datum BY PROGRAM (the guide's laid-datum.mjs) off the statement by which the dump's own 'gosem.cut.vars' lays the variable. In a bare row this is a premise. The card (YtindmpmlodllmaaGreatDoorCards.lean) ties it to the program's text. -/
def laid_loop_example_macroexpander_impl_primitives {H : Type} : DataW H := .agg [.lit (.string [108, 105, 115, 116]), .lit (.string [43]), .lit (.string [60]), .lit (.string [61]), .lit (.string [104, 101, 97, 100]), .lit (.string [116, 97, 105, 108])]

/-- 'laws.FnHeadsOf': WHATEVER THE INPUT: true; the input reads as it did. -/
def fnHeadsOfSpec : ChangeSpec := { name := "fnHeadsOf", vars := ["loop.example/macroexpander/impl.primitives"], fn := fun _ => fun
  | [d, g1] => { results := [.lit (.bool true)], args := [d], vars := [g1] }
  | _ => none }
def fnHeadsOfRow : OpenClaim := { program := "ytindmpmlodllmaagreatdoor", sum := "df7b8fe4de80414015f96e8f82aa93e547dbfc819200a22a13f61b4ce5faf297", func := "loop.example/macroexpander/laws.FnHeadsOf", spec := "fnHeadsOf", inPlace := ["internal/bytealg.IndexByteString"], unfollowed := true, recurses := true, named := ["loop.example/macroexpander/impl.primitives"], apart := false, laid := [("loop.example/macroexpander/impl.primitives", laid_loop_example_macroexpander_impl_primitives)] }
def FnHeadsOfSaid : Prop := fnHeadsOfRow.holds Tryz.pinned (OpenSpec.ofChange fnHeadsOfSpec)

/-- ITS FALSE NEIGHBOUR: 'it returns false'. Refute it at one input. -/
def fnHeadsOfWrong : ChangeSpec := { name := "fnHeadsOf", vars := ["loop.example/macroexpander/impl.primitives"], fn := fun _ => fun
  | [d, g1] => { results := [.lit (.bool false)], args := [d], vars := [g1] }
  | _ => none }
def FnHeadsOfWrongFalsely : Prop := fnHeadsOfRow.holds Tryz.pinned (OpenSpec.ofChange fnHeadsOfWrong)

/-- 'laws.FnOpenNames': WHATEVER THE INPUT: true; the input reads as it did. -/
def fnOpenNamesSpec : ChangeSpec := { name := "fnOpenNames", vars := ["loop.example/macroexpander/impl.primitives"], fn := fun _ => fun
  | [d, g1] => { results := [.lit (.bool true)], args := [d], vars := [g1] }
  | _ => none }
def fnOpenNamesRow : OpenClaim := { program := "ytindmpmlodllmaagreatdoor", sum := "df7b8fe4de80414015f96e8f82aa93e547dbfc819200a22a13f61b4ce5faf297", func := "loop.example/macroexpander/laws.FnOpenNames", spec := "fnOpenNames", inPlace := ["internal/bytealg.IndexByteString"], unfollowed := true, recurses := true, named := ["loop.example/macroexpander/impl.primitives"], apart := false, laid := [("loop.example/macroexpander/impl.primitives", laid_loop_example_macroexpander_impl_primitives)] }
def FnOpenNamesSaid : Prop := fnOpenNamesRow.holds Tryz.pinned (OpenSpec.ofChange fnOpenNamesSpec)

/-- ITS FALSE NEIGHBOUR: 'it returns false'. Refute it at one input. -/
def fnOpenNamesWrong : ChangeSpec := { name := "fnOpenNames", vars := ["loop.example/macroexpander/impl.primitives"], fn := fun _ => fun
  | [d, g1] => { results := [.lit (.bool false)], args := [d], vars := [g1] }
  | _ => none }
def FnOpenNamesWrongFalsely : Prop := fnOpenNamesRow.holds Tryz.pinned (OpenSpec.ofChange fnOpenNamesWrong)

/- THE SECOND FORM. 'bulk': how many values and letters a reading holds, each counted each time it is reached (what is shared counts as often as it is met; a slice's spare places count too). A statement '..UptoSaid' is the law's where the arguments, and the package variables that the reading takes, are together of bulk at most 1048576: NARROWER than '..Said'. Prove '..Said' where nothing that the law and all that it calls make is longer than what came in: it says more and counts as full. Else prove '..UptoSaid'. A law counts once. -/
mutual
def uptoBulk {H : Type} : DataW H → Nat
  | .lit (.string bytes) => bytes.length + 1
  | .lit _ => 1
  | .nil => 1
  | .ptr d => uptoBulk d + 1
  | .slice elems spare => uptoBulkAll elems + uptoBulkAll spare + 1
  | .agg parts => uptoBulkAll parts + 1
  | .iface _ d => uptoBulk d + 1
  | .map entries => uptoBulkEntries entries + 1
  | .held _ => 1
def uptoBulkAll {H : Type} : List (DataW H) → Nat
  | [] => 0
  | d :: r => uptoBulk d + uptoBulkAll r
def uptoBulkEntries {H : Type} : List (Lit × DataW H) → Nat
  | [] => 0
  | x :: r => uptoBulkEntry x + uptoBulkEntries r
def uptoBulkEntry {H : Type} : Lit × DataW H → Nat
  | (.string bytes, d) => bytes.length + uptoBulk d + 1
  | (_, d) => uptoBulk d + 1
 end
def uptoSmall : (H : Type) → List (DataW H) → Bool := fun _ ds => decide (uptoBulkAll ds ≤ 1048576)
def OpenSpec.upto (s : _root_.Go.ChangeSpec) : _root_.Go.OpenSpec := { _root_.Go.OpenSpec.ofChange s with cond := some uptoSmall }

/-- 'laws.FnHeadsOf', WHERE WHAT IT READS IS OF BULK AT MOST 1048576: true; the input reads as it did. -/
def fnHeadsOfUptoRow : OpenClaim := { program := "ytindmpmlodllmaagreatdoor", sum := "df7b8fe4de80414015f96e8f82aa93e547dbfc819200a22a13f61b4ce5faf297", func := "loop.example/macroexpander/laws.FnHeadsOf", spec := "fnHeadsOf", inPlace := ["internal/bytealg.IndexByteString"], unfollowed := true, recurses := true, named := ["loop.example/macroexpander/impl.primitives"], apart := false, laid := [("loop.example/macroexpander/impl.primitives", laid_loop_example_macroexpander_impl_primitives)], narrowed := true }
def FnHeadsOfUptoSaid : Prop := fnHeadsOfUptoRow.holds Tryz.pinned (OpenSpec.upto fnHeadsOfSpec)

/-- 'laws.FnOpenNames', WHERE WHAT IT READS IS OF BULK AT MOST 1048576: true; the input reads as it did. -/
def fnOpenNamesUptoRow : OpenClaim := { program := "ytindmpmlodllmaagreatdoor", sum := "df7b8fe4de80414015f96e8f82aa93e547dbfc819200a22a13f61b4ce5faf297", func := "loop.example/macroexpander/laws.FnOpenNames", spec := "fnOpenNames", inPlace := ["internal/bytealg.IndexByteString"], unfollowed := true, recurses := true, named := ["loop.example/macroexpander/impl.primitives"], apart := false, laid := [("loop.example/macroexpander/impl.primitives", laid_loop_example_macroexpander_impl_primitives)], narrowed := true }
def FnOpenNamesUptoSaid : Prop := fnOpenNamesUptoRow.holds Tryz.pinned (OpenSpec.upto fnOpenNamesSpec)

end Rows
end Go.Proofs.YtindmpmlodllmaaGreatDoor
