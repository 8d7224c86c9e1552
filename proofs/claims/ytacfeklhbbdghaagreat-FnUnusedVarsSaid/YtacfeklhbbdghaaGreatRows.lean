/-
  No cell of these rows narrows 'for every input' (looked for: loops, veiled, ifaces, maps, wideKeys, modest, calm, conditions, laid).
  DERIVED. THE GIVEN ROWS OF THIS SEAT. 2 by the template 'for every input the law returns true; each argument reads behind the call as it read before'; 0 by the template 'total and deterministic' (their statements: YtacfeklhbbdghaaGreatTotals.lean).
  GIVEN WITH THE SEED: the statements are not yours to turn. If you find one false, say at which input.
  Laid BY PROGRAM, IN A SANDBOX (cutbox-rows.mjs): the forced cells as the released guide's own fill.sh prints them over the translation 44f86402c9c046f1… (all of the seat's roots in one cut). By AI agents, Wed Nov 11 2026. No macro, syntax, notation, axiom, sorry.
-/
import Derived.Test.YtacfeklhbbdghaaGreatChecked
import GoSem.Claim
import GoSem.ClaimJoined
import GoSem.ClaimMapViews
import Derived.JoinedTies
import Derived.KernelRfl
namespace Go.Proofs.YtacfeklhbbdghaaGreat
/- THE CELL 'sum', in the pinned program and in every row, IS THE sha256 OF THE DUMP (.gsa) THAT YtacfeklhbbdghaaGreatProg.lean LOADS. Nothing in Lean hashes anything: it is a label: what it is worth is what the hold of that sum in a sandbox is worth. -/
noncomputable def Tryz.pinned : Pinned := { name := "ytacfeklhbbdghaagreat", sum := "44f86402c9c046f16cdfd384d2ad914ca6bf2289b096336a3466558aa499cc66", checked := Tryz.checked }
namespace Rows
def none {H : Type} : Left H := { results := [], args := [] }

/-- 'laws.FnUnusedVars': WHATEVER THE INPUT: true; the input reads as it did. -/
def fnUnusedVarsSpec : ChangeSpec := { name := "fnUnusedVars", fn := fun _ => fun
  | [d] => { results := [.lit (.bool true)], args := [d] }
  | _ => none }
def fnUnusedVarsRow : OpenClaim := { program := "ytacfeklhbbdghaagreat", sum := "44f86402c9c046f16cdfd384d2ad914ca6bf2289b096336a3466558aa499cc66", func := "loop.example/macroexpander/laws.FnUnusedVars", spec := "fnUnusedVars", inPlace := ["internal/bytealg.IndexByteString"], unfollowed := true, recurses := true, apart := false }
def FnUnusedVarsSaid : Prop := fnUnusedVarsRow.holds Tryz.pinned (OpenSpec.ofChange fnUnusedVarsSpec)

/-- ITS FALSE NEIGHBOUR: 'it returns false'. Refute it at one input. -/
def fnUnusedVarsWrong : ChangeSpec := { name := "fnUnusedVars", fn := fun _ => fun
  | [d] => { results := [.lit (.bool false)], args := [d] }
  | _ => none }
def FnUnusedVarsWrongFalsely : Prop := fnUnusedVarsRow.holds Tryz.pinned (OpenSpec.ofChange fnUnusedVarsWrong)

/-- 'laws.FnUnusedKept': WHATEVER THE INPUT: true; the input reads as it did. -/
def fnUnusedKeptSpec : ChangeSpec := { name := "fnUnusedKept", fn := fun _ => fun
  | [d] => { results := [.lit (.bool true)], args := [d] }
  | _ => none }
def fnUnusedKeptRow : OpenClaim := { program := "ytacfeklhbbdghaagreat", sum := "44f86402c9c046f16cdfd384d2ad914ca6bf2289b096336a3466558aa499cc66", func := "loop.example/macroexpander/laws.FnUnusedKept", spec := "fnUnusedKept", inPlace := ["internal/bytealg.IndexByteString"], unfollowed := true, recurses := true, apart := false }
def FnUnusedKeptSaid : Prop := fnUnusedKeptRow.holds Tryz.pinned (OpenSpec.ofChange fnUnusedKeptSpec)

/-- ITS FALSE NEIGHBOUR: 'it returns false'. Refute it at one input. -/
def fnUnusedKeptWrong : ChangeSpec := { name := "fnUnusedKept", fn := fun _ => fun
  | [d] => { results := [.lit (.bool false)], args := [d] }
  | _ => none }
def FnUnusedKeptWrongFalsely : Prop := fnUnusedKeptRow.holds Tryz.pinned (OpenSpec.ofChange fnUnusedKeptWrong)

/- THE SECOND FORM. 'bulk': how many values and letters a reading holds, each counted each time it is reached (what is shared counts as often as it is met; a slice's spare places count too). A statement '..UptoSaid' is the law's where the arguments, and the package variables that the reading takes, are together of bulk at most 1048576: NARROWER than '..Said'. Prove '..Said' where nothing that the law and all that it calls make is longer than what came in: it says more and counts as full. Else prove '..UptoSaid'. A law counts once. -/
mutual
def uptoBulk {H : Type} : DataW H → Nat
  | .lit (.string bytes) => bytes.length + 1
  | .lit _ => 1
  | .nil => 1
  | .ptr d => uptoBulk d + 1
  | .slice elems spare => uptoBulkAll elems + uptoBulkAll spare + 1
  | .agg parts => uptoBulkAll parts + 1
  | .iface _ d => uptoBulk d + 1
  | .map entries => uptoBulkEntries entries + 1
  | .held _ => 1
def uptoBulkAll {H : Type} : List (DataW H) → Nat
  | [] => 0
  | d :: r => uptoBulk d + uptoBulkAll r
def uptoBulkEntries {H : Type} : List (Lit × DataW H) → Nat
  | [] => 0
  | x :: r => uptoBulkEntry x + uptoBulkEntries r
def uptoBulkEntry {H : Type} : Lit × DataW H → Nat
  | (.string bytes, d) => bytes.length + uptoBulk d + 1
  | (_, d) => uptoBulk d + 1
 end
def uptoSmall : (H : Type) → List (DataW H) → Bool := fun _ ds => decide (uptoBulkAll ds ≤ 1048576)
def OpenSpec.upto (s : _root_.Go.ChangeSpec) : _root_.Go.OpenSpec := { _root_.Go.OpenSpec.ofChange s with cond := some uptoSmall }

/-- 'laws.FnUnusedVars', WHERE WHAT IT READS IS OF BULK AT MOST 1048576: true; the input reads as it did. -/
def fnUnusedVarsUptoRow : OpenClaim := { program := "ytacfeklhbbdghaagreat", sum := "44f86402c9c046f16cdfd384d2ad914ca6bf2289b096336a3466558aa499cc66", func := "loop.example/macroexpander/laws.FnUnusedVars", spec := "fnUnusedVars", inPlace := ["internal/bytealg.IndexByteString"], unfollowed := true, recurses := true, apart := false, narrowed := true }
def FnUnusedVarsUptoSaid : Prop := fnUnusedVarsUptoRow.holds Tryz.pinned (OpenSpec.upto fnUnusedVarsSpec)

/-- 'laws.FnUnusedKept', WHERE WHAT IT READS IS OF BULK AT MOST 1048576: true; the input reads as it did. -/
def fnUnusedKeptUptoRow : OpenClaim := { program := "ytacfeklhbbdghaagreat", sum := "44f86402c9c046f16cdfd384d2ad914ca6bf2289b096336a3466558aa499cc66", func := "loop.example/macroexpander/laws.FnUnusedKept", spec := "fnUnusedKept", inPlace := ["internal/bytealg.IndexByteString"], unfollowed := true, recurses := true, apart := false, narrowed := true }
def FnUnusedKeptUptoSaid : Prop := fnUnusedKeptUptoRow.holds Tryz.pinned (OpenSpec.upto fnUnusedKeptSpec)

end Rows
end Go.Proofs.YtacfeklhbbdghaaGreat
