/-
  NARROWER THAN 'FOR EVERY INPUT', by the rows' own cells (each row's printed sentence says how): FnExactCoreDepth: loops · FnExactVarUses: loops.
  DERIVED. THE GIVEN ROWS OF THIS SEAT. 3 by the template 'for every input the law returns true; each argument reads behind the call as it read before'; 0 by the template 'total and deterministic' (their statements: YtbifcdaablhljaaTotals.lean).
  GIVEN WITH THE SEED: the statements are not yours to turn. If you find one false, say at which input.
  Laid BY PROGRAM, IN A SANDBOX (cutbox-rows.mjs): the forced cells as the released guide's own fill.sh prints them over the translation c9a7c7881dc9c541… (all of the seat's roots in one cut). By AI agents, Wed Nov 11 2026. No macro, syntax, notation, axiom, sorry.
-/
import Derived.Test.YtbifcdaablhljaaChecked
import GoSem.Claim
import GoSem.ClaimJoined
import GoSem.ClaimMapViews
import Derived.JoinedTies
import Derived.KernelRfl
namespace Go.Proofs.Ytbifcdaablhljaa
/- THE CELL 'sum', in the pinned program and in every row, IS THE sha256 OF THE DUMP (.gsa) THAT YtbifcdaablhljaaProg.lean LOADS. Nothing in Lean hashes anything: it is a label: what it is worth is what the hold of that sum in a sandbox is worth. -/
noncomputable def Try.pinned : Pinned := { name := "ytbifcdaablhljaa", sum := "c9a7c7881dc9c541c82a25a0a31a14ebe16d28aad2990cf6c388b146a1b3d79e", checked := Try.checked }
namespace Rows
def none {H : Type} : Left H := { results := [], args := [] }

/-- 'laws.FnDepthParts': WHATEVER THE INPUT: true; the input reads as it did. -/
def fnDepthPartsSpec : ChangeSpec := { name := "fnDepthParts", fn := fun _ => fun
  | [d] => { results := [.lit (.bool true)], args := [d] }
  | _ => none }
def fnDepthPartsRow : OpenClaim := { program := "ytbifcdaablhljaa", sum := "c9a7c7881dc9c541c82a25a0a31a14ebe16d28aad2990cf6c388b146a1b3d79e", func := "loop.example/macroexpander/laws.FnDepthParts", spec := "fnDepthParts", recurses := true, apart := false }
def FnDepthPartsSaid : Prop := fnDepthPartsRow.holds Try.pinned (OpenSpec.ofChange fnDepthPartsSpec)

/-- ITS FALSE NEIGHBOUR: 'it returns false'. Refute it at one input. -/
def fnDepthPartsWrong : ChangeSpec := { name := "fnDepthParts", fn := fun _ => fun
  | [d] => { results := [.lit (.bool false)], args := [d] }
  | _ => none }
def FnDepthPartsWrongFalsely : Prop := fnDepthPartsRow.holds Try.pinned (OpenSpec.ofChange fnDepthPartsWrong)

/-- 'laws.FnExactCoreDepth': WHATEVER THE INPUT: true; the input reads as it did. -/
def fnExactCoreDepthSpec : ChangeSpec := { name := "fnExactCoreDepth", fn := fun _ => fun
  | [d] => { results := [.lit (.bool true)], args := [d] }
  | _ => none }
def fnExactCoreDepthRow : OpenClaim := { program := "ytbifcdaablhljaa", sum := "c9a7c7881dc9c541c82a25a0a31a14ebe16d28aad2990cf6c388b146a1b3d79e", func := "loop.example/macroexpander/laws.FnExactCoreDepth", spec := "fnExactCoreDepth", recurses := true, loops := true, apart := false }
def FnExactCoreDepthSaid : Prop := fnExactCoreDepthRow.holds Try.pinned (OpenSpec.ofChange fnExactCoreDepthSpec)

/-- ITS FALSE NEIGHBOUR: 'it returns false'. Refute it at one input. -/
def fnExactCoreDepthWrong : ChangeSpec := { name := "fnExactCoreDepth", fn := fun _ => fun
  | [d] => { results := [.lit (.bool false)], args := [d] }
  | _ => none }
def FnExactCoreDepthWrongFalsely : Prop := fnExactCoreDepthRow.holds Try.pinned (OpenSpec.ofChange fnExactCoreDepthWrong)

/-- 'laws.FnExactVarUses': WHATEVER THE INPUT: true; the input reads as it did. -/
def fnExactVarUsesSpec : ChangeSpec := { name := "fnExactVarUses", fn := fun _ => fun
  | [d1, d2] => { results := [.lit (.bool true)], args := [d1, d2] }
  | _ => none }
def fnExactVarUsesRow : OpenClaim := { program := "ytbifcdaablhljaa", sum := "c9a7c7881dc9c541c82a25a0a31a14ebe16d28aad2990cf6c388b146a1b3d79e", func := "loop.example/macroexpander/laws.FnExactVarUses", spec := "fnExactVarUses", unfollowed := true, recurses := true, loops := true, apart := false }
def FnExactVarUsesSaid : Prop := fnExactVarUsesRow.holds Try.pinned (OpenSpec.ofChange fnExactVarUsesSpec)

/-- ITS FALSE NEIGHBOUR: 'it returns false'. Refute it at one input. -/
def fnExactVarUsesWrong : ChangeSpec := { name := "fnExactVarUses", fn := fun _ => fun
  | [d1, d2] => { results := [.lit (.bool false)], args := [d1, d2] }
  | _ => none }
def FnExactVarUsesWrongFalsely : Prop := fnExactVarUsesRow.holds Try.pinned (OpenSpec.ofChange fnExactVarUsesWrong)

/- THE SECOND FORM. 'bulk': how many values and letters a reading holds, each counted each time it is reached (what is shared counts as often as it is met; a slice's spare places count too). A statement '..UptoSaid' is the law's where the arguments, and the package variables that the reading takes, are together of bulk at most 1048576: NARROWER than '..Said'. Prove '..Said' where nothing that the law and all that it calls make is longer than what came in: it says more and counts as full. Else prove '..UptoSaid'. A law counts once. -/
mutual
def uptoBulk {H : Type} : DataW H → Nat
  | .lit (.string bytes) => bytes.length + 1
  | .lit _ => 1
  | .nil => 1
  | .ptr d => uptoBulk d + 1
  | .slice elems spare => uptoBulkAll elems + uptoBulkAll spare + 1
  | .agg parts => uptoBulkAll parts + 1
  | .iface _ d => uptoBulk d + 1
  | .map entries => uptoBulkEntries entries + 1
  | .held _ => 1
def uptoBulkAll {H : Type} : List (DataW H) → Nat
  | [] => 0
  | d :: r => uptoBulk d + uptoBulkAll r
def uptoBulkEntries {H : Type} : List (Lit × DataW H) → Nat
  | [] => 0
  | x :: r => uptoBulkEntry x + uptoBulkEntries r
def uptoBulkEntry {H : Type} : Lit × DataW H → Nat
  | (.string bytes, d) => bytes.length + uptoBulk d + 1
  | (_, d) => uptoBulk d + 1
 end
def uptoSmall : (H : Type) → List (DataW H) → Bool := fun _ ds => decide (uptoBulkAll ds ≤ 1048576)
def OpenSpec.upto (s : _root_.Go.ChangeSpec) : _root_.Go.OpenSpec := { _root_.Go.OpenSpec.ofChange s with cond := some uptoSmall }

/-- 'laws.FnDepthParts', WHERE WHAT IT READS IS OF BULK AT MOST 1048576: true; the input reads as it did. -/
def fnDepthPartsUptoRow : OpenClaim := { program := "ytbifcdaablhljaa", sum := "c9a7c7881dc9c541c82a25a0a31a14ebe16d28aad2990cf6c388b146a1b3d79e", func := "loop.example/macroexpander/laws.FnDepthParts", spec := "fnDepthParts", recurses := true, apart := false, narrowed := true }
def FnDepthPartsUptoSaid : Prop := fnDepthPartsUptoRow.holds Try.pinned (OpenSpec.upto fnDepthPartsSpec)

/-- 'laws.FnExactCoreDepth', WHERE WHAT IT READS IS OF BULK AT MOST 1048576: true; the input reads as it did. -/
def fnExactCoreDepthUptoRow : OpenClaim := { program := "ytbifcdaablhljaa", sum := "c9a7c7881dc9c541c82a25a0a31a14ebe16d28aad2990cf6c388b146a1b3d79e", func := "loop.example/macroexpander/laws.FnExactCoreDepth", spec := "fnExactCoreDepth", recurses := true, loops := true, apart := false, narrowed := true }
def FnExactCoreDepthUptoSaid : Prop := fnExactCoreDepthUptoRow.holds Try.pinned (OpenSpec.upto fnExactCoreDepthSpec)

/-- 'laws.FnExactVarUses', WHERE WHAT IT READS IS OF BULK AT MOST 1048576: true; the input reads as it did. -/
def fnExactVarUsesUptoRow : OpenClaim := { program := "ytbifcdaablhljaa", sum := "c9a7c7881dc9c541c82a25a0a31a14ebe16d28aad2990cf6c388b146a1b3d79e", func := "loop.example/macroexpander/laws.FnExactVarUses", spec := "fnExactVarUses", unfollowed := true, recurses := true, loops := true, apart := false, narrowed := true }
def FnExactVarUsesUptoSaid : Prop := fnExactVarUsesUptoRow.holds Try.pinned (OpenSpec.upto fnExactVarUsesSpec)

end Rows
end Go.Proofs.Ytbifcdaablhljaa
