/-
  NARROWER THAN 'FOR EVERY INPUT', by the rows' own cells (each row's printed sentence says how): FnExactSubstituteVar: loops, laid · FnExactSimplifyCore: loops, laid · FnHeadsParts: laid · FnLibrary: laid · FnOpenExpand: laid · FnExactVarPrefix: loops, laid.
  DERIVED. THE GIVEN ROWS OF THIS SEAT. 6 by the template 'for every input the law returns true; each argument reads behind the call as it read before'; 0 by the template 'total and deterministic' (their statements: YtencoplhomeleaaGreatDoorTotals.lean).
  GIVEN WITH THE SEED: the statements are not yours to turn. If you find one false, say at which input.
  Laid BY PROGRAM, IN A SANDBOX (cutbox-rows.mjs): the forced cells as the released guide's own fill.sh prints them over the translation f79cf3d55a3e988c… (all of the seat's roots in one cut). By AI agents, Wed Nov 11 2026. No macro, syntax, notation, axiom, sorry.
-/
import Derived.Test.YtencoplhomeleaaGreatDoorChecked
import GoSem.PinnedTables
import GoSem.Claim
import GoSem.ClaimJoined
import GoSem.ClaimMapViews
import Derived.JoinedTies
import Derived.KernelRfl
namespace Go.Proofs.YtencoplhomeleaaGreatDoor
/- THE CELL 'sum', in the pinned program and in every row, IS THE sha256 OF THE DUMP (.gsa) THAT YtencoplhomeleaaGreatDoorProg.lean LOADS. Nothing in Lean hashes anything: it is a label: what it is worth is what the hold of that sum in a sandbox is worth. -/
noncomputable def Tryz.pinned : Pinned := { name := "ytencoplhomeleaagreatdoor", sum := "f79cf3d55a3e988cbdcd62943de2fef9aa7b960e7851fc3b41dac40b3fb6e4c0", checked := Tryz.checked }
namespace Rows
def none {H : Type} : Left H := { results := [], args := [] }

/- WHAT THE LISTED PACKAGE-LEVEL VARIABLES READ AS WHEN THE CALL BEGINS. Each datum BY PROGRAM (the guide's laid-datum.mjs) off the statement by which the dump's own 'gosem.cut.vars' lays the variable. In a bare row this is a premise. The card (YtencoplhomeleaaGreatDoorCards.lean) ties it to the program's text. -/
def laid_loop_example_macroexpander_impl_primitives {H : Type} : DataW H := .agg [.lit (.string [108, 105, 115, 116]), .lit (.string [43]), .lit (.string [60]), .lit (.string [61]), .lit (.string [104, 101, 97, 100]), .lit (.string [116, 97, 105, 108])]
def laid_math_bits_deBruijn32tab {H : Type} : DataW H := .agg [.lit (.int .u8 0), .lit (.int .u8 1), .lit (.int .u8 28), .lit (.int .u8 2), .lit (.int .u8 29), .lit (.int .u8 14), .lit (.int .u8 24), .lit (.int .u8 3), .lit (.int .u8 30), .lit (.int .u8 22), .lit (.int .u8 20), .lit (.int .u8 15), .lit (.int .u8 25), .lit (.int .u8 17), .lit (.int .u8 4), .lit (.int .u8 8), .lit (.int .u8 31), .lit (.int .u8 27), .lit (.int .u8 13), .lit (.int .u8 23), .lit (.int .u8 21), .lit (.int .u8 19), .lit (.int .u8 16), .lit (.int .u8 7), .lit (.int .u8 26), .lit (.int .u8 12), .lit (.int .u8 18), .lit (.int .u8 6), .lit (.int .u8 11), .lit (.int .u8 5), .lit (.int .u8 10), .lit (.int .u8 9)]
def laid_math_bits_deBruijn64tab {H : Type} : DataW H := .agg [.lit (.int .u8 0), .lit (.int .u8 1), .lit (.int .u8 56), .lit (.int .u8 2), .lit (.int .u8 57), .lit (.int .u8 49), .lit (.int .u8 28), .lit (.int .u8 3), .lit (.int .u8 61), .lit (.int .u8 58), .lit (.int .u8 42), .lit (.int .u8 50), .lit (.int .u8 38), .lit (.int .u8 29), .lit (.int .u8 17), .lit (.int .u8 4), .lit (.int .u8 62), .lit (.int .u8 47), .lit (.int .u8 59), .lit (.int .u8 36), .lit (.int .u8 45), .lit (.int .u8 43), .lit (.int .u8 51), .lit (.int .u8 22), .lit (.int .u8 53), .lit (.int .u8 39), .lit (.int .u8 33), .lit (.int .u8 30), .lit (.int .u8 24), .lit (.int .u8 18), .lit (.int .u8 12), .lit (.int .u8 5), .lit (.int .u8 63), .lit (.int .u8 55), .lit (.int .u8 48), .lit (.int .u8 27), .lit (.int .u8 60), .lit (.int .u8 41), .lit (.int .u8 37), .lit (.int .u8 16), .lit (.int .u8 46), .lit (.int .u8 35), .lit (.int .u8 44), .lit (.int .u8 21), .lit (.int .u8 52), .lit (.int .u8 32), .lit (.int .u8 23), .lit (.int .u8 11), .lit (.int .u8 54), .lit (.int .u8 26), .lit (.int .u8 40), .lit (.int .u8 15), .lit (.int .u8 34), .lit (.int .u8 20), .lit (.int .u8 31), .lit (.int .u8 10), .lit (.int .u8 25), .lit (.int .u8 14), .lit (.int .u8 19), .lit (.int .u8 9), .lit (.int .u8 13), .lit (.int .u8 8), .lit (.int .u8 7), .lit (.int .u8 6)]
def laid_internal_strconv_uint64pow10 {H : Type} : DataW H := .agg [.lit (.int .u64 1), .lit (.int .u64 10), .lit (.int .u64 100), .lit (.int .u64 1000), .lit (.int .u64 10000), .lit (.int .u64 100000), .lit (.int .u64 1000000), .lit (.int .u64 10000000), .lit (.int .u64 100000000), .lit (.int .u64 1000000000), .lit (.int .u64 10000000000), .lit (.int .u64 100000000000), .lit (.int .u64 1000000000000), .lit (.int .u64 10000000000000), .lit (.int .u64 100000000000000), .lit (.int .u64 1000000000000000), .lit (.int .u64 10000000000000000), .lit (.int .u64 100000000000000000), .lit (.int .u64 1000000000000000000), .lit (.int .u64 10000000000000000000)]
def laid_unicode_utf8_acceptRanges {H : Type} : DataW H := .agg [.agg [.lit (.int .u8 128), .lit (.int .u8 191)], .agg [.lit (.int .u8 160), .lit (.int .u8 191)], .agg [.lit (.int .u8 128), .lit (.int .u8 159)], .agg [.lit (.int .u8 144), .lit (.int .u8 191)], .agg [.lit (.int .u8 128), .lit (.int .u8 143)], .agg [.lit (.int .u8 0), .lit (.int .u8 0)], .agg [.lit (.int .u8 0), .lit (.int .u8 0)], .agg [.lit (.int .u8 0), .lit (.int .u8 0)], .agg [.lit (.int .u8 0), .lit (.int .u8 0)], .agg [.lit (.int .u8 0), .lit (.int .u8 0)], .agg [.lit (.int .u8 0), .lit (.int .u8 0)], .agg [.lit (.int .u8 0), .lit (.int .u8 0)], .agg [.lit (.int .u8 0), .lit (.int .u8 0)], .agg [.lit (.int .u8 0), .lit (.int .u8 0)], .agg [.lit (.int .u8 0), .lit (.int .u8 0)], .agg [.lit (.int .u8 0), .lit (.int .u8 0)]]
def laid_strconv_ErrRange {H : Type} : DataW H := .iface "*errors.errorString" (.ptr (.agg [.lit (.string [118, 97, 108, 117, 101, 32, 111, 117, 116, 32, 111, 102, 32, 114, 97, 110, 103, 101])]))
def laid_strconv_ErrSyntax {H : Type} : DataW H := .iface "*errors.errorString" (.ptr (.agg [.lit (.string [105, 110, 118, 97, 108, 105, 100, 32, 115, 121, 110, 116, 97, 120])]))
def laid_loop_example_macroexpander_impl_libraryNames {H : Type} : DataW H := .agg [.lit (.string [97, 110, 100]), .lit (.string [111, 114]), .lit (.string [110, 111, 116]), .lit (.string [119, 104, 101, 110]), .lit (.string [99, 111, 110, 100]), .lit (.string [108, 101, 116, 42]), .lit (.string [115, 119, 97, 112])]
def laid_loop_example_macroexpander_impl_libraryRules {H : Type} : DataW H := .agg [.lit (.string [40, 114, 117, 108, 101, 115, 32, 40, 41, 32, 40, 40, 95, 41, 32, 49, 41, 32, 40, 40, 95, 32, 97, 41, 32, 97, 41, 32, 40, 40, 95, 32, 97, 32, 98, 32, 46, 46, 46, 41, 32, 40, 105, 102, 32, 97, 32, 40, 97, 110, 100, 32, 98, 32, 46, 46, 46, 41, 32, 48, 41, 41, 41]), .lit (.string [40, 114, 117, 108, 101, 115, 32, 40, 41, 32, 40, 40, 95, 41, 32, 48, 41, 32, 40, 40, 95, 32, 97, 41, 32, 97, 41, 32, 40, 40, 95, 32, 97, 32, 98, 32, 46, 46, 46, 41, 32, 40, 108, 101, 116, 32, 40, 40, 116, 32, 97, 41, 41, 32, 40, 105, 102, 32, 116, 32, 116, 32, 40, 111, 114, 32, 98, 32, 46, 46, 46, 41, 41, 41, 41, 41]), .lit (.string [40, 114, 117, 108, 101, 115, 32, 40, 41, 32, 40, 40, 95, 32, 97, 41, 32, 40, 105, 102, 32, 97, 32, 48, 32, 49, 41, 41, 41]), .lit (.string [40, 114, 117, 108, 101, 115, 32, 40, 41, 32, 40, 40, 95, 32, 97, 32, 98, 41, 32, 40, 105, 102, 32, 97, 32, 98, 32, 48, 41, 41, 41]), .lit (.string [40, 114, 117, 108, 101, 115, 32, 40, 101, 108, 115, 101, 41, 32, 40, 40, 95, 41, 32, 48, 41, 32, 40, 40, 95, 32, 40, 101, 108, 115, 101, 32, 101, 41, 41, 32, 101, 41, 32, 40, 40, 95, 32, 40, 99, 32, 101, 41, 32, 114, 32, 46, 46, 46, 41, 32, 40, 105, 102, 32, 99, 32, 101, 32, 40, 99, 111, 110, 100, 32, 114, 32, 46, 46, 46, 41, 41, 41, 41]), .lit (.string [40, 114, 117, 108, 101, 115, 32, 40, 41, 32, 40, 40, 95, 32, 40, 41, 32, 98, 41, 32, 98, 41, 32, 40, 40, 95, 32, 40, 40, 120, 32, 118, 41, 32, 114, 32, 46, 46, 46, 41, 32, 98, 41, 32, 40, 108, 101, 116, 32, 40, 40, 120, 32, 118, 41, 41, 32, 40, 108, 101, 116, 42, 32, 40, 114, 32, 46, 46, 46, 41, 32, 98, 41, 41, 41, 41]), .lit (.string [40, 114, 117, 108, 101, 115, 32, 40, 41, 32, 40, 40, 95, 32, 97, 32, 98, 41, 32, 40, 108, 101, 116, 32, 40, 40, 116, 109, 112, 32, 97, 41, 41, 32, 40, 108, 105, 115, 116, 32, 98, 32, 116, 109, 112, 41, 41, 41, 41])]
/-- One of Go's own tables, pinned by name: the form's constant. -/
def laid_unicode_utf8_first : DataW Unit := Go.Pinned.utf8First

/-- 'laws.FnExactSubstituteVar': WHATEVER THE INPUT: true; the input reads as it did. -/
def fnExactSubstituteVarSpec : ChangeSpec := { name := "fnExactSubstituteVar", vars := ["loop.example/macroexpander/impl.primitives"], fn := fun _ => fun
  | [d1, d2, d3, g1] => { results := [.lit (.bool true)], args := [d1, d2, d3], vars := [g1] }
  | _ => none }
def fnExactSubstituteVarRow : OpenClaim := { program := "ytencoplhomeleaagreatdoor", sum := "f79cf3d55a3e988cbdcd62943de2fef9aa7b960e7851fc3b41dac40b3fb6e4c0", func := "loop.example/macroexpander/laws.FnExactSubstituteVar", spec := "fnExactSubstituteVar", inPlace := ["internal/bytealg.IndexByteString"], unfollowed := true, recurses := true, named := ["loop.example/macroexpander/impl.primitives"], loops := true, apart := false, laid := [("loop.example/macroexpander/impl.primitives", laid_loop_example_macroexpander_impl_primitives)] }
def FnExactSubstituteVarSaid : Prop := fnExactSubstituteVarRow.holds Tryz.pinned (OpenSpec.ofChange fnExactSubstituteVarSpec)

/-- ITS FALSE NEIGHBOUR: 'it returns false'. Refute it at one input. -/
def fnExactSubstituteVarWrong : ChangeSpec := { name := "fnExactSubstituteVar", vars := ["loop.example/macroexpander/impl.primitives"], fn := fun _ => fun
  | [d1, d2, d3, g1] => { results := [.lit (.bool false)], args := [d1, d2, d3], vars := [g1] }
  | _ => none }
def FnExactSubstituteVarWrongFalsely : Prop := fnExactSubstituteVarRow.holds Tryz.pinned (OpenSpec.ofChange fnExactSubstituteVarWrong)

/-- 'laws.FnExactSimplifyCore': WHATEVER THE INPUT: true; the input reads as it did. -/
def fnExactSimplifyCoreSpec : ChangeSpec := { name := "fnExactSimplifyCore", vars := ["loop.example/macroexpander/impl.primitives"], fn := fun _ => fun
  | [d, g1] => { results := [.lit (.bool true)], args := [d], vars := [g1] }
  | _ => none }
def fnExactSimplifyCoreRow : OpenClaim := { program := "ytencoplhomeleaagreatdoor", sum := "f79cf3d55a3e988cbdcd62943de2fef9aa7b960e7851fc3b41dac40b3fb6e4c0", func := "loop.example/macroexpander/laws.FnExactSimplifyCore", spec := "fnExactSimplifyCore", inPlace := ["internal/bytealg.IndexByteString"], unfollowed := true, recurses := true, named := ["loop.example/macroexpander/impl.primitives"], loops := true, apart := false, laid := [("loop.example/macroexpander/impl.primitives", laid_loop_example_macroexpander_impl_primitives)] }
def FnExactSimplifyCoreSaid : Prop := fnExactSimplifyCoreRow.holds Tryz.pinned (OpenSpec.ofChange fnExactSimplifyCoreSpec)

/-- ITS FALSE NEIGHBOUR: 'it returns false'. Refute it at one input. -/
def fnExactSimplifyCoreWrong : ChangeSpec := { name := "fnExactSimplifyCore", vars := ["loop.example/macroexpander/impl.primitives"], fn := fun _ => fun
  | [d, g1] => { results := [.lit (.bool false)], args := [d], vars := [g1] }
  | _ => none }
def FnExactSimplifyCoreWrongFalsely : Prop := fnExactSimplifyCoreRow.holds Tryz.pinned (OpenSpec.ofChange fnExactSimplifyCoreWrong)

/-- 'laws.FnHeadsParts': WHATEVER THE INPUT: true; the input reads as it did. -/
def fnHeadsPartsSpec : ChangeSpec := { name := "fnHeadsParts", vars := ["loop.example/macroexpander/impl.primitives"], fn := fun _ => fun
  | [d, g1] => { results := [.lit (.bool true)], args := [d], vars := [g1] }
  | _ => none }
def fnHeadsPartsRow : OpenClaim := { program := "ytencoplhomeleaagreatdoor", sum := "f79cf3d55a3e988cbdcd62943de2fef9aa7b960e7851fc3b41dac40b3fb6e4c0", func := "loop.example/macroexpander/laws.FnHeadsParts", spec := "fnHeadsParts", unfollowed := true, recurses := true, named := ["loop.example/macroexpander/impl.primitives"], apart := false, laid := [("loop.example/macroexpander/impl.primitives", laid_loop_example_macroexpander_impl_primitives)] }
def FnHeadsPartsSaid : Prop := fnHeadsPartsRow.holds Tryz.pinned (OpenSpec.ofChange fnHeadsPartsSpec)

/-- ITS FALSE NEIGHBOUR: 'it returns false'. Refute it at one input. -/
def fnHeadsPartsWrong : ChangeSpec := { name := "fnHeadsParts", vars := ["loop.example/macroexpander/impl.primitives"], fn := fun _ => fun
  | [d, g1] => { results := [.lit (.bool false)], args := [d], vars := [g1] }
  | _ => none }
def FnHeadsPartsWrongFalsely : Prop := fnHeadsPartsRow.holds Tryz.pinned (OpenSpec.ofChange fnHeadsPartsWrong)

/-- 'laws.FnLibrary': WHATEVER THE INPUT: true; the input reads as it did. -/
def fnLibrarySpec : ChangeSpec := { name := "fnLibrary", vars := ["loop.example/macroexpander/impl.libraryNames", "loop.example/macroexpander/impl.libraryRules"], fn := fun _ => fun
  | [d, g1, g2] => { results := [.lit (.bool true)], args := [d], vars := [g1, g2] }
  | _ => none }
def fnLibraryRow : OpenClaim := { program := "ytencoplhomeleaagreatdoor", sum := "f79cf3d55a3e988cbdcd62943de2fef9aa7b960e7851fc3b41dac40b3fb6e4c0", func := "loop.example/macroexpander/laws.FnLibrary", spec := "fnLibrary", inPlace := ["internal/bytealg.IndexByteString", "internal/bytealg.IndexString", "internal/bytealg.CountString"], unfollowed := true, recurses := true, named := ["loop.example/macroexpander/impl.libraryNames", "loop.example/macroexpander/impl.libraryRules", "unicode/utf8.first", "unicode/utf8.acceptRanges", "strconv.ErrSyntax", "strconv.ErrRange", "internal/strconv.uint64pow10", "math/bits.deBruijn32tab", "math/bits.deBruijn64tab", "internal/bytealg.MaxLen"], apart := false, laid := [("math/bits.deBruijn32tab", laid_math_bits_deBruijn32tab), ("math/bits.deBruijn64tab", laid_math_bits_deBruijn64tab), ("internal/strconv.uint64pow10", laid_internal_strconv_uint64pow10), ("unicode/utf8.acceptRanges", laid_unicode_utf8_acceptRanges), ("strconv.ErrRange", laid_strconv_ErrRange), ("strconv.ErrSyntax", laid_strconv_ErrSyntax), ("loop.example/macroexpander/impl.libraryNames", laid_loop_example_macroexpander_impl_libraryNames), ("loop.example/macroexpander/impl.libraryRules", laid_loop_example_macroexpander_impl_libraryRules), ("unicode/utf8.first", laid_unicode_utf8_first)] }
def FnLibrarySaid : Prop := fnLibraryRow.holds Tryz.pinned (OpenSpec.ofChange fnLibrarySpec)

/-- ITS FALSE NEIGHBOUR: 'it returns false'. Refute it at one input. -/
def fnLibraryWrong : ChangeSpec := { name := "fnLibrary", vars := ["loop.example/macroexpander/impl.libraryNames", "loop.example/macroexpander/impl.libraryRules"], fn := fun _ => fun
  | [d, g1, g2] => { results := [.lit (.bool false)], args := [d], vars := [g1, g2] }
  | _ => none }
def FnLibraryWrongFalsely : Prop := fnLibraryRow.holds Tryz.pinned (OpenSpec.ofChange fnLibraryWrong)

/-- 'laws.FnOpenExpand': WHATEVER THE INPUT: true; the input reads as it did. -/
def fnOpenExpandSpec : ChangeSpec := { name := "fnOpenExpand", vars := ["loop.example/macroexpander/impl.primitives"], fn := fun _ => fun
  | [d, g1] => { results := [.lit (.bool true)], args := [d], vars := [g1] }
  | _ => none }
def fnOpenExpandRow : OpenClaim := { program := "ytencoplhomeleaagreatdoor", sum := "f79cf3d55a3e988cbdcd62943de2fef9aa7b960e7851fc3b41dac40b3fb6e4c0", func := "loop.example/macroexpander/laws.FnOpenExpand", spec := "fnOpenExpand", unfollowed := true, recurses := true, named := ["loop.example/macroexpander/impl.primitives"], apart := false, laid := [("loop.example/macroexpander/impl.primitives", laid_loop_example_macroexpander_impl_primitives)] }
def FnOpenExpandSaid : Prop := fnOpenExpandRow.holds Tryz.pinned (OpenSpec.ofChange fnOpenExpandSpec)

/-- ITS FALSE NEIGHBOUR: 'it returns false'. Refute it at one input. -/
def fnOpenExpandWrong : ChangeSpec := { name := "fnOpenExpand", vars := ["loop.example/macroexpander/impl.primitives"], fn := fun _ => fun
  | [d, g1] => { results := [.lit (.bool false)], args := [d], vars := [g1] }
  | _ => none }
def FnOpenExpandWrongFalsely : Prop := fnOpenExpandRow.holds Tryz.pinned (OpenSpec.ofChange fnOpenExpandWrong)

/-- 'laws.FnExactVarPrefix': WHATEVER THE INPUT: true; the input reads as it did. -/
def fnExactVarPrefixSpec : ChangeSpec := { name := "fnExactVarPrefix", fn := fun _ => fun
  | [d] => { results := [.lit (.bool true)], args := [d] }
  | _ => none }
def fnExactVarPrefixRow : OpenClaim := { program := "ytencoplhomeleaagreatdoor", sum := "f79cf3d55a3e988cbdcd62943de2fef9aa7b960e7851fc3b41dac40b3fb6e4c0", func := "loop.example/macroexpander/laws.FnExactVarPrefix", spec := "fnExactVarPrefix", inPlace := ["internal/bytealg.IndexByteString"], unfollowed := true, recurses := true, named := ["strconv.ErrSyntax", "strconv.ErrRange", "internal/strconv.uint64pow10", "math/bits.deBruijn32tab", "math/bits.deBruijn64tab"], loops := true, apart := false, laid := [("math/bits.deBruijn32tab", laid_math_bits_deBruijn32tab), ("math/bits.deBruijn64tab", laid_math_bits_deBruijn64tab), ("internal/strconv.uint64pow10", laid_internal_strconv_uint64pow10), ("strconv.ErrRange", laid_strconv_ErrRange), ("strconv.ErrSyntax", laid_strconv_ErrSyntax)] }
def FnExactVarPrefixSaid : Prop := fnExactVarPrefixRow.holds Tryz.pinned (OpenSpec.ofChange fnExactVarPrefixSpec)

/-- ITS FALSE NEIGHBOUR: 'it returns false'. Refute it at one input. -/
def fnExactVarPrefixWrong : ChangeSpec := { name := "fnExactVarPrefix", fn := fun _ => fun
  | [d] => { results := [.lit (.bool false)], args := [d] }
  | _ => none }
def FnExactVarPrefixWrongFalsely : Prop := fnExactVarPrefixRow.holds Tryz.pinned (OpenSpec.ofChange fnExactVarPrefixWrong)

/- THE SECOND FORM. 'bulk': how many values and letters a reading holds, each counted each time it is reached (what is shared counts as often as it is met; a slice's spare places count too). A statement '..UptoSaid' is the law's where the arguments, and the package variables that the reading takes, are together of bulk at most 1048576: NARROWER than '..Said'. Prove '..Said' where nothing that the law and all that it calls make is longer than what came in: it says more and counts as full. Else prove '..UptoSaid'. A law counts once. -/
mutual
def uptoBulk {H : Type} : DataW H → Nat
  | .lit (.string bytes) => bytes.length + 1
  | .lit _ => 1
  | .nil => 1
  | .ptr d => uptoBulk d + 1
  | .slice elems spare => uptoBulkAll elems + uptoBulkAll spare + 1
  | .agg parts => uptoBulkAll parts + 1
  | .iface _ d => uptoBulk d + 1
  | .map entries => uptoBulkEntries entries + 1
  | .held _ => 1
def uptoBulkAll {H : Type} : List (DataW H) → Nat
  | [] => 0
  | d :: r => uptoBulk d + uptoBulkAll r
def uptoBulkEntries {H : Type} : List (Lit × DataW H) → Nat
  | [] => 0
  | x :: r => uptoBulkEntry x + uptoBulkEntries r
def uptoBulkEntry {H : Type} : Lit × DataW H → Nat
  | (.string bytes, d) => bytes.length + uptoBulk d + 1
  | (_, d) => uptoBulk d + 1
 end
def uptoSmall : (H : Type) → List (DataW H) → Bool := fun _ ds => decide (uptoBulkAll ds ≤ 1048576)
def OpenSpec.upto (s : _root_.Go.ChangeSpec) : _root_.Go.OpenSpec := { _root_.Go.OpenSpec.ofChange s with cond := some uptoSmall }

/-- 'laws.FnExactSubstituteVar', WHERE WHAT IT READS IS OF BULK AT MOST 1048576: true; the input reads as it did. -/
def fnExactSubstituteVarUptoRow : OpenClaim := { program := "ytencoplhomeleaagreatdoor", sum := "f79cf3d55a3e988cbdcd62943de2fef9aa7b960e7851fc3b41dac40b3fb6e4c0", func := "loop.example/macroexpander/laws.FnExactSubstituteVar", spec := "fnExactSubstituteVar", inPlace := ["internal/bytealg.IndexByteString"], unfollowed := true, recurses := true, named := ["loop.example/macroexpander/impl.primitives"], loops := true, apart := false, laid := [("loop.example/macroexpander/impl.primitives", laid_loop_example_macroexpander_impl_primitives)], narrowed := true }
def FnExactSubstituteVarUptoSaid : Prop := fnExactSubstituteVarUptoRow.holds Tryz.pinned (OpenSpec.upto fnExactSubstituteVarSpec)

/-- 'laws.FnExactSimplifyCore', WHERE WHAT IT READS IS OF BULK AT MOST 1048576: true; the input reads as it did. -/
def fnExactSimplifyCoreUptoRow : OpenClaim := { program := "ytencoplhomeleaagreatdoor", sum := "f79cf3d55a3e988cbdcd62943de2fef9aa7b960e7851fc3b41dac40b3fb6e4c0", func := "loop.example/macroexpander/laws.FnExactSimplifyCore", spec := "fnExactSimplifyCore", inPlace := ["internal/bytealg.IndexByteString"], unfollowed := true, recurses := true, named := ["loop.example/macroexpander/impl.primitives"], loops := true, apart := false, laid := [("loop.example/macroexpander/impl.primitives", laid_loop_example_macroexpander_impl_primitives)], narrowed := true }
def FnExactSimplifyCoreUptoSaid : Prop := fnExactSimplifyCoreUptoRow.holds Tryz.pinned (OpenSpec.upto fnExactSimplifyCoreSpec)

/-- 'laws.FnHeadsParts', WHERE WHAT IT READS IS OF BULK AT MOST 1048576: true; the input reads as it did. -/
def fnHeadsPartsUptoRow : OpenClaim := { program := "ytencoplhomeleaagreatdoor", sum := "f79cf3d55a3e988cbdcd62943de2fef9aa7b960e7851fc3b41dac40b3fb6e4c0", func := "loop.example/macroexpander/laws.FnHeadsParts", spec := "fnHeadsParts", unfollowed := true, recurses := true, named := ["loop.example/macroexpander/impl.primitives"], apart := false, laid := [("loop.example/macroexpander/impl.primitives", laid_loop_example_macroexpander_impl_primitives)], narrowed := true }
def FnHeadsPartsUptoSaid : Prop := fnHeadsPartsUptoRow.holds Tryz.pinned (OpenSpec.upto fnHeadsPartsSpec)

/-- 'laws.FnLibrary', WHERE WHAT IT READS IS OF BULK AT MOST 1048576: true; the input reads as it did. -/
def fnLibraryUptoRow : OpenClaim := { program := "ytencoplhomeleaagreatdoor", sum := "f79cf3d55a3e988cbdcd62943de2fef9aa7b960e7851fc3b41dac40b3fb6e4c0", func := "loop.example/macroexpander/laws.FnLibrary", spec := "fnLibrary", inPlace := ["internal/bytealg.IndexByteString", "internal/bytealg.IndexString", "internal/bytealg.CountString"], unfollowed := true, recurses := true, named := ["loop.example/macroexpander/impl.libraryNames", "loop.example/macroexpander/impl.libraryRules", "unicode/utf8.first", "unicode/utf8.acceptRanges", "strconv.ErrSyntax", "strconv.ErrRange", "internal/strconv.uint64pow10", "math/bits.deBruijn32tab", "math/bits.deBruijn64tab", "internal/bytealg.MaxLen"], apart := false, laid := [("math/bits.deBruijn32tab", laid_math_bits_deBruijn32tab), ("math/bits.deBruijn64tab", laid_math_bits_deBruijn64tab), ("internal/strconv.uint64pow10", laid_internal_strconv_uint64pow10), ("unicode/utf8.acceptRanges", laid_unicode_utf8_acceptRanges), ("strconv.ErrRange", laid_strconv_ErrRange), ("strconv.ErrSyntax", laid_strconv_ErrSyntax), ("loop.example/macroexpander/impl.libraryNames", laid_loop_example_macroexpander_impl_libraryNames), ("loop.example/macroexpander/impl.libraryRules", laid_loop_example_macroexpander_impl_libraryRules), ("unicode/utf8.first", laid_unicode_utf8_first)], narrowed := true }
def FnLibraryUptoSaid : Prop := fnLibraryUptoRow.holds Tryz.pinned (OpenSpec.upto fnLibrarySpec)

/-- 'laws.FnOpenExpand', WHERE WHAT IT READS IS OF BULK AT MOST 1048576: true; the input reads as it did. -/
def fnOpenExpandUptoRow : OpenClaim := { program := "ytencoplhomeleaagreatdoor", sum := "f79cf3d55a3e988cbdcd62943de2fef9aa7b960e7851fc3b41dac40b3fb6e4c0", func := "loop.example/macroexpander/laws.FnOpenExpand", spec := "fnOpenExpand", unfollowed := true, recurses := true, named := ["loop.example/macroexpander/impl.primitives"], apart := false, laid := [("loop.example/macroexpander/impl.primitives", laid_loop_example_macroexpander_impl_primitives)], narrowed := true }
def FnOpenExpandUptoSaid : Prop := fnOpenExpandUptoRow.holds Tryz.pinned (OpenSpec.upto fnOpenExpandSpec)

/-- 'laws.FnExactVarPrefix', WHERE WHAT IT READS IS OF BULK AT MOST 1048576: true; the input reads as it did. -/
def fnExactVarPrefixUptoRow : OpenClaim := { program := "ytencoplhomeleaagreatdoor", sum := "f79cf3d55a3e988cbdcd62943de2fef9aa7b960e7851fc3b41dac40b3fb6e4c0", func := "loop.example/macroexpander/laws.FnExactVarPrefix", spec := "fnExactVarPrefix", inPlace := ["internal/bytealg.IndexByteString"], unfollowed := true, recurses := true, named := ["strconv.ErrSyntax", "strconv.ErrRange", "internal/strconv.uint64pow10", "math/bits.deBruijn32tab", "math/bits.deBruijn64tab"], loops := true, apart := false, laid := [("math/bits.deBruijn32tab", laid_math_bits_deBruijn32tab), ("math/bits.deBruijn64tab", laid_math_bits_deBruijn64tab), ("internal/strconv.uint64pow10", laid_internal_strconv_uint64pow10), ("strconv.ErrRange", laid_strconv_ErrRange), ("strconv.ErrSyntax", laid_strconv_ErrSyntax)], narrowed := true }
def FnExactVarPrefixUptoSaid : Prop := fnExactVarPrefixUptoRow.holds Tryz.pinned (OpenSpec.upto fnExactVarPrefixSpec)

end Rows
end Go.Proofs.YtencoplhomeleaaGreatDoor
