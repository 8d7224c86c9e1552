/-
  DERIVED. GIVEN WITH THE SEED: THE CARDS: each row of YtencoplhomeleaaGreatDoorRows.lean that lists a variable, with what it lists TIED to the program's text (the seventh form; the later family's looks); each row that meets fmt, with fmt's text TOLD by the authors' own Lean function (tested against real Go, not proved from fmt's source: count such statements apart). THE CARD IS WHAT COUNTS. Prove the row's statement (the work); the ties are given (YtencoplhomeleaaGreatDoorTie.lean); close each card by the builder's one call (the guide's Derived/Test/ToyasCard.lean, 'card_holds'). Laid BY PROGRAM, IN A SANDBOX (cutbox-door.mjs). By AI agents, Wed Nov 11 2026. No macro, syntax, notation, axiom, sorry.
-/
import Derived.Test.YtencoplhomeleaaGreatDoorRows
import GoSem.ClaimSeven
namespace Go.Proofs.YtencoplhomeleaaGreatDoor
namespace Rows

/-- THE TIED CARD OF 'laws.FnExactSubstituteVar'. -/
def fnExactSubstituteVarCard : Claim7 := { stood := { row := fnExactSubstituteVarRow, standIns := [], harness := (true, "a4fb4924cfa9f8849e4b6d7ab532f5bdd4e64cffd71efd5b564cc55dac90b88c"), looks := true }, kinds := [], alts := [], laidByText := true, laidKinds := [.widerDeep], laidTests := true, laidLooks := .later }
def FnExactSubstituteVarCardSaid : Prop := Claim7.holds Tryz.pinned (.plain (OpenSpec.ofChange fnExactSubstituteVarSpec)) fnExactSubstituteVarCard

/-- THE TIED CARD OF 'laws.FnExactSimplifyCore'. -/
def fnExactSimplifyCoreCard : Claim7 := { stood := { row := fnExactSimplifyCoreRow, standIns := [], harness := (true, "a4fb4924cfa9f8849e4b6d7ab532f5bdd4e64cffd71efd5b564cc55dac90b88c"), looks := true }, kinds := [], alts := [], laidByText := true, laidKinds := [.widerDeep], laidTests := true, laidLooks := .later }
def FnExactSimplifyCoreCardSaid : Prop := Claim7.holds Tryz.pinned (.plain (OpenSpec.ofChange fnExactSimplifyCoreSpec)) fnExactSimplifyCoreCard

/-- THE TIED CARD OF 'laws.FnHeadsParts'. -/
def fnHeadsPartsCard : Claim7 := { stood := { row := fnHeadsPartsRow, standIns := [], harness := (true, "a4fb4924cfa9f8849e4b6d7ab532f5bdd4e64cffd71efd5b564cc55dac90b88c"), looks := true }, kinds := [], alts := [], laidByText := true, laidKinds := [.widerDeep], laidTests := true, laidLooks := .later }
def FnHeadsPartsCardSaid : Prop := Claim7.holds Tryz.pinned (.plain (OpenSpec.ofChange fnHeadsPartsSpec)) fnHeadsPartsCard

/-- THE TIED CARD OF 'laws.FnLibrary'. -/
def fnLibraryCard : Claim7 := { stood := { row := fnLibraryRow, standIns := [], harness := (true, "a4fb4924cfa9f8849e4b6d7ab532f5bdd4e64cffd71efd5b564cc55dac90b88c"), looks := true }, kinds := [], alts := [], laidByText := true, laidKinds := [.data, .data, .data, .data, .sentinel, .sentinel, .widerDeep, .data, .pinned], laidTests := true, laidLooks := .later }
def FnLibraryCardSaid : Prop := Claim7.holds Tryz.pinned (.plain (OpenSpec.ofChange fnLibrarySpec)) fnLibraryCard

/-- THE TIED CARD OF 'laws.FnOpenExpand'. -/
def fnOpenExpandCard : Claim7 := { stood := { row := fnOpenExpandRow, standIns := [], harness := (true, "a4fb4924cfa9f8849e4b6d7ab532f5bdd4e64cffd71efd5b564cc55dac90b88c"), looks := true }, kinds := [], alts := [], laidByText := true, laidKinds := [.widerDeep], laidTests := true, laidLooks := .later }
def FnOpenExpandCardSaid : Prop := Claim7.holds Tryz.pinned (.plain (OpenSpec.ofChange fnOpenExpandSpec)) fnOpenExpandCard

/-- THE TIED CARD OF 'laws.FnExactVarPrefix'. -/
def fnExactVarPrefixCard : Claim7 := { stood := { row := fnExactVarPrefixRow, standIns := [], harness := (true, "a4fb4924cfa9f8849e4b6d7ab532f5bdd4e64cffd71efd5b564cc55dac90b88c"), looks := true }, kinds := [], alts := [], laidByText := true, laidKinds := [.data, .data, .data, .sentinel, .sentinel], laidTests := true, laidLooks := .later }
def FnExactVarPrefixCardSaid : Prop := Claim7.holds Tryz.pinned (.plain (OpenSpec.ofChange fnExactVarPrefixSpec)) fnExactVarPrefixCard

/-- THE SECOND FORM's CARD OF 'laws.FnExactSubstituteVar'. -/
def fnExactSubstituteVarUptoCard : Claim7 := { stood := { row := fnExactSubstituteVarUptoRow, standIns := [], harness := (true, "a4fb4924cfa9f8849e4b6d7ab532f5bdd4e64cffd71efd5b564cc55dac90b88c"), looks := true }, kinds := [], alts := [], laidByText := true, laidKinds := [.widerDeep], laidTests := true, laidLooks := .later }
def FnExactSubstituteVarUptoCardSaid : Prop := Claim7.holds Tryz.pinned (.plain (OpenSpec.upto fnExactSubstituteVarSpec)) fnExactSubstituteVarUptoCard

/-- THE SECOND FORM's CARD OF 'laws.FnExactSimplifyCore'. -/
def fnExactSimplifyCoreUptoCard : Claim7 := { stood := { row := fnExactSimplifyCoreUptoRow, standIns := [], harness := (true, "a4fb4924cfa9f8849e4b6d7ab532f5bdd4e64cffd71efd5b564cc55dac90b88c"), looks := true }, kinds := [], alts := [], laidByText := true, laidKinds := [.widerDeep], laidTests := true, laidLooks := .later }
def FnExactSimplifyCoreUptoCardSaid : Prop := Claim7.holds Tryz.pinned (.plain (OpenSpec.upto fnExactSimplifyCoreSpec)) fnExactSimplifyCoreUptoCard

/-- THE SECOND FORM's CARD OF 'laws.FnHeadsParts'. -/
def fnHeadsPartsUptoCard : Claim7 := { stood := { row := fnHeadsPartsUptoRow, standIns := [], harness := (true, "a4fb4924cfa9f8849e4b6d7ab532f5bdd4e64cffd71efd5b564cc55dac90b88c"), looks := true }, kinds := [], alts := [], laidByText := true, laidKinds := [.widerDeep], laidTests := true, laidLooks := .later }
def FnHeadsPartsUptoCardSaid : Prop := Claim7.holds Tryz.pinned (.plain (OpenSpec.upto fnHeadsPartsSpec)) fnHeadsPartsUptoCard

/-- THE SECOND FORM's CARD OF 'laws.FnLibrary'. -/
def fnLibraryUptoCard : Claim7 := { stood := { row := fnLibraryUptoRow, standIns := [], harness := (true, "a4fb4924cfa9f8849e4b6d7ab532f5bdd4e64cffd71efd5b564cc55dac90b88c"), looks := true }, kinds := [], alts := [], laidByText := true, laidKinds := [.data, .data, .data, .data, .sentinel, .sentinel, .widerDeep, .data, .pinned], laidTests := true, laidLooks := .later }
def FnLibraryUptoCardSaid : Prop := Claim7.holds Tryz.pinned (.plain (OpenSpec.upto fnLibrarySpec)) fnLibraryUptoCard

/-- THE SECOND FORM's CARD OF 'laws.FnOpenExpand'. -/
def fnOpenExpandUptoCard : Claim7 := { stood := { row := fnOpenExpandUptoRow, standIns := [], harness := (true, "a4fb4924cfa9f8849e4b6d7ab532f5bdd4e64cffd71efd5b564cc55dac90b88c"), looks := true }, kinds := [], alts := [], laidByText := true, laidKinds := [.widerDeep], laidTests := true, laidLooks := .later }
def FnOpenExpandUptoCardSaid : Prop := Claim7.holds Tryz.pinned (.plain (OpenSpec.upto fnOpenExpandSpec)) fnOpenExpandUptoCard

/-- THE SECOND FORM's CARD OF 'laws.FnExactVarPrefix'. -/
def fnExactVarPrefixUptoCard : Claim7 := { stood := { row := fnExactVarPrefixUptoRow, standIns := [], harness := (true, "a4fb4924cfa9f8849e4b6d7ab532f5bdd4e64cffd71efd5b564cc55dac90b88c"), looks := true }, kinds := [], alts := [], laidByText := true, laidKinds := [.data, .data, .data, .sentinel, .sentinel], laidTests := true, laidLooks := .later }
def FnExactVarPrefixUptoCardSaid : Prop := Claim7.holds Tryz.pinned (.plain (OpenSpec.upto fnExactVarPrefixSpec)) fnExactVarPrefixUptoCard
end Rows
end Go.Proofs.YtencoplhomeleaaGreatDoor
