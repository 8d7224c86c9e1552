/-
  DERIVED. GIVEN WITH THE SEED: THE CARDS: each row of YtbifcdaablhljaaDoorRows.lean that lists a variable, with what it lists TIED to the program's text (the seventh form; the later family's looks); each row that meets fmt, with fmt's text TOLD by the authors' own Lean function (tested against real Go, not proved from fmt's source: count such statements apart). THE CARD IS WHAT COUNTS. Prove the row's statement (the work); the ties are given (YtbifcdaablhljaaDoorTie.lean); close each card by the builder's one call (the guide's Derived/Test/ToyasCard.lean, 'card_holds'). Laid BY PROGRAM, IN A SANDBOX (cutbox-door.mjs). By AI agents, Wed Nov 11 2026. No macro, syntax, notation, axiom, sorry.
-/
import Derived.Test.YtbifcdaablhljaaDoorRows
import GoSem.ClaimSeven
namespace Go.Proofs.YtbifcdaablhljaaDoor
namespace Rows

/-- THE TIED CARD OF 'laws.FnExactLibraryRules'. -/
def fnExactLibraryRulesCard : Claim7 := { stood := { row := fnExactLibraryRulesRow, standIns := [], harness := (true, "8063266b7f9a23e2b26154f0f1313645bd2936b8f805b89ab7489a2cbefe0164"), looks := false }, kinds := [], alts := [], laidByText := true, laidKinds := [.widerDeep, .data], laidTests := true, laidLooks := .later }
def FnExactLibraryRulesCardSaid : Prop := Claim7.holds Tryd.pinned (.plain (OpenSpec.ofChange fnExactLibraryRulesSpec)) fnExactLibraryRulesCard

/-- THE TIED CARD OF 'laws.FnExactLibraryNames'. -/
def fnExactLibraryNamesCard : Claim7 := { stood := { row := fnExactLibraryNamesRow, standIns := [], harness := (true, "8063266b7f9a23e2b26154f0f1313645bd2936b8f805b89ab7489a2cbefe0164"), looks := false }, kinds := [], alts := [], laidByText := true, laidKinds := [.widerDeep], laidTests := true, laidLooks := .later }
def FnExactLibraryNamesCardSaid : Prop := Claim7.holds Tryd.pinned (.plain (OpenSpec.ofChange fnExactLibraryNamesSpec)) fnExactLibraryNamesCard

/-- THE TIED CARD OF 'laws.FnExactCoreAtom'. -/
def fnExactCoreAtomCard : Claim7 := { stood := { row := fnExactCoreAtomRow, standIns := [], harness := (true, "8063266b7f9a23e2b26154f0f1313645bd2936b8f805b89ab7489a2cbefe0164"), looks := false }, kinds := [], alts := [], laidByText := true, laidKinds := [.widerDeep], laidTests := true, laidLooks := .later }
def FnExactCoreAtomCardSaid : Prop := Claim7.holds Tryd.pinned (.plain (OpenSpec.ofChange fnExactCoreAtomSpec)) fnExactCoreAtomCard

/-- THE TIED CARD OF 'laws.FnExactNeededMacros'. -/
def fnExactNeededMacrosCard : Claim7 := { stood := { row := fnExactNeededMacrosRow, standIns := [], harness := (true, "8063266b7f9a23e2b26154f0f1313645bd2936b8f805b89ab7489a2cbefe0164"), looks := false }, kinds := [], alts := [], laidByText := true, laidKinds := [.widerDeep], laidTests := true, laidLooks := .later }
def FnExactNeededMacrosCardSaid : Prop := Claim7.holds Tryd.pinned (.plain (OpenSpec.ofChange fnExactNeededMacrosSpec)) fnExactNeededMacrosCard

/-- THE TIED CARD OF 'laws.FnExactHeadsOf'. -/
def fnExactHeadsOfCard : Claim7 := { stood := { row := fnExactHeadsOfRow, standIns := [], harness := (true, "8063266b7f9a23e2b26154f0f1313645bd2936b8f805b89ab7489a2cbefe0164"), looks := false }, kinds := [], alts := [], laidByText := true, laidKinds := [.widerDeep], laidTests := true, laidLooks := .later }
def FnExactHeadsOfCardSaid : Prop := Claim7.holds Tryd.pinned (.plain (OpenSpec.ofChange fnExactHeadsOfSpec)) fnExactHeadsOfCard

/-- THE TIED CARD OF 'laws.FnExactOpenNames'. -/
def fnExactOpenNamesCard : Claim7 := { stood := { row := fnExactOpenNamesRow, standIns := [], harness := (true, "8063266b7f9a23e2b26154f0f1313645bd2936b8f805b89ab7489a2cbefe0164"), looks := false }, kinds := [], alts := [], laidByText := true, laidKinds := [.widerDeep], laidTests := true, laidLooks := .later }
def FnExactOpenNamesCardSaid : Prop := Claim7.holds Tryd.pinned (.plain (OpenSpec.ofChange fnExactOpenNamesSpec)) fnExactOpenNamesCard

/-- THE TIED CARD OF 'laws.FnNeededMacros'. -/
def fnNeededMacrosCard : Claim7 := { stood := { row := fnNeededMacrosRow, standIns := [], harness := (true, "8063266b7f9a23e2b26154f0f1313645bd2936b8f805b89ab7489a2cbefe0164"), looks := false }, kinds := [], alts := [], laidByText := true, laidKinds := [.widerDeep], laidTests := true, laidLooks := .later }
def FnNeededMacrosCardSaid : Prop := Claim7.holds Tryd.pinned (.plain (OpenSpec.ofChange fnNeededMacrosSpec)) fnNeededMacrosCard

/-- THE SECOND FORM's CARD OF 'laws.FnExactLibraryRules'. -/
def fnExactLibraryRulesUptoCard : Claim7 := { stood := { row := fnExactLibraryRulesUptoRow, standIns := [], harness := (true, "8063266b7f9a23e2b26154f0f1313645bd2936b8f805b89ab7489a2cbefe0164"), looks := false }, kinds := [], alts := [], laidByText := true, laidKinds := [.widerDeep, .data], laidTests := true, laidLooks := .later }
def FnExactLibraryRulesUptoCardSaid : Prop := Claim7.holds Tryd.pinned (.plain (OpenSpec.upto fnExactLibraryRulesSpec)) fnExactLibraryRulesUptoCard

/-- THE SECOND FORM's CARD OF 'laws.FnExactLibraryNames'. -/
def fnExactLibraryNamesUptoCard : Claim7 := { stood := { row := fnExactLibraryNamesUptoRow, standIns := [], harness := (true, "8063266b7f9a23e2b26154f0f1313645bd2936b8f805b89ab7489a2cbefe0164"), looks := false }, kinds := [], alts := [], laidByText := true, laidKinds := [.widerDeep], laidTests := true, laidLooks := .later }
def FnExactLibraryNamesUptoCardSaid : Prop := Claim7.holds Tryd.pinned (.plain (OpenSpec.upto fnExactLibraryNamesSpec)) fnExactLibraryNamesUptoCard

/-- THE SECOND FORM's CARD OF 'laws.FnExactCoreAtom'. -/
def fnExactCoreAtomUptoCard : Claim7 := { stood := { row := fnExactCoreAtomUptoRow, standIns := [], harness := (true, "8063266b7f9a23e2b26154f0f1313645bd2936b8f805b89ab7489a2cbefe0164"), looks := false }, kinds := [], alts := [], laidByText := true, laidKinds := [.widerDeep], laidTests := true, laidLooks := .later }
def FnExactCoreAtomUptoCardSaid : Prop := Claim7.holds Tryd.pinned (.plain (OpenSpec.upto fnExactCoreAtomSpec)) fnExactCoreAtomUptoCard

/-- THE SECOND FORM's CARD OF 'laws.FnExactNeededMacros'. -/
def fnExactNeededMacrosUptoCard : Claim7 := { stood := { row := fnExactNeededMacrosUptoRow, standIns := [], harness := (true, "8063266b7f9a23e2b26154f0f1313645bd2936b8f805b89ab7489a2cbefe0164"), looks := false }, kinds := [], alts := [], laidByText := true, laidKinds := [.widerDeep], laidTests := true, laidLooks := .later }
def FnExactNeededMacrosUptoCardSaid : Prop := Claim7.holds Tryd.pinned (.plain (OpenSpec.upto fnExactNeededMacrosSpec)) fnExactNeededMacrosUptoCard

/-- THE SECOND FORM's CARD OF 'laws.FnExactHeadsOf'. -/
def fnExactHeadsOfUptoCard : Claim7 := { stood := { row := fnExactHeadsOfUptoRow, standIns := [], harness := (true, "8063266b7f9a23e2b26154f0f1313645bd2936b8f805b89ab7489a2cbefe0164"), looks := false }, kinds := [], alts := [], laidByText := true, laidKinds := [.widerDeep], laidTests := true, laidLooks := .later }
def FnExactHeadsOfUptoCardSaid : Prop := Claim7.holds Tryd.pinned (.plain (OpenSpec.upto fnExactHeadsOfSpec)) fnExactHeadsOfUptoCard

/-- THE SECOND FORM's CARD OF 'laws.FnExactOpenNames'. -/
def fnExactOpenNamesUptoCard : Claim7 := { stood := { row := fnExactOpenNamesUptoRow, standIns := [], harness := (true, "8063266b7f9a23e2b26154f0f1313645bd2936b8f805b89ab7489a2cbefe0164"), looks := false }, kinds := [], alts := [], laidByText := true, laidKinds := [.widerDeep], laidTests := true, laidLooks := .later }
def FnExactOpenNamesUptoCardSaid : Prop := Claim7.holds Tryd.pinned (.plain (OpenSpec.upto fnExactOpenNamesSpec)) fnExactOpenNamesUptoCard

/-- THE SECOND FORM's CARD OF 'laws.FnNeededMacros'. -/
def fnNeededMacrosUptoCard : Claim7 := { stood := { row := fnNeededMacrosUptoRow, standIns := [], harness := (true, "8063266b7f9a23e2b26154f0f1313645bd2936b8f805b89ab7489a2cbefe0164"), looks := false }, kinds := [], alts := [], laidByText := true, laidKinds := [.widerDeep], laidTests := true, laidLooks := .later }
def FnNeededMacrosUptoCardSaid : Prop := Claim7.holds Tryd.pinned (.plain (OpenSpec.upto fnNeededMacrosSpec)) fnNeededMacrosUptoCard
end Rows
end Go.Proofs.YtbifcdaablhljaaDoor
