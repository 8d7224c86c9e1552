/-
  DERIVED. GIVEN WITH THE SEED: THE CARDS: each row of YtindmpmlodllmaaGreatDoorRows.lean that lists a variable, with what it lists TIED to the program's text (the seventh form; the later family's looks); each row that meets fmt, with fmt's text TOLD by the authors' own Lean function (tested against real Go, not proved from fmt's source: count such statements apart). THE CARD IS WHAT COUNTS. Prove the row's statement (the work); the ties are given (YtindmpmlodllmaaGreatDoorTie.lean); close each card by the builder's one call (the guide's Derived/Test/ToyasCard.lean, 'card_holds'). Laid BY PROGRAM, IN A SANDBOX (cutbox-door.mjs). By AI agents, Wed Nov 11 2026. No macro, syntax, notation, axiom, sorry.
-/
import Derived.Test.YtindmpmlodllmaaGreatDoorRows
import GoSem.ClaimSeven
namespace Go.Proofs.YtindmpmlodllmaaGreatDoor
namespace Rows

/-- THE TIED CARD OF 'laws.FnHeadsOf'. -/
def fnHeadsOfCard : Claim7 := { stood := { row := fnHeadsOfRow, standIns := [], harness := (true, "9b5fc1bc3cc9ce00b73a9dd470ab0ea5faf856c642d5579e85def8ae2414f984"), looks := false }, kinds := [], alts := [], laidByText := true, laidKinds := [.widerDeep], laidTests := true, laidLooks := .later }
def FnHeadsOfCardSaid : Prop := Claim7.holds Tryz.pinned (.plain (OpenSpec.ofChange fnHeadsOfSpec)) fnHeadsOfCard

/-- THE TIED CARD OF 'laws.FnOpenNames'. -/
def fnOpenNamesCard : Claim7 := { stood := { row := fnOpenNamesRow, standIns := [], harness := (true, "9b5fc1bc3cc9ce00b73a9dd470ab0ea5faf856c642d5579e85def8ae2414f984"), looks := false }, kinds := [], alts := [], laidByText := true, laidKinds := [.widerDeep], laidTests := true, laidLooks := .later }
def FnOpenNamesCardSaid : Prop := Claim7.holds Tryz.pinned (.plain (OpenSpec.ofChange fnOpenNamesSpec)) fnOpenNamesCard

/-- THE SECOND FORM's CARD OF 'laws.FnHeadsOf'. -/
def fnHeadsOfUptoCard : Claim7 := { stood := { row := fnHeadsOfUptoRow, standIns := [], harness := (true, "9b5fc1bc3cc9ce00b73a9dd470ab0ea5faf856c642d5579e85def8ae2414f984"), looks := false }, kinds := [], alts := [], laidByText := true, laidKinds := [.widerDeep], laidTests := true, laidLooks := .later }
def FnHeadsOfUptoCardSaid : Prop := Claim7.holds Tryz.pinned (.plain (OpenSpec.upto fnHeadsOfSpec)) fnHeadsOfUptoCard

/-- THE SECOND FORM's CARD OF 'laws.FnOpenNames'. -/
def fnOpenNamesUptoCard : Claim7 := { stood := { row := fnOpenNamesUptoRow, standIns := [], harness := (true, "9b5fc1bc3cc9ce00b73a9dd470ab0ea5faf856c642d5579e85def8ae2414f984"), looks := false }, kinds := [], alts := [], laidByText := true, laidKinds := [.widerDeep], laidTests := true, laidLooks := .later }
def FnOpenNamesUptoCardSaid : Prop := Claim7.holds Tryz.pinned (.plain (OpenSpec.upto fnOpenNamesSpec)) fnOpenNamesUptoCard
end Rows
end Go.Proofs.YtindmpmlodllmaaGreatDoor
