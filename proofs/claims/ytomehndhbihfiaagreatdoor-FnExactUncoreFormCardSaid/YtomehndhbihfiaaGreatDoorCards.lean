/-
  DERIVED. GIVEN WITH THE SEED: THE CARDS: each row of YtomehndhbihfiaaGreatDoorRows.lean that lists a variable, with what it lists TIED to the program's text (the seventh form; the later family's looks); each row that meets fmt, with fmt's text TOLD by the authors' own Lean function (tested against real Go, not proved from fmt's source: count such statements apart). THE CARD IS WHAT COUNTS. Prove the row's statement (the work); the ties are given (YtomehndhbihfiaaGreatDoorTie.lean); close each card by the builder's one call (the guide's Derived/Test/ToyasCard.lean, 'card_holds'). Laid BY PROGRAM, IN A SANDBOX (cutbox-door.mjs). By AI agents, Wed Nov 11 2026. No macro, syntax, notation, axiom, sorry.
-/
import Derived.Test.YtomehndhbihfiaaGreatDoorRows
import GoSem.ClaimSeven
namespace Go.Proofs.YtomehndhbihfiaaGreatDoor
namespace Rows

/-- THE TIED CARD OF 'laws.FnExactUncoreForm'. -/
def fnExactUncoreFormCard : Claim7 := { stood := { row := fnExactUncoreFormRow, standIns := [], harness := (true, "9c02660d5c90853b05bf1c7226f15aa3d5b9971b133432b22437617c1e198df4"), looks := true }, kinds := [], alts := [], laidByText := true, laidKinds := [.data, .data, .data, .sentinel, .sentinel, .widerDeep], laidTests := true, laidLooks := .later }
def FnExactUncoreFormCardSaid : Prop := Claim7.holds Tryz.pinned (.plain (OpenSpec.ofChange fnExactUncoreFormSpec)) fnExactUncoreFormCard

/-- THE TIED CARD OF 'laws.FnUncoreSize'. -/
def fnUncoreSizeCard : Claim7 := { stood := { row := fnUncoreSizeRow, standIns := [], harness := (true, "9c02660d5c90853b05bf1c7226f15aa3d5b9971b133432b22437617c1e198df4"), looks := true }, kinds := [], alts := [], laidByText := true, laidKinds := [.data, .data, .data, .sentinel, .sentinel, .widerDeep], laidTests := true, laidLooks := .later }
def FnUncoreSizeCardSaid : Prop := Claim7.holds Tryz.pinned (.plain (OpenSpec.ofChange fnUncoreSizeSpec)) fnUncoreSizeCard

/-- THE SECOND FORM's CARD OF 'laws.FnExactUncoreForm'. -/
def fnExactUncoreFormUptoCard : Claim7 := { stood := { row := fnExactUncoreFormUptoRow, standIns := [], harness := (true, "9c02660d5c90853b05bf1c7226f15aa3d5b9971b133432b22437617c1e198df4"), looks := true }, kinds := [], alts := [], laidByText := true, laidKinds := [.data, .data, .data, .sentinel, .sentinel, .widerDeep], laidTests := true, laidLooks := .later }
def FnExactUncoreFormUptoCardSaid : Prop := Claim7.holds Tryz.pinned (.plain (OpenSpec.upto fnExactUncoreFormSpec)) fnExactUncoreFormUptoCard

/-- THE SECOND FORM's CARD OF 'laws.FnUncoreSize'. -/
def fnUncoreSizeUptoCard : Claim7 := { stood := { row := fnUncoreSizeUptoRow, standIns := [], harness := (true, "9c02660d5c90853b05bf1c7226f15aa3d5b9971b133432b22437617c1e198df4"), looks := true }, kinds := [], alts := [], laidByText := true, laidKinds := [.data, .data, .data, .sentinel, .sentinel, .widerDeep], laidTests := true, laidLooks := .later }
def FnUncoreSizeUptoCardSaid : Prop := Claim7.holds Tryz.pinned (.plain (OpenSpec.upto fnUncoreSizeSpec)) fnUncoreSizeUptoCard
end Rows
end Go.Proofs.YtomehndhbihfiaaGreatDoor
