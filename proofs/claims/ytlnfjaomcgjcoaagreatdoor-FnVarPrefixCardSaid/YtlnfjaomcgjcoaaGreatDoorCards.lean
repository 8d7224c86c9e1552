/-
  DERIVED. GIVEN WITH THE SEED: THE CARDS: each row of YtlnfjaomcgjcoaaGreatDoorRows.lean that lists a variable, with what it lists TIED to the program's text (the seventh form; the later family's looks); each row that meets fmt, with fmt's text TOLD by the authors' own Lean function (tested against real Go, not proved from fmt's source: count such statements apart). THE CARD IS WHAT COUNTS. Prove the row's statement (the work); the ties are given (YtlnfjaomcgjcoaaGreatDoorTie.lean); close each card by the builder's one call (the guide's Derived/Test/ToyasCard.lean, 'card_holds'). Laid BY PROGRAM, IN A SANDBOX (cutbox-door.mjs). By AI agents, Wed Nov 11 2026. No macro, syntax, notation, axiom, sorry.
-/
import Derived.Test.YtlnfjaomcgjcoaaGreatDoorRows
import GoSem.ClaimSeven
namespace Go.Proofs.YtlnfjaomcgjcoaaGreatDoor
namespace Rows

/-- THE TIED CARD OF 'laws.FnExactAgreeOn'. -/
def fnExactAgreeOnCard : Claim7 := { stood := { row := fnExactAgreeOnRow, standIns := [], harness := (true, "002c81fe89ed30c22027806a216443e295385f23e9097eb9eab663b5d4948ea2"), looks := true }, kinds := [], alts := [], laidByText := true, laidKinds := [.data, .data, .data, .widerDeep], laidTests := true, laidLooks := .later }
def FnExactAgreeOnCardSaid : Prop := Claim7.holds Tryz.pinned (.plain (OpenSpec.ofChange fnExactAgreeOnSpec)) fnExactAgreeOnCard

/-- THE TIED CARD OF 'laws.FnExactUncoreForm'. -/
def fnExactUncoreFormCard : Claim7 := { stood := { row := fnExactUncoreFormRow, standIns := [], harness := (true, "002c81fe89ed30c22027806a216443e295385f23e9097eb9eab663b5d4948ea2"), looks := true }, kinds := [], alts := [], laidByText := true, laidKinds := [.data, .data, .data, .sentinel, .sentinel, .widerDeep], laidTests := true, laidLooks := .later }
def FnExactUncoreFormCardSaid : Prop := Claim7.holds Tryz.pinned (.plain (OpenSpec.ofChange fnExactUncoreFormSpec)) fnExactUncoreFormCard

/-- THE TIED CARD OF 'laws.FnVarPrefix'. -/
def fnVarPrefixCard : Claim7 := { stood := { row := fnVarPrefixRow, standIns := [], harness := (true, "002c81fe89ed30c22027806a216443e295385f23e9097eb9eab663b5d4948ea2"), looks := true }, kinds := [], alts := [], laidByText := true, laidKinds := [.data, .data, .data, .sentinel, .sentinel], laidTests := true, laidLooks := .later }
def FnVarPrefixCardSaid : Prop := Claim7.holds Tryz.pinned (.plain (OpenSpec.ofChange fnVarPrefixSpec)) fnVarPrefixCard

/-- THE TIED CARD OF 'laws.FnUncoreSize'. -/
def fnUncoreSizeCard : Claim7 := { stood := { row := fnUncoreSizeRow, standIns := [], harness := (true, "002c81fe89ed30c22027806a216443e295385f23e9097eb9eab663b5d4948ea2"), looks := true }, kinds := [], alts := [], laidByText := true, laidKinds := [.data, .data, .data, .sentinel, .sentinel, .widerDeep], laidTests := true, laidLooks := .later }
def FnUncoreSizeCardSaid : Prop := Claim7.holds Tryz.pinned (.plain (OpenSpec.ofChange fnUncoreSizeSpec)) fnUncoreSizeCard

/-- THE SECOND FORM's CARD OF 'laws.FnExactAgreeOn'. -/
def fnExactAgreeOnUptoCard : Claim7 := { stood := { row := fnExactAgreeOnUptoRow, standIns := [], harness := (true, "002c81fe89ed30c22027806a216443e295385f23e9097eb9eab663b5d4948ea2"), looks := true }, kinds := [], alts := [], laidByText := true, laidKinds := [.data, .data, .data, .widerDeep], laidTests := true, laidLooks := .later }
def FnExactAgreeOnUptoCardSaid : Prop := Claim7.holds Tryz.pinned (.plain (OpenSpec.upto fnExactAgreeOnSpec)) fnExactAgreeOnUptoCard

/-- THE SECOND FORM's CARD OF 'laws.FnExactUncoreForm'. -/
def fnExactUncoreFormUptoCard : Claim7 := { stood := { row := fnExactUncoreFormUptoRow, standIns := [], harness := (true, "002c81fe89ed30c22027806a216443e295385f23e9097eb9eab663b5d4948ea2"), looks := true }, kinds := [], alts := [], laidByText := true, laidKinds := [.data, .data, .data, .sentinel, .sentinel, .widerDeep], laidTests := true, laidLooks := .later }
def FnExactUncoreFormUptoCardSaid : Prop := Claim7.holds Tryz.pinned (.plain (OpenSpec.upto fnExactUncoreFormSpec)) fnExactUncoreFormUptoCard

/-- THE SECOND FORM's CARD OF 'laws.FnVarPrefix'. -/
def fnVarPrefixUptoCard : Claim7 := { stood := { row := fnVarPrefixUptoRow, standIns := [], harness := (true, "002c81fe89ed30c22027806a216443e295385f23e9097eb9eab663b5d4948ea2"), looks := true }, kinds := [], alts := [], laidByText := true, laidKinds := [.data, .data, .data, .sentinel, .sentinel], laidTests := true, laidLooks := .later }
def FnVarPrefixUptoCardSaid : Prop := Claim7.holds Tryz.pinned (.plain (OpenSpec.upto fnVarPrefixSpec)) fnVarPrefixUptoCard

/-- THE SECOND FORM's CARD OF 'laws.FnUncoreSize'. -/
def fnUncoreSizeUptoCard : Claim7 := { stood := { row := fnUncoreSizeUptoRow, standIns := [], harness := (true, "002c81fe89ed30c22027806a216443e295385f23e9097eb9eab663b5d4948ea2"), looks := true }, kinds := [], alts := [], laidByText := true, laidKinds := [.data, .data, .data, .sentinel, .sentinel, .widerDeep], laidTests := true, laidLooks := .later }
def FnUncoreSizeUptoCardSaid : Prop := Claim7.holds Tryz.pinned (.plain (OpenSpec.upto fnUncoreSizeSpec)) fnUncoreSizeUptoCard
end Rows
end Go.Proofs.YtlnfjaomcgjcoaaGreatDoor
