/-
  DERIVED. GIVEN WITH THE SEED: THE CARDS: each row of YtencoplhomeleaaDoorRows.lean that lists a variable, with what it lists TIED to the program's text (the seventh form; the later family's looks); each row that meets fmt, with fmt's text TOLD by the authors' own Lean function (tested against real Go, not proved from fmt's source: count such statements apart). THE CARD IS WHAT COUNTS. Prove the row's statement (the work); the ties are given (YtencoplhomeleaaDoorTie.lean); close each card by the builder's one call (the guide's Derived/Test/ToyasCard.lean, 'card_holds'). Laid BY PROGRAM, IN A SANDBOX (cutbox-door.mjs). By AI agents, Wed Nov 11 2026. No macro, syntax, notation, axiom, sorry.
-/
import Derived.Test.YtencoplhomeleaaDoorRows
import GoSem.ClaimSeven
namespace Go.Proofs.YtencoplhomeleaaDoor
namespace Rows

/-- THE TIED CARD OF 'laws.FnAtomValue'. -/
def fnAtomValueCard : Claim7 := { stood := { row := fnAtomValueRow, standIns := [], harness := (true, "3a938e44ff7645d264ef9b653f0bcc80a206df87a7c08690e471ab81e8af5f25"), looks := false }, kinds := [], alts := [], laidByText := true, laidKinds := [.widerDeep], laidTests := true, laidLooks := .later }
def FnAtomValueCardSaid : Prop := Claim7.holds Tryd.pinned (.plain (OpenSpec.ofChange fnAtomValueSpec)) fnAtomValueCard

/-- THE TIED CARD OF 'laws.FnSubstituteVar'. -/
def fnSubstituteVarCard : Claim7 := { stood := { row := fnSubstituteVarRow, standIns := [], harness := (true, "3a938e44ff7645d264ef9b653f0bcc80a206df87a7c08690e471ab81e8af5f25"), looks := false }, kinds := [], alts := [], laidByText := true, laidKinds := [.widerDeep], laidTests := true, laidLooks := .later }
def FnSubstituteVarCardSaid : Prop := Claim7.holds Tryd.pinned (.plain (OpenSpec.ofChange fnSubstituteVarSpec)) fnSubstituteVarCard

/-- THE TIED CARD OF 'laws.FnSubstituteBack'. -/
def fnSubstituteBackCard : Claim7 := { stood := { row := fnSubstituteBackRow, standIns := [], harness := (true, "3a938e44ff7645d264ef9b653f0bcc80a206df87a7c08690e471ab81e8af5f25"), looks := false }, kinds := [], alts := [], laidByText := true, laidKinds := [.widerDeep], laidTests := true, laidLooks := .later }
def FnSubstituteBackCardSaid : Prop := Claim7.holds Tryd.pinned (.plain (OpenSpec.ofChange fnSubstituteBackSpec)) fnSubstituteBackCard

/-- THE SECOND FORM's CARD OF 'laws.FnAtomValue'. -/
def fnAtomValueUptoCard : Claim7 := { stood := { row := fnAtomValueUptoRow, standIns := [], harness := (true, "3a938e44ff7645d264ef9b653f0bcc80a206df87a7c08690e471ab81e8af5f25"), looks := false }, kinds := [], alts := [], laidByText := true, laidKinds := [.widerDeep], laidTests := true, laidLooks := .later }
def FnAtomValueUptoCardSaid : Prop := Claim7.holds Tryd.pinned (.plain (OpenSpec.upto fnAtomValueSpec)) fnAtomValueUptoCard

/-- THE SECOND FORM's CARD OF 'laws.FnSubstituteVar'. -/
def fnSubstituteVarUptoCard : Claim7 := { stood := { row := fnSubstituteVarUptoRow, standIns := [], harness := (true, "3a938e44ff7645d264ef9b653f0bcc80a206df87a7c08690e471ab81e8af5f25"), looks := false }, kinds := [], alts := [], laidByText := true, laidKinds := [.widerDeep], laidTests := true, laidLooks := .later }
def FnSubstituteVarUptoCardSaid : Prop := Claim7.holds Tryd.pinned (.plain (OpenSpec.upto fnSubstituteVarSpec)) fnSubstituteVarUptoCard

/-- THE SECOND FORM's CARD OF 'laws.FnSubstituteBack'. -/
def fnSubstituteBackUptoCard : Claim7 := { stood := { row := fnSubstituteBackUptoRow, standIns := [], harness := (true, "3a938e44ff7645d264ef9b653f0bcc80a206df87a7c08690e471ab81e8af5f25"), looks := false }, kinds := [], alts := [], laidByText := true, laidKinds := [.widerDeep], laidTests := true, laidLooks := .later }
def FnSubstituteBackUptoCardSaid : Prop := Claim7.holds Tryd.pinned (.plain (OpenSpec.upto fnSubstituteBackSpec)) fnSubstituteBackUptoCard
end Rows
end Go.Proofs.YtencoplhomeleaaDoor
