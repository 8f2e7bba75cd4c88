/-
  DERIVED. GIVEN WITH THE SEED: THE CARDS: each row of YtnpjibaolicbmaaGreatDoorRows.lean that lists a variable, with what it lists TIED to the program's text (the seventh form; the later family's looks); each row that meets fmt, with fmt's text TOLD by the authors' own Lean function (tested against real Go, not proved from fmt's source: count such statements apart). THE CARD IS WHAT COUNTS. Prove the row's statement (the work); the ties are given (YtnpjibaolicbmaaGreatDoorTie.lean); close each card by the builder's one call (the guide's Derived/Test/ToyasCard.lean, 'card_holds'). Laid BY PROGRAM, IN A SANDBOX (cutbox-door.mjs). By AI agents, Wed Nov 11 2026. No macro, syntax, notation, axiom, sorry.
-/
import Derived.Test.YtnpjibaolicbmaaGreatDoorRows
import GoSem.ClaimSeven
namespace Go.Proofs.YtnpjibaolicbmaaGreatDoor
namespace Rows

/-- THE TIED CARD OF 'warehouselaw12.ProjectValidates'. -/
def projectValidatesCard : Claim7 := { stood := { row := projectValidatesRow, standIns := [], harness := (true, "cadf66101d7b4e4423c21004489b92670a91fa7711cc49c95979a035270ef84c"), looks := false }, kinds := [], alts := [], laidByText := true, laidKinds := [.widerDeep, .widerDeep, .data], laidTests := true, laidLooks := .later }
def ProjectValidatesCardSaid : Prop := Claim7.holds Tryz.pinned (.plain (OpenSpec.ofChange projectValidatesSpec)) projectValidatesCard

/-- THE TIED CARD OF 'warehouselaw12.ProjectDefinitions'. -/
def projectDefinitionsCard : Claim7 := { stood := { row := projectDefinitionsRow, standIns := [], harness := (true, "cadf66101d7b4e4423c21004489b92670a91fa7711cc49c95979a035270ef84c"), looks := false }, kinds := [], alts := [], laidByText := true, laidKinds := [.widerDeep, .widerDeep, .data], laidTests := true, laidLooks := .later }
def ProjectDefinitionsCardSaid : Prop := Claim7.holds Tryz.pinned (.plain (OpenSpec.ofChange projectDefinitionsSpec)) projectDefinitionsCard

/-- THE SECOND FORM's CARD OF 'warehouselaw12.ProjectValidates'. -/
def projectValidatesUptoCard : Claim7 := { stood := { row := projectValidatesUptoRow, standIns := [], harness := (true, "cadf66101d7b4e4423c21004489b92670a91fa7711cc49c95979a035270ef84c"), looks := false }, kinds := [], alts := [], laidByText := true, laidKinds := [.widerDeep, .widerDeep, .data], laidTests := true, laidLooks := .later }
def ProjectValidatesUptoCardSaid : Prop := Claim7.holds Tryz.pinned (.plain (OpenSpec.upto projectValidatesSpec)) projectValidatesUptoCard

/-- THE SECOND FORM's CARD OF 'warehouselaw12.ProjectDefinitions'. -/
def projectDefinitionsUptoCard : Claim7 := { stood := { row := projectDefinitionsUptoRow, standIns := [], harness := (true, "cadf66101d7b4e4423c21004489b92670a91fa7711cc49c95979a035270ef84c"), looks := false }, kinds := [], alts := [], laidByText := true, laidKinds := [.widerDeep, .widerDeep, .data], laidTests := true, laidLooks := .later }
def ProjectDefinitionsUptoCardSaid : Prop := Claim7.holds Tryz.pinned (.plain (OpenSpec.upto projectDefinitionsSpec)) projectDefinitionsUptoCard
end Rows
end Go.Proofs.YtnpjibaolicbmaaGreatDoor
