/-
  DERIVED. GIVEN WITH THE SEED: THE CARDS: each row of YtmbeeefkpgfgmaaGreatDoorRows.lean that lists a variable, with what it lists TIED to the program's text (the seventh form; the later family's looks); each row that meets fmt, with fmt's text TOLD by the authors' own Lean function (tested against real Go, not proved from fmt's source: count such statements apart). THE CARD IS WHAT COUNTS. Prove the row's statement (the work); the ties are given (YtmbeeefkpgfgmaaGreatDoorTie.lean); close each card by the builder's one call (the guide's Derived/Test/ToyasCard.lean, 'card_holds'). Laid BY PROGRAM, IN A SANDBOX (cutbox-door.mjs). By AI agents, Wed Nov 11 2026. No macro, syntax, notation, axiom, sorry.
-/
import Derived.Test.YtmbeeefkpgfgmaaGreatDoorRows
import GoSem.ClaimSeven
namespace Go.Proofs.YtmbeeefkpgfgmaaGreatDoor
namespace Rows

/-- THE TIED CARD OF 'warehouselaw11.QueryValidates'. -/
def queryValidatesCard : Claim7 := { stood := { row := queryValidatesRow, standIns := [], harness := (true, "caf8d2c4fbd741cc06272c3414c4a01ce09de9d8875aa6b563693ba79b1a8b07"), looks := false }, kinds := [], alts := [], laidByText := true, laidKinds := [.widerDeep, .data], laidTests := true, laidLooks := .later }
def QueryValidatesCardSaid : Prop := Claim7.holds Tryz.pinned (.plain (OpenSpec.ofChange queryValidatesSpec)) queryValidatesCard

/-- THE TIED CARD OF 'warehouselaw11.QueryNames'. -/
def queryNamesCard : Claim7 := { stood := { row := queryNamesRow, standIns := [], harness := (true, "caf8d2c4fbd741cc06272c3414c4a01ce09de9d8875aa6b563693ba79b1a8b07"), looks := false }, kinds := [], alts := [], laidByText := true, laidKinds := [.widerDeep, .data], laidTests := true, laidLooks := .later }
def QueryNamesCardSaid : Prop := Claim7.holds Tryz.pinned (.plain (OpenSpec.ofChange queryNamesSpec)) queryNamesCard

/-- THE TIED CARD OF 'warehouselaw11.QueryParses'. -/
def queryParsesCard : Claim7 := { stood := { row := queryParsesRow, standIns := [], harness := (true, "caf8d2c4fbd741cc06272c3414c4a01ce09de9d8875aa6b563693ba79b1a8b07"), looks := false }, kinds := [], alts := [], laidByText := true, laidKinds := [.data, .data, .data, .data, .data, .widerDeep, .widerDeep, .data, .data, .pinned], laidTests := true, laidLooks := .later }
def QueryParsesCardSaid : Prop := Claim7.holds Tryz.pinned (.plain (OpenSpec.ofChange queryParsesSpec)) queryParsesCard

/-- THE TIED CARD OF 'warehouselaw11.QueryReads'. -/
def queryReadsCard : Claim7 := { stood := { row := queryReadsRow, standIns := [], harness := (true, "caf8d2c4fbd741cc06272c3414c4a01ce09de9d8875aa6b563693ba79b1a8b07"), looks := false }, kinds := [], alts := [], laidByText := true, laidKinds := [.data, .data, .data, .data, .data, .widerDeep, .widerDeep, .data, .data, .pinned], laidTests := true, laidLooks := .later }
def QueryReadsCardSaid : Prop := Claim7.holds Tryz.pinned (.plain (OpenSpec.ofChange queryReadsSpec)) queryReadsCard

/-- THE TIED CARD OF 'warehouselaw11.QueryParsesAt'. -/
def queryParsesAtCard : Claim7 := { stood := { row := queryParsesAtRow, standIns := [], harness := (true, "caf8d2c4fbd741cc06272c3414c4a01ce09de9d8875aa6b563693ba79b1a8b07"), looks := false }, kinds := [], alts := [], laidByText := true, laidKinds := [.data, .data, .data, .data, .data, .widerDeep, .widerDeep, .data, .data, .pinned], laidTests := true, laidLooks := .later }
def QueryParsesAtCardSaid : Prop := Claim7.holds Tryz.pinned (.plain (OpenSpec.ofChange queryParsesAtSpec)) queryParsesAtCard

/-- THE TIED CARD OF 'warehouselaw11.QueryFormats'. -/
def queryFormatsCard : Claim7 := { stood := { row := queryFormatsRow, standIns := [], harness := (true, "caf8d2c4fbd741cc06272c3414c4a01ce09de9d8875aa6b563693ba79b1a8b07"), looks := false }, kinds := [], alts := [], laidByText := true, laidKinds := [.data, .data, .data, .data, .data, .widerDeep, .widerDeep, .data, .data, .pinned], laidTests := true, laidLooks := .later }
def QueryFormatsCardSaid : Prop := Claim7.holds Tryz.pinned (.plain (OpenSpec.ofChange queryFormatsSpec)) queryFormatsCard

/-- THE TIED CARD OF 'warehouselaw11.QueryRoundTrips'. -/
def queryRoundTripsCard : Claim7 := { stood := { row := queryRoundTripsRow, standIns := [], harness := (true, "caf8d2c4fbd741cc06272c3414c4a01ce09de9d8875aa6b563693ba79b1a8b07"), looks := false }, kinds := [], alts := [], laidByText := true, laidKinds := [.data, .data, .data, .data, .data, .widerDeep, .widerDeep, .data, .data, .pinned], laidTests := true, laidLooks := .later }
def QueryRoundTripsCardSaid : Prop := Claim7.holds Tryz.pinned (.plain (OpenSpec.ofChange queryRoundTripsSpec)) queryRoundTripsCard

/-- THE SECOND FORM's CARD OF 'warehouselaw11.QueryValidates'. -/
def queryValidatesUptoCard : Claim7 := { stood := { row := queryValidatesUptoRow, standIns := [], harness := (true, "caf8d2c4fbd741cc06272c3414c4a01ce09de9d8875aa6b563693ba79b1a8b07"), looks := false }, kinds := [], alts := [], laidByText := true, laidKinds := [.widerDeep, .data], laidTests := true, laidLooks := .later }
def QueryValidatesUptoCardSaid : Prop := Claim7.holds Tryz.pinned (.plain (OpenSpec.upto queryValidatesSpec)) queryValidatesUptoCard

/-- THE SECOND FORM's CARD OF 'warehouselaw11.QueryNames'. -/
def queryNamesUptoCard : Claim7 := { stood := { row := queryNamesUptoRow, standIns := [], harness := (true, "caf8d2c4fbd741cc06272c3414c4a01ce09de9d8875aa6b563693ba79b1a8b07"), looks := false }, kinds := [], alts := [], laidByText := true, laidKinds := [.widerDeep, .data], laidTests := true, laidLooks := .later }
def QueryNamesUptoCardSaid : Prop := Claim7.holds Tryz.pinned (.plain (OpenSpec.upto queryNamesSpec)) queryNamesUptoCard

/-- THE SECOND FORM's CARD OF 'warehouselaw11.QueryParses'. -/
def queryParsesUptoCard : Claim7 := { stood := { row := queryParsesUptoRow, standIns := [], harness := (true, "caf8d2c4fbd741cc06272c3414c4a01ce09de9d8875aa6b563693ba79b1a8b07"), looks := false }, kinds := [], alts := [], laidByText := true, laidKinds := [.data, .data, .data, .data, .data, .widerDeep, .widerDeep, .data, .data, .pinned], laidTests := true, laidLooks := .later }
def QueryParsesUptoCardSaid : Prop := Claim7.holds Tryz.pinned (.plain (OpenSpec.upto queryParsesSpec)) queryParsesUptoCard

/-- THE SECOND FORM's CARD OF 'warehouselaw11.QueryReads'. -/
def queryReadsUptoCard : Claim7 := { stood := { row := queryReadsUptoRow, standIns := [], harness := (true, "caf8d2c4fbd741cc06272c3414c4a01ce09de9d8875aa6b563693ba79b1a8b07"), looks := false }, kinds := [], alts := [], laidByText := true, laidKinds := [.data, .data, .data, .data, .data, .widerDeep, .widerDeep, .data, .data, .pinned], laidTests := true, laidLooks := .later }
def QueryReadsUptoCardSaid : Prop := Claim7.holds Tryz.pinned (.plain (OpenSpec.upto queryReadsSpec)) queryReadsUptoCard

/-- THE SECOND FORM's CARD OF 'warehouselaw11.QueryParsesAt'. -/
def queryParsesAtUptoCard : Claim7 := { stood := { row := queryParsesAtUptoRow, standIns := [], harness := (true, "caf8d2c4fbd741cc06272c3414c4a01ce09de9d8875aa6b563693ba79b1a8b07"), looks := false }, kinds := [], alts := [], laidByText := true, laidKinds := [.data, .data, .data, .data, .data, .widerDeep, .widerDeep, .data, .data, .pinned], laidTests := true, laidLooks := .later }
def QueryParsesAtUptoCardSaid : Prop := Claim7.holds Tryz.pinned (.plain (OpenSpec.upto queryParsesAtSpec)) queryParsesAtUptoCard

/-- THE SECOND FORM's CARD OF 'warehouselaw11.QueryFormats'. -/
def queryFormatsUptoCard : Claim7 := { stood := { row := queryFormatsUptoRow, standIns := [], harness := (true, "caf8d2c4fbd741cc06272c3414c4a01ce09de9d8875aa6b563693ba79b1a8b07"), looks := false }, kinds := [], alts := [], laidByText := true, laidKinds := [.data, .data, .data, .data, .data, .widerDeep, .widerDeep, .data, .data, .pinned], laidTests := true, laidLooks := .later }
def QueryFormatsUptoCardSaid : Prop := Claim7.holds Tryz.pinned (.plain (OpenSpec.upto queryFormatsSpec)) queryFormatsUptoCard

/-- THE SECOND FORM's CARD OF 'warehouselaw11.QueryRoundTrips'. -/
def queryRoundTripsUptoCard : Claim7 := { stood := { row := queryRoundTripsUptoRow, standIns := [], harness := (true, "caf8d2c4fbd741cc06272c3414c4a01ce09de9d8875aa6b563693ba79b1a8b07"), looks := false }, kinds := [], alts := [], laidByText := true, laidKinds := [.data, .data, .data, .data, .data, .widerDeep, .widerDeep, .data, .data, .pinned], laidTests := true, laidLooks := .later }
def QueryRoundTripsUptoCardSaid : Prop := Claim7.holds Tryz.pinned (.plain (OpenSpec.upto queryRoundTripsSpec)) queryRoundTripsUptoCard
end Rows
end Go.Proofs.YtmbeeefkpgfgmaaGreatDoor
