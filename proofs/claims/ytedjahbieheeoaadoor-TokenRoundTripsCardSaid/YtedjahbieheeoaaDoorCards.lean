/-
  DERIVED. GIVEN WITH THE SEED: THE CARDS: each row of YtedjahbieheeoaaDoorRows.lean that lists a variable, with what it lists TIED to the program's text (the seventh form; the later family's looks); each row that meets fmt, with fmt's text TOLD by the authors' own Lean function (tested against real Go, not proved from fmt's source: count such statements apart). THE CARD IS WHAT COUNTS. Prove the row's statement (the work); the ties are given (YtedjahbieheeoaaDoorTie.lean); close each card by the builder's one call (the guide's Derived/Test/ToyasCard.lean, 'card_holds'). Laid BY PROGRAM, IN A SANDBOX (cutbox-door.mjs). By AI agents, Wed Nov 11 2026. No macro, syntax, notation, axiom, sorry.
-/
import Derived.Test.YtedjahbieheeoaaDoorRows
import GoSem.ClaimSeven
namespace Go.Proofs.YtedjahbieheeoaaDoor
namespace Rows

/-- THE TIED CARD OF 'warehouselaw7.TokenSplits'. -/
def tokenSplitsCard : Claim7 := { stood := { row := tokenSplitsRow, standIns := [], harness := (true, "01cf227b1885d0834f08ccf5b8b8443e2310a06e932af80de5b1c60eab73ac53"), looks := false }, kinds := [], alts := [], laidByText := true, laidKinds := [.data, .widerDeep, .widerDeep], laidTests := true, laidLooks := .later }
def TokenSplitsCardSaid : Prop := Claim7.holds Tryd.pinned (.plain (OpenSpec.ofChange tokenSplitsSpec)) tokenSplitsCard

/-- THE TIED CARD OF 'warehouselaw7.TokenBytes'. -/
def tokenBytesCard : Claim7 := { stood := { row := tokenBytesRow, standIns := [], harness := (true, "01cf227b1885d0834f08ccf5b8b8443e2310a06e932af80de5b1c60eab73ac53"), looks := false }, kinds := [], alts := [], laidByText := true, laidKinds := [.data, .widerDeep, .widerDeep], laidTests := true, laidLooks := .later }
def TokenBytesCardSaid : Prop := Claim7.holds Tryd.pinned (.plain (OpenSpec.ofChange tokenBytesSpec)) tokenBytesCard

/-- THE TIED CARD OF 'warehouselaw7.TokenReserves'. -/
def tokenReservesCard : Claim7 := { stood := { row := tokenReservesRow, standIns := [], harness := (true, "01cf227b1885d0834f08ccf5b8b8443e2310a06e932af80de5b1c60eab73ac53"), looks := false }, kinds := [], alts := [], laidByText := true, laidKinds := [.data, .widerDeep, .widerDeep], laidTests := true, laidLooks := .later }
def TokenReservesCardSaid : Prop := Claim7.holds Tryd.pinned (.plain (OpenSpec.ofChange tokenReservesSpec)) tokenReservesCard

/-- THE TIED CARD OF 'warehouselaw7.TokenValidates'. -/
def tokenValidatesCard : Claim7 := { stood := { row := tokenValidatesRow, standIns := [], harness := (true, "01cf227b1885d0834f08ccf5b8b8443e2310a06e932af80de5b1c60eab73ac53"), looks := false }, kinds := [], alts := [], laidByText := true, laidKinds := [.data, .widerDeep, .widerDeep], laidTests := true, laidLooks := .later }
def TokenValidatesCardSaid : Prop := Claim7.holds Tryd.pinned (.plain (OpenSpec.ofChange tokenValidatesSpec)) tokenValidatesCard

/-- THE TIED CARD OF 'warehouselaw7.TokenJoins'. -/
def tokenJoinsCard : Claim7 := { stood := { row := tokenJoinsRow, standIns := [], harness := (true, "01cf227b1885d0834f08ccf5b8b8443e2310a06e932af80de5b1c60eab73ac53"), looks := false }, kinds := [], alts := [], laidByText := true, laidKinds := [.data, .data, .data, .data, .data, .widerDeep, .widerDeep, .pinned], laidTests := true, laidLooks := .later }
def TokenJoinsCardSaid : Prop := Claim7.holds Tryd.pinned (.plain (OpenSpec.ofChange tokenJoinsSpec)) tokenJoinsCard

/-- THE TIED CARD OF 'warehouselaw7.TokenRoundTrips'. -/
def tokenRoundTripsCard : Claim7 := { stood := { row := tokenRoundTripsRow, standIns := [], harness := (true, "01cf227b1885d0834f08ccf5b8b8443e2310a06e932af80de5b1c60eab73ac53"), looks := false }, kinds := [], alts := [], laidByText := true, laidKinds := [.data, .data, .data, .data, .data, .widerDeep, .widerDeep, .pinned], laidTests := true, laidLooks := .later }
def TokenRoundTripsCardSaid : Prop := Claim7.holds Tryd.pinned (.plain (OpenSpec.ofChange tokenRoundTripsSpec)) tokenRoundTripsCard

/-- THE SECOND FORM's CARD OF 'warehouselaw7.TokenSplits'. -/
def tokenSplitsUptoCard : Claim7 := { stood := { row := tokenSplitsUptoRow, standIns := [], harness := (true, "01cf227b1885d0834f08ccf5b8b8443e2310a06e932af80de5b1c60eab73ac53"), looks := false }, kinds := [], alts := [], laidByText := true, laidKinds := [.data, .widerDeep, .widerDeep], laidTests := true, laidLooks := .later }
def TokenSplitsUptoCardSaid : Prop := Claim7.holds Tryd.pinned (.plain (OpenSpec.upto tokenSplitsSpec)) tokenSplitsUptoCard

/-- THE SECOND FORM's CARD OF 'warehouselaw7.TokenBytes'. -/
def tokenBytesUptoCard : Claim7 := { stood := { row := tokenBytesUptoRow, standIns := [], harness := (true, "01cf227b1885d0834f08ccf5b8b8443e2310a06e932af80de5b1c60eab73ac53"), looks := false }, kinds := [], alts := [], laidByText := true, laidKinds := [.data, .widerDeep, .widerDeep], laidTests := true, laidLooks := .later }
def TokenBytesUptoCardSaid : Prop := Claim7.holds Tryd.pinned (.plain (OpenSpec.upto tokenBytesSpec)) tokenBytesUptoCard

/-- THE SECOND FORM's CARD OF 'warehouselaw7.TokenReserves'. -/
def tokenReservesUptoCard : Claim7 := { stood := { row := tokenReservesUptoRow, standIns := [], harness := (true, "01cf227b1885d0834f08ccf5b8b8443e2310a06e932af80de5b1c60eab73ac53"), looks := false }, kinds := [], alts := [], laidByText := true, laidKinds := [.data, .widerDeep, .widerDeep], laidTests := true, laidLooks := .later }
def TokenReservesUptoCardSaid : Prop := Claim7.holds Tryd.pinned (.plain (OpenSpec.upto tokenReservesSpec)) tokenReservesUptoCard

/-- THE SECOND FORM's CARD OF 'warehouselaw7.TokenValidates'. -/
def tokenValidatesUptoCard : Claim7 := { stood := { row := tokenValidatesUptoRow, standIns := [], harness := (true, "01cf227b1885d0834f08ccf5b8b8443e2310a06e932af80de5b1c60eab73ac53"), looks := false }, kinds := [], alts := [], laidByText := true, laidKinds := [.data, .widerDeep, .widerDeep], laidTests := true, laidLooks := .later }
def TokenValidatesUptoCardSaid : Prop := Claim7.holds Tryd.pinned (.plain (OpenSpec.upto tokenValidatesSpec)) tokenValidatesUptoCard

/-- THE SECOND FORM's CARD OF 'warehouselaw7.TokenJoins'. -/
def tokenJoinsUptoCard : Claim7 := { stood := { row := tokenJoinsUptoRow, standIns := [], harness := (true, "01cf227b1885d0834f08ccf5b8b8443e2310a06e932af80de5b1c60eab73ac53"), looks := false }, kinds := [], alts := [], laidByText := true, laidKinds := [.data, .data, .data, .data, .data, .widerDeep, .widerDeep, .pinned], laidTests := true, laidLooks := .later }
def TokenJoinsUptoCardSaid : Prop := Claim7.holds Tryd.pinned (.plain (OpenSpec.upto tokenJoinsSpec)) tokenJoinsUptoCard

/-- THE SECOND FORM's CARD OF 'warehouselaw7.TokenRoundTrips'. -/
def tokenRoundTripsUptoCard : Claim7 := { stood := { row := tokenRoundTripsUptoRow, standIns := [], harness := (true, "01cf227b1885d0834f08ccf5b8b8443e2310a06e932af80de5b1c60eab73ac53"), looks := false }, kinds := [], alts := [], laidByText := true, laidKinds := [.data, .data, .data, .data, .data, .widerDeep, .widerDeep, .pinned], laidTests := true, laidLooks := .later }
def TokenRoundTripsUptoCardSaid : Prop := Claim7.holds Tryd.pinned (.plain (OpenSpec.upto tokenRoundTripsSpec)) tokenRoundTripsUptoCard
end Rows
end Go.Proofs.YtedjahbieheeoaaDoor
