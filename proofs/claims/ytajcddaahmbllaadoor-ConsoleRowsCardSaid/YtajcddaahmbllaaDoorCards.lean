/-
  DERIVED. GIVEN WITH THE SEED: THE CARDS: each row of YtajcddaahmbllaaDoorRows.lean that lists a variable, with what it lists TIED to the program's text (the seventh form; the later family's looks); each row that meets fmt, with fmt's text TOLD by the authors' own Lean function (tested against real Go, not proved from fmt's source: count such statements apart). THE CARD IS WHAT COUNTS. Prove the row's statement (the work); the ties are given (YtajcddaahmbllaaDoorTie.lean); close each card by the builder's one call (the guide's Derived/Test/ToyasCard.lean, 'card_holds'). Laid BY PROGRAM, IN A SANDBOX (cutbox-door.mjs). By AI agents, Wed Nov 11 2026. No macro, syntax, notation, axiom, sorry.
-/
import Derived.Test.YtajcddaahmbllaaDoorRows
import GoSem.ClaimSeven
namespace Go.Proofs.YtajcddaahmbllaaDoor
namespace Rows

/-- THE TIED CARD OF 'warehouselaw42.ConsoleLiterals'. -/
def consoleLiteralsCard : Claim7 := { stood := { row := consoleLiteralsRow, standIns := [], harness := (true, "2ceb2e07bd41b2f7074e2a3acf75b908b956a2aca0543be38252ce5aa5a9d6ba"), looks := false }, kinds := [], alts := [], laidByText := true, laidKinds := [.data, .data, .data, .data, .data, .widerDeep, .pinned], laidTests := true, laidLooks := .later }
def ConsoleLiteralsCardSaid : Prop := Claim7.holds Tryd.pinned (.plain (OpenSpec.ofChange consoleLiteralsSpec)) consoleLiteralsCard

/-- THE TIED CARD OF 'warehouselaw42.ConsoleRows'. -/
def consoleRowsCard : Claim7 := { stood := { row := consoleRowsRow, standIns := [], harness := (true, "2ceb2e07bd41b2f7074e2a3acf75b908b956a2aca0543be38252ce5aa5a9d6ba"), looks := false }, kinds := [], alts := [], laidByText := true, laidKinds := [.data, .data, .data, .data, .data, .widerDeep, .pinned], laidTests := true, laidLooks := .later }
def ConsoleRowsCardSaid : Prop := Claim7.holds Tryd.pinned (.plain (OpenSpec.ofChange consoleRowsSpec)) consoleRowsCard

/-- THE SECOND FORM's CARD OF 'warehouselaw42.ConsoleLiterals'. -/
def consoleLiteralsUptoCard : Claim7 := { stood := { row := consoleLiteralsUptoRow, standIns := [], harness := (true, "2ceb2e07bd41b2f7074e2a3acf75b908b956a2aca0543be38252ce5aa5a9d6ba"), looks := false }, kinds := [], alts := [], laidByText := true, laidKinds := [.data, .data, .data, .data, .data, .widerDeep, .pinned], laidTests := true, laidLooks := .later }
def ConsoleLiteralsUptoCardSaid : Prop := Claim7.holds Tryd.pinned (.plain (OpenSpec.upto consoleLiteralsSpec)) consoleLiteralsUptoCard

/-- THE SECOND FORM's CARD OF 'warehouselaw42.ConsoleRows'. -/
def consoleRowsUptoCard : Claim7 := { stood := { row := consoleRowsUptoRow, standIns := [], harness := (true, "2ceb2e07bd41b2f7074e2a3acf75b908b956a2aca0543be38252ce5aa5a9d6ba"), looks := false }, kinds := [], alts := [], laidByText := true, laidKinds := [.data, .data, .data, .data, .data, .widerDeep, .pinned], laidTests := true, laidLooks := .later }
def ConsoleRowsUptoCardSaid : Prop := Claim7.holds Tryd.pinned (.plain (OpenSpec.upto consoleRowsSpec)) consoleRowsUptoCard
end Rows
end Go.Proofs.YtajcddaahmbllaaDoor
