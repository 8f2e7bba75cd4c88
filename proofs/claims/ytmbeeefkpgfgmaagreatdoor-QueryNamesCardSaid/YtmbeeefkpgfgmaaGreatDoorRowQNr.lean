/- QueryNames: the row. -/
import Derived.Test.YtmbeeefkpgfgmaaGreatDoorRowQNl
import Derived.Test.YtmbeeefkpgfgmaaGreatDoorCards
import Derived.Test.YtmbeeefkpgfgmaaGreatDoorTie
import Derived.Carry
import Derived.JoinedOf
set_option linter.unusedVariables false
set_option linter.unusedSimpArgs false
namespace Go.Proofs.YtmbeeefkpgfgmaaGreatDoor
open Go.ChangeShapes Go.WideShapes Go.ChangeAt Go.RowKit
open Go.ChangeMaps (open_string shut_string)
set_option maxRecDepth 100000
theorem qn_named : Tryz.prog.funcNamed Rows.queryNamesRow.func = some 4 := by kernel_rfl
theorem qn_facts : joinedFacts Tryz.prog 4 Tryz.f4 Rows.queryNamesSpec Rows.queryNamesRow = true := by kernel_rfl
theorem qn_inst : Tryz.f4.isInstance Tryz.prog Rows.queryNamesRow.origin Rows.queryNamesRow.targs := of_decide_eq_true (by kernel_rfl)
theorem qn_wrap : Tryz.f4.isWrapper Tryz.prog Rows.queryNamesRow.wrapper Rows.queryNamesRow.mainSum := by unfold Func.isWrapper; first | (rw [if_pos (by decide +kernel)]; kernel_rfl) | (rw [if_neg (by decide +kernel)]; exact ⟨rfl, rfl⟩)
theorem qn_lift (os : Os) (started : os.Started) (H : Type) (enc : TypeId × Value → H) : ReturnsInHanded Rows.queryNamesRow.assume Tryz.pinned.checked os 4 .any (Rows.queryNamesRow.pre enc Tryz.pinned.checked.prog Tryz.f4 (OpenSpec.ofChange Rows.queryNamesSpec)) (Rows.queryNamesSpec.post enc Tryz.pinned.checked.prog Tryz.f4 Rows.queryNamesRow.apart Rows.queryNamesRow.fresh Rows.queryNamesRow.handsOn Rows.queryNamesRow.again) := queryNames_lifted os started H enc
theorem queryNames_row : Rows.QueryNamesSaid :=
  OpenClaim.holds_of_wide (p := Tryz.pinned) (s := Rows.queryNamesSpec) (c := Rows.queryNamesRow) 4 Tryz.f4 rfl rfl rfl rfl rfl rfl rfl ⟨rfl, rfl, rfl, rfl, rfl⟩ rfl rfl rfl rfl rfl qn_named Tryz.func4 qn_facts qn_inst qn_wrap (fun os started H enc _ => qn_lift os started H enc)
end Go.Proofs.YtmbeeefkpgfgmaaGreatDoor
