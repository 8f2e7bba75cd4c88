/- QueryValidates: the row. -/
import Derived.Test.YtmbeeefkpgfgmaaGreatDoorRowQVl
import Derived.Test.YtmbeeefkpgfgmaaGreatDoorCards
import Derived.Test.YtmbeeefkpgfgmaaGreatDoorTie
import Derived.Carry
import Derived.JoinedOf
set_option linter.unusedVariables false
set_option linter.unusedSimpArgs false
namespace Go.Proofs.YtmbeeefkpgfgmaaGreatDoor
open Go.ChangeShapes Go.WideShapes Go.ChangeAt Go.RowKit
open Go.ChangeMaps (open_string shut_string)
set_option maxRecDepth 100000
theorem qv_named : Tryz.prog.funcNamed Rows.queryValidatesRow.func = some 3 := by kernel_rfl
theorem qv_facts : joinedFacts Tryz.prog 3 Tryz.f3 Rows.queryValidatesSpec Rows.queryValidatesRow = true := by kernel_rfl
theorem qv_inst : Tryz.f3.isInstance Tryz.prog Rows.queryValidatesRow.origin Rows.queryValidatesRow.targs := of_decide_eq_true (by kernel_rfl)
theorem qv_wrap : Tryz.f3.isWrapper Tryz.prog Rows.queryValidatesRow.wrapper Rows.queryValidatesRow.mainSum := by unfold Func.isWrapper; first | (rw [if_pos (by decide +kernel)]; kernel_rfl) | (rw [if_neg (by decide +kernel)]; exact ⟨rfl, rfl⟩)
theorem qv_lift (os : Os) (started : os.Started) (H : Type) (enc : TypeId × Value → H) : ReturnsInHanded Rows.queryValidatesRow.assume Tryz.pinned.checked os 3 .any (Rows.queryValidatesRow.pre enc Tryz.pinned.checked.prog Tryz.f3 (OpenSpec.ofChange Rows.queryValidatesSpec)) (Rows.queryValidatesSpec.post enc Tryz.pinned.checked.prog Tryz.f3 Rows.queryValidatesRow.apart Rows.queryValidatesRow.fresh Rows.queryValidatesRow.handsOn Rows.queryValidatesRow.again) := queryValidates_lifted os started H enc
theorem queryValidates_row : Rows.QueryValidatesSaid :=
  OpenClaim.holds_of_wide (p := Tryz.pinned) (s := Rows.queryValidatesSpec) (c := Rows.queryValidatesRow) 3 Tryz.f3 rfl rfl rfl rfl rfl rfl rfl ⟨rfl, rfl, rfl, rfl, rfl⟩ rfl rfl rfl rfl rfl qv_named Tryz.func3 qv_facts qv_inst qv_wrap (fun os started H enc _ => qv_lift os started H enc)
end Go.Proofs.YtmbeeefkpgfgmaaGreatDoor

