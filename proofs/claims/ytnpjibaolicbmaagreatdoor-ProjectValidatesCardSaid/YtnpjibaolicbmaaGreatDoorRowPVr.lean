/- ProjectValidates: the row. -/
import Derived.Test.YtnpjibaolicbmaaGreatDoorRowPVl
import Derived.JoinedOf
set_option linter.unusedVariables false
set_option linter.unusedSimpArgs false
namespace Go.Proofs.YtnpjibaolicbmaaGreatDoor
open Go.Proofs.Tryz
open Go.ChangeShapes Go.WideShapes Go.ChangeAt Go.RowKit
open Go.ChangeMaps (open_string shut_string)
set_option maxRecDepth 100000
theorem j_H : prog.funcNamed Rows.projectValidatesRow.func = some 3 := by kernel_rfl
theorem m_u : joinedFacts prog 3 Tryz.f3 Rows.projectValidatesSpec Rows.projectValidatesRow = true := by kernel_rfl
theorem n_N : Tryz.f3.isInstance prog Rows.projectValidatesRow.origin Rows.projectValidatesRow.targs := of_decide_eq_true k_
theorem o_h : Tryz.f3.isWrapper prog Rows.projectValidatesRow.wrapper Rows.projectValidatesRow.mainSum := by unfold Func.isWrapper; first | (rw [if_pos (by decide +kernel)]; kernel_rfl) | (rw [if_neg (by decide +kernel)]; exact ⟨rfl, rfl⟩)
theorem o_2 (os : Os) (started : os.Started) (H : Type) (enc : TypeId × Value → H) : ReturnsInHanded Rows.projectValidatesRow.assume Tryz.pinned.checked os 3 .any (Rows.projectValidatesRow.pre enc Tryz.pinned.checked.prog Tryz.f3 (OpenSpec.ofChange Rows.projectValidatesSpec)) (Rows.projectValidatesSpec.post enc Tryz.pinned.checked.prog Tryz.f3 Rows.projectValidatesRow.apart Rows.projectValidatesRow.fresh Rows.projectValidatesRow.handsOn Rows.projectValidatesRow.again) := d_u os started H enc
theorem e_d : Rows.ProjectValidatesSaid :=
 OpenClaim.holds_of_wide (p := Tryz.pinned) (s := Rows.projectValidatesSpec) (c := Rows.projectValidatesRow) 3 Tryz.f3 rfl rfl rfl rfl rfl rfl rfl ⟨rfl, rfl, rfl, rfl, rfl⟩ rfl rfl rfl rfl rfl j_H func3 m_u n_N o_h (fun os started H enc _ => o_2 os started H enc)
end Go.Proofs.YtnpjibaolicbmaaGreatDoor
