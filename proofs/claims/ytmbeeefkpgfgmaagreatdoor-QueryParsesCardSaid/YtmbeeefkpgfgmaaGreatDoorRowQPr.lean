/- QueryParses: the row. -/
import Derived.Test.YtmbeeefkpgfgmaaGreatDoorRowQPf
set_option linter.unusedVariables false
set_option linter.unusedSimpArgs false
namespace Go.Proofs.YtmbeeefkpgfgmaaGreatDoor
open Go.Proofs.Tryz
open Go.ChangeShapes Go.WideShapes Go.ChangeAt Go.RowKit
open Go.ChangeMaps (open_string shut_string)
set_option maxRecDepth 100000
theorem l_Y : prog.funcNamed Rows.queryParsesRow.func = some 5 := by kernel_rfl
theorem r_L : Tryz.f5.isInstance prog Rows.queryParsesRow.origin Rows.queryParsesRow.targs := of_decide_eq_true k_
theorem r_u : Tryz.f5.isWrapper prog Rows.queryParsesRow.wrapper Rows.queryParsesRow.mainSum := by unfold Func.isWrapper; first | (rw [if_pos (by decide +kernel)]; kernel_rfl) | (rw [if_neg (by decide +kernel)]; exact ⟨rfl, rfl⟩)
theorem r_K (os : Os) (started : os.Started) (H : Type) (enc : TypeId × Value → H) : ReturnsInHanded Rows.queryParsesRow.assume Tryz.pinned.checked os 5 .any (Rows.queryParsesRow.pre enc Tryz.pinned.checked.prog Tryz.f5 (OpenSpec.ofChange Rows.queryParsesSpec)) (Rows.queryParsesSpec.post enc Tryz.pinned.checked.prog Tryz.f5 Rows.queryParsesRow.apart Rows.queryParsesRow.fresh Rows.queryParsesRow.handsOn Rows.queryParsesRow.again) := g_c os started H enc
theorem i_c : Rows.QueryParsesSaid :=
 OpenClaim.holds_of_wide (p := Tryz.pinned) (s := Rows.queryParsesSpec) (c := Rows.queryParsesRow) 5 Tryz.f5 rfl rfl rfl rfl rfl rfl rfl ⟨rfl, rfl, rfl, rfl, rfl⟩ rfl rfl rfl rfl rfl l_Y func5 p_C r_L r_u (fun os started H enc _ => r_K os started H enc)
end Go.Proofs.YtmbeeefkpgfgmaaGreatDoor
