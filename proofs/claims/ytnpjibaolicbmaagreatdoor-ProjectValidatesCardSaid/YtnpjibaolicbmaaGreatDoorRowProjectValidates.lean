/- ProjectValidates: for every input the law is true; the card tied to the program's text. -/
import Derived.Test.YtnpjibaolicbmaaGreatDoorRowPVr
set_option linter.unusedVariables false
set_option linter.unusedSimpArgs false
namespace Go.Proofs.YtnpjibaolicbmaaGreatDoor
open Go.Proofs.Tryz
open Go.ChangeShapes Go.WideShapes Go.ChangeAt Go.RowKit
open Go.ChangeMaps (open_string shut_string)
set_option maxRecDepth 100000
theorem p_u : Rows.projectValidatesRow.wfByText (OpenSpec.ofChange Rows.projectValidatesSpec) = true := by kernel_rfl
theorem o_5 : Tryz.pinned.checked.prog.mainIs = some (true, "cadf66101d7b4e4423c21004489b92670a91fa7711cc49c95979a035270ef84c".toList) := by kernel_rfl
theorem m_Q : false = Tryz.pinned.checked.prog.looks [] := by kernel_rfl
theorem n_f : false = Rows.projectValidatesRow.goesBy Tryz.pinned.checked.prog := by kernel_rfl
theorem m_r : ([ 22, 23, 3 ].all fun u => !prog.wantsStandIn u) = true := by kernel_rfl
theorem r_D (j : Nat) (t : TypeId) (ht : Tryz.f3.params[j]? = some t) : Tryz.pinned.checked.prog.wantsStandIn t = false := by
 rw [ params3 ] at ht
 have hm : t ∈ [ 22, 23, 3 ] := by simpa using Array.mem_of_getElem? ht
 exact (show prog.wantsStandIn t = false by simpa using List.all_eq_true.1 m_r t hm)
theorem q_H (f : FuncId) (fn : Func) (hf : Tryz.pinned.checked.prog.funcNamed Rows.projectValidatesRow.func = some f) (hfn : Tryz.pinned.checked.prog.funcs[f]? = some fn) :
  false = Tryz.pinned.checked.prog.looks [] ∧ ∀ (j : Nat) t, fn.params[j]? = some t → Tryz.pinned.checked.prog.wantsStandIn t = false := by
 obtain rfl : f = 3 := (Option.some.inj (j_H.symm.trans hf)).symm
 obtain rfl : fn = Tryz.f3 := (Option.some.inj (func3.symm.trans hfn)).symm
 exact ⟨m_Q, r_D⟩
theorem projectValidates_holds : Rows.ProjectValidatesCardSaid :=
 Claim7.holds_tied_plain_at .later (p := Tryz.pinned) (s := OpenSpec.ofChange Rows.projectValidatesSpec) (c := Rows.projectValidatesRow) [] [.widerDeep, .widerDeep, .data] true (true, "cadf66101d7b4e4423c21004489b92670a91fa7711cc49c95979a035270ef84c") false
  e_d (fun _ h => by cases h) p_u (fun _ h => by cases h) projectValidates_row_tie rfl ⟨rfl, rfl⟩ o_5 rfl q_H n_f
end Go.Proofs.YtnpjibaolicbmaaGreatDoor
