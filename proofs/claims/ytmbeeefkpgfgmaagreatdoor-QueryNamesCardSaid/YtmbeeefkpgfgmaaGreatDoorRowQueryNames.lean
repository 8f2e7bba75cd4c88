/- QueryNames: for every input the law is true; the card tied to the program's text. -/
import Derived.Test.YtmbeeefkpgfgmaaGreatDoorRowQNr
import Derived.Test.YtmbeeefkpgfgmaaGreatDoorCards
import Derived.Test.YtmbeeefkpgfgmaaGreatDoorTie
import Derived.Carry
set_option linter.unusedVariables false
set_option linter.unusedSimpArgs false
namespace Go.Proofs.YtmbeeefkpgfgmaaGreatDoor
open Go.ChangeShapes Go.WideShapes Go.ChangeAt Go.RowKit
open Go.ChangeMaps (open_string shut_string)
set_option maxRecDepth 100000
theorem qn_wbt : Rows.queryNamesRow.wfByText (OpenSpec.ofChange Rows.queryNamesSpec) = true := by kernel_rfl
theorem qn_main : Tryz.pinned.checked.prog.mainIs = some (true, "caf8d2c4fbd741cc06272c3414c4a01ce09de9d8875aa6b563693ba79b1a8b07".toList) := by kernel_rfl
theorem qn_looks : false = Tryz.pinned.checked.prog.looks [] := by kernel_rfl
theorem qn_goes : false = Rows.queryNamesRow.goesBy Tryz.pinned.checked.prog := by kernel_rfl
theorem qn_stand : ([ 22, 28, 3 ].all fun u => !Tryz.prog.wantsStandIn u) = true := by kernel_rfl
theorem qn_at (j : Nat) (t : TypeId) (ht : Tryz.f4.params[j]? = some t) : Tryz.pinned.checked.prog.wantsStandIn t = false := by
  rw [ Tryz.params4 ] at ht
  have hm : t ∈ [ 22, 28, 3 ] := by simpa using Array.mem_of_getElem? ht
  exact (show Tryz.prog.wantsStandIn t = false by simpa using List.all_eq_true.1 qn_stand t hm)
theorem qn_fn (f : FuncId) (fn : Func) (hf : Tryz.pinned.checked.prog.funcNamed Rows.queryNamesRow.func = some f) (hfn : Tryz.pinned.checked.prog.funcs[f]? = some fn) :
    false = Tryz.pinned.checked.prog.looks [] ∧ ∀ (j : Nat) t, fn.params[j]? = some t → Tryz.pinned.checked.prog.wantsStandIn t = false := by
  obtain rfl : f = 4 := (Option.some.inj (qn_named.symm.trans hf)).symm
  obtain rfl : fn = Tryz.f4 := (Option.some.inj (Tryz.func4.symm.trans hfn)).symm
  exact ⟨qn_looks, qn_at⟩
theorem queryNames_holds : Rows.QueryNamesCardSaid :=
  Claim7.holds_tied_plain_at .later (p := Tryz.pinned) (s := OpenSpec.ofChange Rows.queryNamesSpec) (c := Rows.queryNamesRow) [] [.widerDeep, .data] true (true, "caf8d2c4fbd741cc06272c3414c4a01ce09de9d8875aa6b563693ba79b1a8b07") false
    queryNames_row (fun _ h => by cases h) qn_wbt (fun _ h => by cases h) queryNames_row_tie rfl ⟨rfl, rfl⟩ qn_main rfl qn_fn qn_goes
end Go.Proofs.YtmbeeefkpgfgmaaGreatDoor
