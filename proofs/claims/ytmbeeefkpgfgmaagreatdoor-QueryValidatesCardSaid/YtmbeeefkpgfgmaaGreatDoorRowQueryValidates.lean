/- QueryValidates: for every input the law is true; the card tied to the program's text. -/
import Derived.Test.YtmbeeefkpgfgmaaGreatDoorRowQVr
import Derived.Test.YtmbeeefkpgfgmaaGreatDoorCards
import Derived.Test.YtmbeeefkpgfgmaaGreatDoorTie
import Derived.Carry
set_option linter.unusedVariables false
set_option linter.unusedSimpArgs false
namespace Go.Proofs.YtmbeeefkpgfgmaaGreatDoor
open Go.ChangeShapes Go.WideShapes Go.ChangeAt Go.RowKit
open Go.ChangeMaps (open_string shut_string)
set_option maxRecDepth 100000
theorem qv_wbt : Rows.queryValidatesRow.wfByText (OpenSpec.ofChange Rows.queryValidatesSpec) = true := by kernel_rfl
theorem qv_main : Tryz.pinned.checked.prog.mainIs = some (true, "caf8d2c4fbd741cc06272c3414c4a01ce09de9d8875aa6b563693ba79b1a8b07".toList) := by kernel_rfl
theorem qv_looks : false = Tryz.pinned.checked.prog.looks [] := by kernel_rfl
theorem qv_goes : false = Rows.queryValidatesRow.goesBy Tryz.pinned.checked.prog := by kernel_rfl
theorem qv_stand : ([ 22, 27, 28, 3 ].all fun u => !Tryz.prog.wantsStandIn u) = true := by kernel_rfl
theorem qv_at (j : Nat) (t : TypeId) (ht : Tryz.f3.params[j]? = some t) : Tryz.pinned.checked.prog.wantsStandIn t = false := by
  rw [ Tryz.params3 ] at ht
  have hm : t ∈ [ 22, 27, 28, 3 ] := by simpa using Array.mem_of_getElem? ht
  exact (show Tryz.prog.wantsStandIn t = false by simpa using List.all_eq_true.1 qv_stand t hm)
theorem qv_fn (f : FuncId) (fn : Func) (hf : Tryz.pinned.checked.prog.funcNamed Rows.queryValidatesRow.func = some f) (hfn : Tryz.pinned.checked.prog.funcs[f]? = some fn) :
    false = Tryz.pinned.checked.prog.looks [] ∧ ∀ (j : Nat) t, fn.params[j]? = some t → Tryz.pinned.checked.prog.wantsStandIn t = false := by
  obtain rfl : f = 3 := (Option.some.inj (qv_named.symm.trans hf)).symm
  obtain rfl : fn = Tryz.f3 := (Option.some.inj (Tryz.func3.symm.trans hfn)).symm
  exact ⟨qv_looks, qv_at⟩
theorem queryValidates_holds : Rows.QueryValidatesCardSaid :=
  Claim7.holds_tied_plain_at .later (p := Tryz.pinned) (s := OpenSpec.ofChange Rows.queryValidatesSpec) (c := Rows.queryValidatesRow) [] [.widerDeep, .data] true (true, "caf8d2c4fbd741cc06272c3414c4a01ce09de9d8875aa6b563693ba79b1a8b07") false
    queryValidates_row (fun _ h => by cases h) qv_wbt (fun _ h => by cases h) queryValidates_row_tie rfl ⟨rfl, rfl⟩ qv_main rfl qv_fn qv_goes
#print axioms queryValidates_holds
end Go.Proofs.YtmbeeefkpgfgmaaGreatDoor

