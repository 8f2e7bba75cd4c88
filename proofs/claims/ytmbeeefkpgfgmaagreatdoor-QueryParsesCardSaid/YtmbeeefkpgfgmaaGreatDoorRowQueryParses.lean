/- QueryParses: for every input the law is true; the card tied to the program's text. -/
import Derived.Test.YtmbeeefkpgfgmaaGreatDoorRowQPr
set_option linter.unusedVariables false
set_option linter.unusedSimpArgs false
namespace Go.Proofs.YtmbeeefkpgfgmaaGreatDoor
open Go.Proofs.Tryz
open Go.ChangeShapes Go.WideShapes Go.ChangeAt Go.RowKit
open Go.ChangeMaps (open_string shut_string)
set_option maxRecDepth 100000
theorem s_k : Rows.queryParsesRow.wfByText (OpenSpec.ofChange Rows.queryParsesSpec) = true := by kernel_rfl
theorem r_S : Tryz.pinned.checked.prog.mainIs = some (true, "caf8d2c4fbd741cc06272c3414c4a01ce09de9d8875aa6b563693ba79b1a8b07".toList) := by kernel_rfl
theorem p_r : false = Tryz.pinned.checked.prog.looks [] := by kernel_rfl
theorem r_v : false = Rows.queryParsesRow.goesBy Tryz.pinned.checked.prog := by kernel_rfl
theorem p_b : ([ 9, 28, 3 ].all fun u => !prog.wantsStandIn u) = true := by kernel_rfl
theorem u_1 (j : Nat) (t : TypeId) (ht : Tryz.f5.params[j]? = some t) : Tryz.pinned.checked.prog.wantsStandIn t = false := by
 rw [ params5 ] at ht
 have hm : t ∈ [ 9, 28, 3 ] := by simpa using Array.mem_of_getElem? ht
 exact (show prog.wantsStandIn t = false by simpa using List.all_eq_true.1 p_b t hm)
theorem u_9 (f : FuncId) (fn : Func) (hf : Tryz.pinned.checked.prog.funcNamed Rows.queryParsesRow.func = some f) (hfn : Tryz.pinned.checked.prog.funcs[f]? = some fn) :
  false = Tryz.pinned.checked.prog.looks [] ∧ ∀ (j : Nat) t, fn.params[j]? = some t → Tryz.pinned.checked.prog.wantsStandIn t = false := by
 obtain rfl : f = 5 := (Option.some.inj (l_Y.symm.trans hf)).symm
 obtain rfl : fn = Tryz.f5 := (Option.some.inj (func5.symm.trans hfn)).symm
 exact ⟨p_r, u_1⟩
theorem queryParses_holds : Rows.QueryParsesCardSaid :=
 Claim7.holds_tied_plain_at .later (p := Tryz.pinned) (s := OpenSpec.ofChange Rows.queryParsesSpec) (c := Rows.queryParsesRow) [] [.data, .data, .data, .data, .data, .widerDeep, .widerDeep, .data, .data, .pinned] true (true, "caf8d2c4fbd741cc06272c3414c4a01ce09de9d8875aa6b563693ba79b1a8b07") false
  i_c (fun _ h => by cases h) s_k (fun _ h => by cases h) queryParses_row_tie rfl ⟨rfl, rfl⟩ r_S rfl u_9 r_v
end Go.Proofs.YtmbeeefkpgfgmaaGreatDoor
