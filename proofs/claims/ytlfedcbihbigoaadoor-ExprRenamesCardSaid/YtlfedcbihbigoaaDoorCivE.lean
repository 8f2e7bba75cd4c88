/- Contract of the reader of a time, the program's. -/
import Derived.Test.YtlfedcbihbigoaaDoorCivD
import Derived.Deep.RegionWith
set_option linter.unusedVariables false
set_option linter.unusedSimpArgs false
namespace Go.Proofs.YtlfedcbihbigoaaDoor
open Go.RowKit

theorem form_get (k : Nat) (hk : k < (⟨#[48, 48, 48, 48, 45, 48, 48, 45, 48, 48, 84, 48, 48, 58, 48, 48]⟩ : ByteArray).size) : (⟨#[48, 48, 48, 48, 45, 48, 48, 45, 48, 48, 84, 48, 48, 58, 48, 48]⟩ : ByteArray)[k] = timeForm.getD k 0 := by
  have h : k < timeForm.length := hk
  rw [List.getD, List.getElem?_eq_getElem h, Option.getD_some]
  rfl

end Go.Proofs.YtlfedcbihbigoaaDoor
