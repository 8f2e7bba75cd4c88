/- Contracts of the calendar, the reference's: the number of a day. -/
import Derived.Test.YtlfedcbihbigoaaDoorCivB
set_option linter.unusedVariables false
set_option linter.unusedSimpArgs false
namespace Go.Proofs.YtlfedcbihbigoaaDoor
open Go.RowKit

end Go.Proofs.YtlfedcbihbigoaaDoor
