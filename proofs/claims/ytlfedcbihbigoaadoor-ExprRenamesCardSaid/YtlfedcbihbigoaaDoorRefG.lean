/- Contract of the splitter, the reference's. -/
import Derived.Test.YtlfedcbihbigoaaDoorTokF
import Derived.Test.YtlfedcbihbigoaaDoorRefD
import Derived.Test.YtlfedcbihbigoaaDoorRefF
set_option linter.unusedVariables false
set_option linter.unusedSimpArgs false
namespace Go.Proofs.YtlfedcbihbigoaaDoor
open Go.RowKit

end Go.Proofs.YtlfedcbihbigoaaDoor
