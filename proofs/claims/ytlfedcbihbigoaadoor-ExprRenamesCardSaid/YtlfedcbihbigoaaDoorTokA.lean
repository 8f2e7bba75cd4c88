/- Contracts of the byte classes and of the run of word bytes. -/
import Derived.Test.YtlfedcbihbigoaaDoorProg
import Derived.Test.YtlfedcbihbigoaaDoorBytes
import Derived.WalkLawsBesides
import Derived.Deep.QuietTactic
import Derived.BigQuiet
set_option linter.unusedVariables false
set_option linter.unusedSimpArgs false
namespace Go.Proofs.YtlfedcbihbigoaaDoor
open Go.RowKit

end Go.Proofs.YtlfedcbihbigoaaDoor
