/- Contract of the reader of a text literal. -/
import Derived.Test.YtlfedcbihbigoaaDoorTokB
import Derived.Test.YtlfedcbihbigoaaDoorOwn
set_option linter.unusedVariables false
set_option linter.unusedSimpArgs false
namespace Go.Proofs.YtlfedcbihbigoaaDoor
open Go.RowKit

theorem Tryd.info_u8 : (Tryd.prog.info? 5).map (fun i => (i.zero, i.size, i.bytes)) = some (some (.int .u8 0), 1, 1) := by kernel_rfl
end Go.Proofs.YtlfedcbihbigoaaDoor
