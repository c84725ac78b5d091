/- No store. -/
import Derived.Test.YtjfbmgndekfglaaDoorStoreRel
namespace Go.Proofs.YtjfbmgndekfglaaDoor
set_option linter.unusedVariables false
set_option linter.unusedSimpArgs false
open Go.RowKit
end Go.Proofs.YtjfbmgndekfglaaDoor
