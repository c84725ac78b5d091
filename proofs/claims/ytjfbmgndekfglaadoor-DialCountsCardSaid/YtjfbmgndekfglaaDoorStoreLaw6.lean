/- StoreActs: do. -/
import Derived.Test.YtjfbmgndekfglaaDoorStoreRef7
namespace Go.Proofs.YtjfbmgndekfglaaDoor
set_option linter.unusedVariables false
set_option linter.unusedSimpArgs false
open Go.RowKit
section
variable {w0 w : World} {tl : List Thing} {g h : Nat} {q : QS} {s : SS}
end
end Go.Proofs.YtjfbmgndekfglaaDoor
