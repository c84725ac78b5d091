/- The document's net: Twice, Flip, List; messages held against each other. -/
import Derived.Test.YtilobmefomoemaaDoorNetRef2
namespace Go.Proofs.YtilobmefomoemaaDoor
set_option linter.unusedVariables false
set_option linter.unusedSimpArgs false
open Go.RowKit
section
variable {w0 w : World} {tl : List Thing} {h : Nat} {aL aB : Option Addr} {cL cB : Nat} {s : NS}
end

end Go.Proofs.YtilobmefomoemaaDoor
