/- The document's net. -/
import Derived.Test.YtilobmefomoemaaDoorNetLaw4
import Derived.Test.YtilobmefomoemaaDoorHeld
namespace Go.Proofs.YtilobmefomoemaaDoor
set_option linter.unusedVariables false
set_option linter.unusedSimpArgs false
open Go.RowKit
section
variable {w0 w : World} {tl : List Thing} {h : Nat} {aL aB : Option Addr} {cL cB : Nat} {s : NS}
end

end Go.Proofs.YtilobmefomoemaaDoor
