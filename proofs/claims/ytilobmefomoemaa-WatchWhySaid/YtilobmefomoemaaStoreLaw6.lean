/- StoreActs: do. -/
import Derived.Test.YtilobmefomoemaaStoreRef7
namespace Go.Proofs.Ytilobmefomoemaa
set_option linter.unusedVariables false
set_option linter.unusedSimpArgs false
open Go.RowKit
section
variable {w0 w : World} {tl : List Thing} {g h : Nat} {q : QS} {s : SS}
def DoPost (w0 : World) (g h : Nat) (tl : List Thing) (q : QS) (e : Ending) (w' : World) : Prop :=
  ∃ s' q', e = .returned (.bool true) ∧ RelS s' q' ∧ q'.L.length ≤ q.L.length + 1 ∧ q'.writes ≤ q.writes + 1 ∧ St w0 w' (rstT h q' :: storeT g s' :: tl)
end
end Go.Proofs.Ytilobmefomoemaa
