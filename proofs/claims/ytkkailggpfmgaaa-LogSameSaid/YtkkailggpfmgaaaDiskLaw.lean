/- The statements of layer 4. -/
import Derived.Test.YtkkailggpfmgaaaDiskSep
import Derived.Test.YtkkailggpfmgaaaSumRef
namespace Go.Proofs.Ytkkailggpfmgaaa
set_option linter.unusedVariables false
set_option linter.unusedSimpArgs false
open Go.RowKit

/-- Are two slices of bytes alike? -/
theorem hcmp {w0 w : World} {r : List Thing} (S : St w0 w r) (t : Bool) (a b : Option Addr) (l m : List UInt8) (n k ca cb : Nat) (ht : (l == m) = t) (hn : l.length = n) (hk : m.length = k) (hl : n ≤ maxLen) (hm : k ≤ maxLen) (hA : At w a l) (hB : At w b m) :
    Calls Try.prog 34 #[.slice a n ca, .slice b k cb] w fun e w' => e = .returned (.bool t) ∧ St w0 w' r ∧ Below w.heap.size w w' := by
  subst ht
  refine (bytes_any a b l m n k ca cb w hn hk hl hm hA hB).mono ?_
  rintro e w' ⟨rfl, n, rfl⟩
  exact ⟨rfl, S.drewN n, below_drewN (Below.refl _ _) n⟩

end Go.Proofs.Ytkkailggpfmgaaa
