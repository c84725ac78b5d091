/- What is opened of slices of slices. -/
import Derived.Test.YtkkailggpfmgaaaOpen
import Derived.Test.YtkkailggpfmgaaaFrameAll
namespace Go.Proofs.Ytkkailggpfmgaaa
set_option linter.unusedVariables false
set_option linter.unusedSimpArgs false
open Go.RowKit

/-- A slice of bytes that came in as an element. -/
theorem BS.conv {H : Type} {enc : TypeId × Value → H} {w : World} {base : Nat} {spare : Nat → Bool} {held : Bool} (fuel : Nat) (cs : List Value) (x : DataW H × List MemPlace) (_ : cs.length = eS.s)
    (h : DataW.trod enc Try.prog w base spare held fuel eS.E cs = some x) : ∃ y : BS, cs = eS.enc y ∧ (BS.Hd y ∧ At w y.a y.l) := by
  obtain ⟨a, n, c, l, rfl, h1, h2, h3, h4, h5⟩ := open_bytes sliceB u8T (by kernel_rfl) h
  exact ⟨⟨a, n, c, l⟩, rfl, ⟨h1, h2, h3, h4⟩, h5⟩

end Go.Proofs.Ytkkailggpfmgaaa
