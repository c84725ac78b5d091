/- A store, or none. -/
import Derived.Test.YtjfbmgndekfglaaDoorStoreNil
import Derived.Test.YtjfbmgndekfglaaDoorStoreLaw6
namespace Go.Proofs.YtjfbmgndekfglaaDoor
set_option linter.unusedVariables false
set_option linter.unusedSimpArgs false
open Go.RowKit
/-- Something that lies nowhere. -/
def noneT (p : Prop) : Thing where
  lies := fun w B F => p ∧ ∀ b, ¬ F b
  touch := fun ⟨a, h⟩ ht hB hM => ⟨a, h⟩
  low := fun ⟨a, h⟩ b hb => (h b hb).elim
def oStage (o : Option SS) (term job ep : Int) (d : List UInt8) : Int × Option SS :=
  match o with
  | none => (1, none)
  | some s => ((sStage s term job ep d).1, some (sStage s term job ep d).2)
def oGet (o : Option SS) (job ep : Int) : Option (List UInt8) :=
  match o with
  | none => none
  | some s => sGet s job ep
def oWrites : Option SS → Nat
  | none => 0
  | some s => s.writes
section
variable {w0 w : World} {r : List Thing} {sv : Value}
end
end Go.Proofs.YtjfbmgndekfglaaDoor
