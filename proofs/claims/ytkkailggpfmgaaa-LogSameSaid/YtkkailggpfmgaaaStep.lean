/- Steps of a region that draws its order: which operation is met. -/
import Derived.Test.YtkkailggpfmgaaaMem
import Derived.Deep.RegionHeld3
namespace Go.Proofs.Ytkkailggpfmgaaa
set_option linter.unusedVariables false
set_option linter.unusedSimpArgs false
open Go.RowKit

/-- Is it this call? (Under with_reducible: an arm that is meant for another operation fails at once.) -/
theorem guardC (f : FuncId) (xs : Array Operand) {ts : Array TypeId} {dst : Option Tmp} {ty : TypeId} {ps : String} {af : Array Edge} {gd : Option (Nat × Bool)} {Y : Nat → Option Bool} {a : Act} {w : World} {K : Act → World → Prop} {Q : Exit → Act → World → Prop} {E : Prop}
    (h : if Region.wanted ⟨dst, .call { callee := .value (.func f), args := xs, argTypes := ts }, ty, ps, af, gd⟩ Y = true then Oper.wp Try.prog ⟨dst, .call { callee := .value (.func f), args := xs, argTypes := ts }, ty, ps, af, gd⟩ a w K Q else E) :
    if Region.wanted ⟨dst, .call { callee := .value (.func f), args := xs, argTypes := ts }, ty, ps, af, gd⟩ Y = true then Oper.wp Try.prog ⟨dst, .call { callee := .value (.func f), args := xs, argTypes := ts }, ty, ps, af, gd⟩ a w K Q else E := h

theorem ops_at {l : List Oper} {i : Nat} {o : Oper} (h : l[i]? = some o) : (l.toArray)[i]? = some o := by simpa using h
/-- What is held through a region may be more from some step on. -/
theorem wpAnyH_mono {P : Program} {ops : Array Oper} {Q : Exit → Act → World → Prop} {md : Region.Mode} {S S' : World → Prop} (h : ∀ w, S w → S' w) :
    ∀ (fuel : Nat) (listed : Array Bool) (a : Act) (w : World), wpAnyH P md ops Q S fuel listed a w → wpAnyH P md ops Q S' fuel listed a w
  | 0, _, _, _, k => k
  | fuel + 1, _, _, _, k => ⟨k.1, fun i hi => wpOp_mono (fun a' w' k' => ⟨h w' k'.1, wpAnyH_mono h fuel _ a' w' k'.2⟩) (k.2 i hi)⟩

end Go.Proofs.Ytkkailggpfmgaaa
