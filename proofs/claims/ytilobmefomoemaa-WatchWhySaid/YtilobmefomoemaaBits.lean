/- Bits of small numbers: the lowest, whether one is set. -/
import Derived.Test.YtilobmefomoemaaGround
import Derived.WalkKit
import Derived.Laws.Bits64b
namespace Go.Proofs.Ytilobmefomoemaa
set_option linter.unusedVariables false
set_option linter.unusedSimpArgs false
open Go.RowKit
def lowB (n : Nat) : Nat := if n % 2 = 1 then 0 else if n % 4 = 2 then 1 else if n % 8 = 4 then 2 else if n % 16 = 8 then 3 else if n % 32 = 16 then 4 else 5
theorem lowB_lt (n : Nat) : lowB n < 6 := by unfold lowB; repeat' split
                                             all_goals omega
theorem tz_keys : ∀ n : Fin 64, n.val ≠ 0 → IntKind.u64.wrap (bits BinOp.and IntKind.u64 (n.val : Int) (IntKind.u64.wrap (-(n.val : Int))) * 285870213051353865) / 288230376151711744 = ((2 ^ lowB n.val - 1 : Nat) : Int) := by decide +kernel
/-- Is a bit set? -/
def hasB (n : Int) (i : Nat) : Bool := n.toNat.testBit i
theorem has_run : ∀ (n : Fin 64) (i : Fin 6), bits .and .i64 ((n.val : Int) / 2 ^ i.val) 1 = if hasB n.val i.val then 1 else 0 := by decide +kernel
theorem low_has : ∀ (n : Fin 64), n.val ≠ 0 → hasB n.val (lowB n.val) = true := by decide +kernel
theorem low_least : ∀ (n : Fin 64) (i : Fin 6), n.val ≠ 0 → i.val < lowB n.val → hasB n.val i.val = false := by decide +kernel
end Go.Proofs.Ytilobmefomoemaa
