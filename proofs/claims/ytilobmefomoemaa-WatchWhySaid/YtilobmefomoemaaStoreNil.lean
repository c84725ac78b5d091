/- No store. -/
import Derived.Test.YtilobmefomoemaaStoreRel
namespace Go.Proofs.Ytilobmefomoemaa
set_option linter.unusedVariables false
set_option linter.unusedSimpArgs false
open Go.RowKit
set_option maxRecDepth 10000 in
theorem njJob (n : Int) (w : World) : Calls Try.prog 46 #[.pointer none, .int .i64 n] w fun e w' => e = .returned (.pointer none) ∧ w = w' := by
  go_enter Try.func46, Try.ntmps46
  go_wp2
  go_ret
  exact ⟨rfl, rfl⟩
set_option maxRecDepth 10000 in
theorem njGet (n ep : Int) (w : World) : Calls Try.prog 61 #[.pointer none, .int .i64 n, .int .i64 ep] w fun e w' => e = .returned (.tuple #[.slice none 0 0, .bool false]) ∧ w = w' := by
  go_enter Try.func61, Try.ntmps61
  go_wp2_with fail
  refine (njJob n _).mono ?_
  rintro e w1 ⟨rfl, rfl⟩
  go_wp2
  go_ret2
  exact ⟨rfl, rfl⟩
set_option maxRecDepth 10000 in
theorem njStage (t n ep : Int) (a : Option Addr) (m c : Nat) (w : World) : Calls Try.prog 27 #[.pointer none, .int .i64 t, .int .i64 n, .int .i64 ep, .slice a m c] w fun e w' => e = .returned (.int .i64 1) ∧ w = w' := by
  go_enter Try.func27, Try.ntmps27
  go_wp2_with fail
  refine (njJob n _).mono ?_
  rintro e w1 ⟨rfl, rfl⟩
  go_wp2
  go_ret
  exact ⟨rfl, rfl⟩
set_option maxRecDepth 10000 in
theorem njCommit (n ep : Int) (w : World) : Calls Try.prog 25 #[.pointer none, .int .i64 n, .int .i64 ep] w fun e w' => e = .returned (.int .i64 1) ∧ w = w' := by
  go_enter Try.func25, Try.ntmps25
  go_wp2_with fail
  refine (njJob n _).mono ?_
  rintro e w1 ⟨rfl, rfl⟩
  go_wp2
  go_ret
  exact ⟨rfl, rfl⟩
set_option maxRecDepth 10000 in
theorem njUsed (w : World) : Calls Try.prog 50 #[.pointer none] w fun e w' => e = .returned (.int .i64 0) ∧ w = w' := by
  go_enter Try.func50, Try.ntmps50
  go_wp2
  go_ret
  exact ⟨rfl, rfl⟩
end Go.Proofs.Ytilobmefomoemaa
