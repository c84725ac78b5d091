/- Bits of small numbers: the lowest, whether one is set. -/
import Derived.Test.YtjfbmgndekfglaaDoorGround
import Derived.WalkKit
import Derived.Laws.Bits64b
namespace Go.Proofs.YtjfbmgndekfglaaDoor
set_option linter.unusedVariables false
set_option linter.unusedSimpArgs false
open Go.RowKit
def lowB (n : Nat) : Nat := if n % 2 = 1 then 0 else if n % 4 = 2 then 1 else if n % 8 = 4 then 2 else if n % 16 = 8 then 3 else if n % 32 = 16 then 4 else 5
/-- The table of math/bits, so much of it as is read. -/
def TabOk (w : World) : Prop := ∀ k, k < 6 → w.cell? ⟨4, 2 ^ k - 1, none⟩ = some (.int .u8 (k : Nat))
theorem TabOk.all {w w' : World} (h : TabOk w) (hb : Below w.heap.size w w') : TabOk w' := by
  intro k hk
  rw [← h k hk]
  exact hb.cell (World.block_lt_of_cell? w _ (h k hk))
theorem lowB_lt (n : Nat) : lowB n < 6 := by unfold lowB; repeat' split
                                             all_goals omega
theorem tz_keys : ∀ n : Fin 64, n.val ≠ 0 → IntKind.u64.wrap (bits BinOp.and IntKind.u64 (n.val : Int) (IntKind.u64.wrap (-(n.val : Int))) * 285870213051353865) / 288230376151711744 = ((2 ^ lowB n.val - 1 : Nat) : Int) := by decide +kernel
set_option maxHeartbeats 1000000 in
theorem tz64_core (x k idx : Nat) (w : World) (hx0 : ((x : Int) == 0) = false)
    (key : IntKind.u64.wrap (bits BinOp.and IntKind.u64 (x : Int) (IntKind.u64.wrap (-(x : Int))) * 285870213051353865) / 288230376151711744 = (idx : Int))
    (hi : idx < 64) (hk : k < 64) (hcell : w.cell? ⟨4, idx, none⟩ = some (.int .u8 k)) :
    Calls Tryd.prog 75 #[.int .u64 x] w fun e w' => e = .returned (.int .i64 k) ∧ w' = w := by
  go_enter Tryd.func75, Tryd.ntmps75
  go_wp2_with (simp only [key])
  go_ret
  exact ⟨rfl, rfl⟩
theorem tz_any (x : Nat) (w : World) (h0 : 0 < x) (h6 : x < 64) (hT : TabOk w) :
    Calls Tryd.prog 68 #[.int .u64 x] w fun e w' => e = .returned (.int .i64 (lowB x : Nat)) ∧ w' = w := by
  have hk := lowB_lt x
  have key := tz_keys ⟨x, h6⟩ (by simp; omega)
  simp only at key
  have hp : 2 ^ lowB x - 1 < 64 := by
    have : 2 ^ lowB x ≤ 2 ^ 5 := Nat.pow_le_pow_right (by decide) (by omega)
    omega
  have H := tz64_core x (lowB x) (2 ^ lowB x - 1) w (by simp; omega) key hp (by omega) (hT _ hk)
  go_enter Tryd.func68, Tryd.ntmps68
  go_wp2_with fail
  refine H.mono ?_
  rintro e w1 ⟨rfl, rfl⟩
  go_wp2
  go_ret
  exact ⟨rfl, rfl⟩
/-- Is a bit set? -/
def hasB (n : Int) (i : Nat) : Bool := n.toNat.testBit i
theorem has_run : ∀ (n : Fin 64) (i : Fin 6), bits .and .i64 ((n.val : Int) / 2 ^ i.val) 1 = if hasB n.val i.val then 1 else 0 := by decide +kernel
theorem low_has : ∀ (n : Fin 64), n.val ≠ 0 → hasB n.val (lowB n.val) = true := by decide +kernel
theorem low_least : ∀ (n : Fin 64) (i : Fin 6), n.val ≠ 0 → i.val < lowB n.val → hasB n.val i.val = false := by decide +kernel
end Go.Proofs.YtjfbmgndekfglaaDoor
