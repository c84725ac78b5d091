/- Watch: agents in a slice that came in. -/
import Derived.Test.YtilobmefomoemaaWatchCounts
namespace Go.Proofs.Ytilobmefomoemaa
set_option linter.unusedVariables false
set_option linter.unusedSimpArgs false
open Go.RowKit
theorem AG.elt {H : Type} {enc : TypeId × Value → H} {w : World} {base : Nat} {spare : Nat → Bool} {held : Bool} (fuel : Nat) (cs : List Value) (x : DataW H × List MemPlace) (hl : cs.length = eAG.s)
    (h : DataW.trod enc Try.prog w base spare held fuel eAG.E cs = some x) : ∃ y : AG, cs = eAG.enc y ∧ True := by
  have hC : Try.prog.cellsOf eAG.E = 10 := by kernel_rfl
  obtain ⟨vs, rfl, hr⟩ := open_leaves 3 (ks := [.bool, .int, .int, .int, .int, .int, .int, .int, .int, .int]) (by kernel_rfl) (hl.trans hC.symm) hC h
  obtain ⟨a1, u1, e1, hq⟩ := hr.bool
  subst e1
  obtain ⟨a2, _, rfl, _, hr⟩ := hq.int
  obtain ⟨a3, _, rfl, _, hr⟩ := hr.int
  obtain ⟨a4, _, rfl, _, hr⟩ := hr.int
  obtain ⟨a5, _, rfl, _, hr⟩ := hr.int
  obtain ⟨a6, _, rfl, _, hr⟩ := hr.int
  obtain ⟨a7, _, rfl, _, hr⟩ := hr.int
  obtain ⟨a8, _, rfl, _, hr⟩ := hr.int
  obtain ⟨a9, _, rfl, _, hr⟩ := hr.int
  obtain ⟨a10, _, rfl, _, hr⟩ := hr.int
  obtain rfl := hr.nil
  exact ⟨⟨a1, a2, a3, a4, a5, a6, a7, a8, a9, a10⟩, rfl, trivial⟩
end Go.Proofs.Ytilobmefomoemaa
