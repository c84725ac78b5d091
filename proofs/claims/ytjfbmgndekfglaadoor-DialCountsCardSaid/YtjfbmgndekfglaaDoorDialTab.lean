/- What the row says of the table of powers of ten. -/
import Derived.Test.YtjfbmgndekfglaaDoorRows
import Derived.Test.YtjfbmgndekfglaaDoorDialAlive
import Derived.OpenShut
import Derived.LaidMore
import Derived.Lay
import Derived.Lib.LaidTab
namespace Go.Proofs.YtjfbmgndekfglaaDoor
set_option linter.unusedVariables false
open Go.RowKit
theorem pow_laid : (Rows.laid_internal_strconv_uint64pow10 : DataW Unit) = Lib.tabData .u64 Lib.pow10Tab := rfl
theorem pow_tab {W : World} (h : laidMetH Tryd.prog [("math/bits.deBruijn32tab", Rows.laid_math_bits_deBruijn32tab), ("math/bits.deBruijn64tab", Rows.laid_math_bits_deBruijn64tab), ("internal/strconv.uint64pow10", Rows.laid_internal_strconv_uint64pow10), ("strconv.ErrRange", Rows.laid_strconv_ErrRange), ("strconv.ErrSyntax", Rows.laid_strconv_ErrSyntax)] W) :
    Lib.TabIs Tryd.prog W "internal/strconv.uint64pow10" .u64 Lib.pow10Tab := by
  rw [MakeChecks.laidMetH_plain _ _ _ (by kernel_rfl)] at h
  obtain ⟨ps, hlv, -, -⟩ := h
  obtain ⟨_, _, _, _, _, _, _, _, _, _, h1, -⟩ := hlv
  obtain ⟨_, _, _, _, _, _, _, _, _, _, h2, -⟩ := h1
  obtain ⟨g, t, cs, fuel, p, q, hg, ht, hv, hd, _, _⟩ := h2
  rw [pow_laid] at hd
  obtain rfl := Option.some.inj ((show Tryd.prog.globalNamed "internal/strconv.uint64pow10" = some 0 by kernel_rfl).symm.trans hg)
  obtain rfl := Option.some.inj ((show (Tryd.prog.globals[0]?).map (·.type) = some 107 by kernel_rfl).symm.trans ht)
  unfold Lib.TabIs
  rw [hv, ← Lib.cells_of_tab Tryd.underlying107 Tryd.underlying100 (by kernel_rfl) (by kernel_rfl) hd]
theorem TabIs.all {w w' : World} (h : Lib.TabIs Tryd.prog w "internal/strconv.uint64pow10" .u64 Lib.pow10Tab) (hb : Below w.heap.size w w') : Lib.TabIs Tryd.prog w' "internal/strconv.uint64pow10" .u64 Lib.pow10Tab := by
  unfold Lib.TabIs World.var? at h ⊢
  rw [show Tryd.prog.globalNamed "internal/strconv.uint64pow10" = some 0 by kernel_rfl] at h ⊢
  simp only [Option.bind_some] at h ⊢
  have hlt : 0 < w.heap.size := by
    rcases Nat.lt_or_ge 0 w.heap.size with h1 | h1
    · exact h1
    · rw [Array.getElem?_eq_none h1] at h
      cases h
  rw [hb.block _ hlt]
  exact h
theorem alive27_tab {w : World} (h : Lib.TabIs Tryd.prog w "internal/strconv.uint64pow10" .u64 Lib.pow10Tab) : ∀ wx, Below w.heap.size w wx → Calls Tryd.prog 5 #[] wx fun e w' => e = .returned (.bool true) ∧ Below wx.heap.size wx w' := by
  intro wx hb
  refine alive27_any wx fun wy hy => ?_
  refine (sh_strconv_Itoa 100 (by decide) (by decide) wy (TabIs.all (TabIs.all h hb) hy)).mono ?_
  rintro e w' ⟨rfl, k, os, rfl⟩
  rw [show (100 : Int) = ((100 : Nat) : Int) from rfl, Lib.itoa_nonneg]
  refine ⟨rfl, rfl, rfl, rfl, ?_, fun b hb => ?_⟩
  · show wy.heap.size ≤ (wy.heap ++ os).size
    rw [Array.size_append]
    omega
  · show (wy.heap ++ os)[b]? = wy.heap[b]?
    exact Array.getElem?_append_left hb
end Go.Proofs.YtjfbmgndekfglaaDoor
