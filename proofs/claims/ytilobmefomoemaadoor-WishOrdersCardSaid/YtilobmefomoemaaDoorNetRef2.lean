/- The document's net: Drop, Deliver, Twice, Flip, List; messages held against each other. -/
import Derived.Test.YtilobmefomoemaaDoorNetRef
namespace Go.Proofs.YtilobmefomoemaaDoor
set_option linter.unusedVariables false
set_option linter.unusedSimpArgs false
open Go.RowKit
/-- The first `k` of a list without number `i`. -/
def er {α : Type} (l : List α) (i k : Nat) : List α := (l.take k).eraseIdx i
theorem er_eq {α : Type} {l : List α} {i : Nat} (h : i < l.length) : er l i (i + 1) = er l i i := by
  unfold er
  rw [List.take_succ_eq_append_getElem h]
  have h1 : (l.take i).length = i := by rw [List.length_take]; omega
  rw [List.eraseIdx_of_length_le (l := l.take i) (by omega), List.eraseIdx_append_of_length_le (by omega), h1, Nat.sub_self]
  simp
theorem er_ne {α : Type} {l : List α} {i k : Nat} (h : k < l.length) (hk : k ≠ i) : er l i (k + 1) = er l i k ++ [l[k]] := by
  unfold er
  rw [List.take_succ_eq_append_getElem h]
  have h1 : (l.take k).length = k := by rw [List.length_take]; omega
  rcases Nat.lt_or_gt_of_ne hk with h2 | h2
  · rw [List.eraseIdx_of_length_le (l := l.take k) (by omega), List.eraseIdx_of_length_le (by rw [List.length_append, h1]; simp; omega)]
  · rw [List.eraseIdx_append_of_lt_length (by omega)]
theorem er_all {α : Type} (l : List α) (i : Nat) : er l i l.length = l.eraseIdx i := by unfold er; rw [List.take_length]
theorem map_erase {α β : Type} (f : α → β) (l : List α) (i : Nat) : (l.eraseIdx i).map f = (l.map f).eraseIdx i := by
  rw [List.eraseIdx_eq_take_drop_succ, List.eraseIdx_eq_take_drop_succ, List.map_append, List.map_take, List.map_drop]
theorem er_len {α β : Type} (l : List α) (f g : α → β) (i k : Nat) : (er (l.map f) i k).length = (er (l.map g) i k).length := by
  unfold er; rw [List.length_eraseIdx, List.length_eraseIdx]; simp
theorem er_le {α : Type} (l : List α) (i k : Nat) : (er l i k).length ≤ k := by
  unfold er; rw [List.length_eraseIdx, List.length_take]; split <;> omega
section
variable {w0 w : World} {tl : List Thing} {h : Nat} {aL aB : Option Addr} {cL cB : Nat} {s : NS}
end

end Go.Proofs.YtilobmefomoemaaDoor
