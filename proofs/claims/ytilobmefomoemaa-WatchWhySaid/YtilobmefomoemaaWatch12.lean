/- Watch: the example. -/
import Derived.Test.YtilobmefomoemaaWatch11
import Derived.Test.YtilobmefomoemaaWatchEx2
namespace Go.Proofs.Ytilobmefomoemaa
set_option linter.unusedVariables false
set_option linter.unusedSimpArgs false
open Go.RowKit
def xA : AG := ⟨true, 0, 0, 1, 1, 1, 1, 0, 0, 0⟩
theorem atTwo {w0 w : World} {l : List Thing} (S : St w0 w l) (k : Nat) {g : Nat} {T : TypeId} {x y : AG} (h : l[k]? = some (cellsT g T (x.cs ++ y.cs))) : AtG eAG w (some ⟨g, 0, none⟩) [x, y] := by
  intro i hi
  refine ⟨rfl, fun j hj => ?_⟩
  have hj' : j < 10 := hj
  have e : ∀ o, w.cell? ⟨g, o, none⟩ = (x.cs ++ y.cs)[o]? := fun o => by
    rcases Nat.lt_or_ge o 20 with ho | ho
    · have hl : o < (x.cs ++ y.cs).length := ho
      rw [S.cell k h o (List.getElem?_eq_getElem hl), List.getElem?_eq_getElem hl]
    · obtain ⟨F, ⟨h1, h2, h3⟩, h4⟩ := S.step k h
      have hl : (x.cs ++ y.cs).length = 20 := rfl
      rw [List.getElem?_eq_none (by omega)]
      unfold World.cell?
      rw [h2]
      simp [hl, AG.cs]
      omega
  rcases (show i = 0 ∨ i = 1 by simp at hi; omega) with rfl | rfl
  · rw [show adr (some ⟨g, 0, none⟩) (0 * eAG.s + j) = ⟨g, j, none⟩ by simp [adr, Addr.add_lit], e j, List.getElem?_append_left (show j < x.cs.length from hj')]
    rfl
  · rw [show adr (some ⟨g, 0, none⟩) (1 * eAG.s + j) = ⟨g, 10 + j, none⟩ by simp [adr, Addr.add_lit, eAG], e (10 + j), List.getElem?_append_right (show x.cs.length ≤ 10 + j from Nat.le_add_right _ _), show 10 + j - x.cs.length = j from Nat.add_sub_cancel_left 10 j]
    rfl
theorem xWhy2 (na : Option Addr) (nc : Nat) (ja : Option Addr) (jc : Nat) : whyN (xS na nc ja jc) [xA, xA] none true = 2 := by rfl
theorem xWhy0 (na : Option Addr) (nc : Nat) (ja : Option Addr) (jc : Nat) : whyN (xS na nc ja jc) [xA] none true = 0 := by rfl
theorem xHas : hasA xA = true := rfl
theorem xCnt : cntG [xA, xA] 1 1 = 2 := by rfl
theorem xBeh (na : Option Addr) (nc : Nat) (ja : Option Addr) (jc : Nat) : behL (meantS (xS na nc ja jc)) [xA, xA] = 0 := by rfl
theorem xFree : freeK [xA, xA] 9 2 = [] := by rfl
end Go.Proofs.Ytilobmefomoemaa
