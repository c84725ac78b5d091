/- Watch: agents without jobs change nothing (plain). -/
import Derived.Test.YtilobmefomoemaaWatch11
namespace Go.Proofs.Ytilobmefomoemaa
set_option linter.unusedVariables false
set_option linter.unusedSimpArgs false
open Go.RowKit
theorem any_more {α : Type} {p : α → Bool} (L M : List α) (h : ∀ x ∈ M, p x = false) : (L ++ M).any p = L.any p := by
  have hM : M.any p = false := List.any_eq_false.2 (fun x hx => by rw [h x hx]; simp)
  rw [List.any_append, hM, Bool.or_false]
theorem cntG_more (L M : List AG) (h : ∀ x ∈ M, hasA x = false) (j i : Int) : cntG (L ++ M) j i = cntG L j i := by
  have hM : M.filter (ofG j i) = [] := List.filter_eq_nil_iff.2 (fun x hx => by unfold ofG; rw [h x hx]; simp)
  unfold cntG
  rw [List.filter_append, hM, List.append_nil]
theorem mixA_no {x y : AG} (h : hasA x = false ∨ hasA y = false) : mixA x y = false := by
  unfold mixA
  rcases h with h | h <;> rw [h] <;> simp
theorem any_ext {α : Type} {p q : α → Bool} (L : List α) (h : ∀ x ∈ L, p x = q x) : L.any p = L.any q := by
  induction L with
  | nil => rfl
  | cons a l ih => rw [List.any_cons, List.any_cons, h a (List.mem_cons_self), ih (fun x hx => h x (List.mem_cons_of_mem _ hx))]
theorem whyN_more (s : STA) (L M : List AG) (o : Option SS) (rb : Bool) (h : ∀ x ∈ M, hasA x = false ∧ x.term ≤ s.term) : whyN s (L ++ M) o rb = whyN s L o rb := by
  have hno : ∀ x ∈ M, hasA x = false := fun x hx => (h x hx).1
  have f : ∀ k, faultB s (L ++ M) o rb k = faultB s L o rb k := by
    intro k
    unfold faultB
    split
    · exact any_more L M (fun x hx => by unfold strayA; rw [hno x hx, decide_eq_false (by have := (h x hx).2; omega)]; rfl)
    · unfold crowdL
      rw [any_more L M (fun x hx => by rw [hno x hx]; rfl)]
      exact any_ext L (fun x _ => by rw [cntG_more L M hno])
    · exact any_more L M (fun x hx => by unfold wrongA; rw [hno x hx]; rfl)
    · unfold mixL
      rw [any_more L M (fun x hx => by
        rw [List.any_eq_false]
        intro y _
        rw [mixA_no (.inl (hno x hx))]; simp)]
      exact any_ext L (fun x _ => any_more L M (fun y hy => mixA_no (.inr (hno y hy))))
    · rfl
    · rfl
  unfold whyN
  simp only [f]
end Go.Proofs.Ytilobmefomoemaa
