/- Objects as things. -/
import Derived.Test.YtmfbbonppmhabaaOwnC
namespace Go.Proofs.Ytmfbbonppmhabaa
set_option linter.unusedVariables false
set_option linter.unusedSimpArgs false
open Go.RowKit
/-- A block that is a given object. -/
def objT (g : Nat) (o : Obj) : Thing where
  lies := fun w B F => B ≤ g ∧ w.heap[g]? = some o ∧ ∀ b, F b ↔ b = g
  touch := fun ⟨h1, h2, h3⟩ ht hB hM => ⟨h1, by rw [ht.block g (Array.getElem?_eq_some_iff.1 h2).1 (hM g ((h3 g).2 rfl))]; exact h2, h3⟩
  low := fun ⟨h1, h2, h3⟩ b hb => by rw [h3 b] at hb; subst hb; exact ⟨h1, (Array.getElem?_eq_some_iff.1 h2).1⟩
def putO (w : World) (g : Nat) (o : Obj) : World := { w with heap := w.heap.setIfInBounds g o }
theorem St.newObj {w0 w : World} {l : List Thing} (S : St w0 w l) (o : Obj) : St w0 (w.alloc o) (l ++ [objT w.heap.size o]) :=
  S.push ((Below.refl _ _).alloc (Nat.le_refl _) _) (F := fun b => b = w.heap.size) ⟨S.size, heap_alloc_new w o, fun b => Iff.rfl⟩ (fun b hb => by subst hb; exact Nat.le_refl _)
theorem St.obj {w0 w : World} {l : List Thing} (S : St w0 w l) (k : Nat) {g : Nat} {o : Obj} (h : l[k]? = some (objT g o)) : w.heap[g]? = some o := by
  obtain ⟨F, ⟨h1, h2, h3⟩, h4⟩ := S.step k h
  exact h2
theorem putO_touch {M : Nat → Prop} {w : World} {g : Nat} {o : Obj} (hM : M g) : Touch M w (putO w g o) :=
  ⟨rfl, rfl, rfl, by show _ ≤ (w.heap.setIfInBounds g o).size; simp, fun k hk hn => by
    show (w.heap.setIfInBounds g o)[k]? = _
    rw [Array.getElem?_setIfInBounds_ne (fun e => hn (by subst e; exact hM))]⟩
theorem St.putObj {w0 w : World} {l : List Thing} (S : St w0 w l) (k : Nat) {g : Nat} {o : Obj} (h : l[k]? = some (objT g o)) (o' : Obj) : St w0 (putO w g o') (l.set k (objT g o')) := by
  obtain ⟨F, ⟨h1, h2, h3⟩, h4⟩ := S.step k h
  refine h4 _ _ F ⟨h1, ?_, h3⟩ (putO_touch ((h3 g).2 rfl)) (fun b hb => .inl hb)
  show (w.heap.setIfInBounds g o')[g]? = _
  have := (Array.getElem?_eq_some_iff.1 h2).1
  simp [this]
end Go.Proofs.Ytmfbbonppmhabaa
