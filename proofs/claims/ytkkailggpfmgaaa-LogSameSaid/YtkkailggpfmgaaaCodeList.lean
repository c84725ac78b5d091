/- The walk of layer 1's reader of lists. -/
import Derived.Test.YtkkailggpfmgaaaCodeGet
namespace Go.Proofs.Ytkkailggpfmgaaa
set_option linter.unusedVariables false
set_option linter.unusedSimpArgs false
open Go.RowKit

def numOf (o : Option (Nat × Nat)) : Int := match o with | some p => (p.1 : Int) | none => 0
def nextOf (o : Option (Nat × Nat)) : Int := match o with | some p => (p.2 : Int) | none => 0
theorem res3_eq (o : Option (Nat × Nat)) : res3 o = .tuple #[.int .i64 (numOf o), .int .i64 (nextOf o), .bool o.isSome] := by cases o <;> rfl

/-- What a reader of lists leaves. -/
def ListPost (o : Option (List Int × Nat)) (B : Nat) (e : Ending) (w' : World) : Prop :=
  match o with
  | some p => ∃ v, e = .returned (.tuple #[v, .int .i64 (p.2 : Int), .bool true]) ∧ OwnG eI w' B v p.1
  | none => e = .returned (.tuple #[.slice none 0 0, .int .i64 0, .bool false])

/-- The three variables that the closure holds. -/
structure Boxes (w : World) (B : Nat) (a : Option Addr) (n cap : Nat) (x : Int) (ok : Bool) : Prop where
  c0 : w.cell? ⟨B, 0, none⟩ = some (.slice a n cap)
  c1 : w.cell? ⟨B + 1, 0, none⟩ = some (.int .i64 x)
  c2 : w.cell? ⟨B + 1 + 1, 0, none⟩ = some (.bool ok)
  f1 : w.frozen? ⟨B + 1, 0, none⟩ = false
  f2 : w.frozen? ⟨B + 1 + 1, 0, none⟩ = false
  lt : B + 1 + 1 < w.heap.size
theorem Boxes.below {w w' : World} {B : Nat} {a : Option Addr} {n cap : Nat} {x : Int} {ok : Bool} (h : Boxes w B a n cap x ok) (hb : Below (B + 1 + 1 + 1) w w') : Boxes w' B a n cap x ok :=
  ⟨(hb.cell (p := ⟨B, 0, none⟩) (by simp <;> omega)).trans h.c0, (hb.cell (p := ⟨B + 1, 0, none⟩) (by simp <;> omega)).trans h.c1, (hb.cell (p := ⟨B + 1 + 1, 0, none⟩) (by simp <;> omega)).trans h.c2,
    (hb.frozen (p := ⟨B + 1, 0, none⟩) (by simp <;> omega)).trans h.f1, (hb.frozen (p := ⟨B + 1 + 1, 0, none⟩) (by simp <;> omega)).trans h.f2, Nat.lt_of_lt_of_le h.lt hb.size⟩
theorem cell_set {w : World} {p : Addr} {v u : Value} (h : w.cell? p = some v) : (w.setCell p u).cell? p = some u := by
  obtain ⟨b, o, s⟩ := p
  unfold World.cell? at h
  simp only at h
  split at h
  · rename_i c el fr heq
    split at h
    · cases h
    · rename_i hs
      simp only [World.setCell, World.cell?, Array.getElem?_modify, heq, if_true, Option.map_some, hs]
      have := (Array.getElem?_eq_some_iff.1 h).1
      simp [this]
  · cases h
theorem Boxes.set {w : World} {B : Nat} {a : Option Addr} {n cap : Nat} {x : Int} {ok : Bool} (h : Boxes w B a n cap x ok) (y : Int) (k : Bool) :
    Boxes ((w.setCell ⟨B + 1, 0, none⟩ (.int .i64 y)).setCell ⟨B + 1 + 1, 0, none⟩ (.bool k)) B a n cap y k := by
  have g2 : (w.setCell ⟨B + 1, 0, none⟩ (.int .i64 y)).cell? ⟨B + 1 + 1, 0, none⟩ = some (.bool ok) := by
    rw [World.cell?_setCell_far _ _ _ _ (by simp <;> omega)]; exact h.c2
  refine ⟨?_, ?_, cell_set g2, ?_, ?_, by simpa [World.setCell] using h.lt⟩
  · rw [World.cell?_setCell_far _ _ _ _ (by simp <;> omega), World.cell?_setCell_far _ _ _ _ (by simp <;> omega)]; exact h.c0
  · rw [World.cell?_setCell_far _ _ _ _ (by simp <;> omega)]; exact cell_set h.c1
  · rw [World.frozen?_setCell, World.frozen?_setCell]; exact h.f1
  · rw [World.frozen?_setCell, World.frozen?_setCell]; exact h.f2
theorem two_sets {w : World} {B C : Nat} (u v : Value) (hC : C ≤ B) : Below C w ((w.setCell ⟨B + 1, 0, none⟩ u).setCell ⟨B + 1 + 1, 0, none⟩ v) :=
  ((Below.refl _ _).setCell (p := ⟨B + 1, 0, none⟩) (by simp; omega) _).setCell (p := ⟨B + 1 + 1, 0, none⟩) (by simp; omega) _
theorem OwnG.two_sets {α : Type} {e : Elt α} {w : World} {B : Nat} {v : Value} {l : List α} (h : OwnG e w (B + 1 + 1 + 1) v l) (u z : Value) :
    OwnG e ((w.setCell ⟨B + 1, 0, none⟩ u).setCell ⟨B + 1 + 1, 0, none⟩ z) (B + 1 + 1 + 1) v l :=
  ownsRow_setCell_below (ownsRow_setCell_below h (by simp) _) (by simp) _

theorem getItems_step {l : List UInt8} {m x : Nat} {o : Option (List Int × Nat)} (h : getItems l (m + 1) x = o) : ∀ p, getNum l x = some p → o = (getItems l m p.2).map fun q => ((p.1 : Int) :: q.1, q.2) := by
  rintro p hp; rw [← h, getItems, hp]; rfl

end Go.Proofs.Ytkkailggpfmgaaa
