/- The disk and the document's disk: lists alone. -/
import Derived.Test.YtkkailggpfmgaaaRdisk2
import Derived.Test.YtkkailggpfmgaaaDiskPlain
namespace Go.Proofs.Ytkkailggpfmgaaa
set_option linter.unusedVariables false
set_option linter.unusedSimpArgs false
open Go.RowKit

def pairs (k : Nat) (l : List UInt8) : List (Nat × UInt8) := (List.range l.length).map fun i => (k + i, l.getD i 0)
def flatW (ws : List (Nat × List UInt8)) : List (Nat × UInt8) := ws.flatMap fun x => pairs x.1 x.2
theorem pairs_nil (k : Nat) : pairs k [] = [] := rfl
theorem pairs_cons (k : Nat) (c : UInt8) (l : List UInt8) : pairs k (c :: l) = (k, c) :: pairs (k + 1) l := by
  unfold pairs
  rw [List.length_cons, List.range_succ_eq_map, List.map_cons, List.map_map]
  simp only [Function.comp_def, Nat.add_zero, List.getD_cons_zero, List.cons.injEq, true_and]
  apply List.map_congr_left
  intro i _
  simp only [List.getD_cons_succ, Prod.mk.injEq, and_true]; omega
theorem pairs_len (k : Nat) (l : List UInt8) : (pairs k l).length = l.length := by simp [pairs]
theorem pairs_take : ∀ (l : List UInt8) (k m : Nat), (pairs k l).take m = pairs k (l.take m)
  | [], k, m => by simp [pairs_nil]
  | c :: l, k, 0 => by simp [pairs_nil]
  | c :: l, k, m + 1 => by rw [pairs_cons, List.take_succ_cons, List.take_succ_cons, pairs_cons, pairs_take l]
theorem rdSet_app (b : List UInt8) (x y : List (Nat × UInt8)) : rdSet b (x ++ y) = rdSet (rdSet b x) y := by unfold rdSet; rw [List.foldl_append]
theorem set_splice {b : List UInt8} {k : Nat} (c : UInt8) (l : List UInt8) (h : k + (l.length + 1) ≤ b.length) : splice (b.set k c) (k + 1) l = splice b k (c :: l) := by
  have e : b.set k c = splice b k [c] := by
    unfold splice
    rw [List.set_eq_take_append_cons_drop, if_pos (by omega)]
    simp
  rw [e]
  exact (splice_app (a := [c]) (b := l) (by simpa [Nat.add_comm] using h)).symm
theorem rdSet_pairs : ∀ (l : List UInt8) (k : Nat) (b : List UInt8), k + l.length ≤ b.length → rdSet b (pairs k l) = splice b k l
  | [], k, b, _ => by rw [pairs_nil, splice_nil]; rfl
  | c :: l, k, b, h => by
    rw [pairs_cons]
    show rdSet (b.set k c) (pairs (k + 1) l) = _
    rw [List.length_cons] at h
    rw [rdSet_pairs l (k + 1) _ (by rw [List.length_set]; omega), set_splice c l (by omega)]
theorem dAll_flat : ∀ (ws : List (Nat × List UInt8)) (l : List UInt8), (∀ x ∈ ws, x.1 + x.2.length ≤ l.length) → dAll l ws = rdSet l (flatW ws)
  | [], l, _ => rfl
  | x :: ws, l, h => by
    have h1 := h x (by simp)
    rw [dAll, flatW, List.flatMap_cons, rdSet_app, rdSet_pairs _ _ _ h1]
    exact dAll_flat ws _ (by intro y hy; rw [splice_len h1]; exact h y (by simp [hy]))
theorem dDone_flat : ∀ (ws : List (Nat × List UInt8)) (l : List UInt8) (keep : Int), (∀ x ∈ ws, x.1 + x.2.length ≤ l.length) → dDone l keep ws = rdSet l ((flatW ws).take keep.toNat)
  | [], l, keep, _ => by simp [dDone, flatW, rdSet]
  | x :: ws, l, keep, h => by
    have h1 := h x (by simp)
    have h2 : x.1 + (x.2.take (min keep (x.2.length : Int)).toNat).length ≤ l.length := by rw [List.length_take]; omega
    rw [dDone, flatW, List.flatMap_cons, List.take_append, rdSet_app, pairs_take, pairs_len]
    have e : x.2.take keep.toNat = x.2.take (min keep (x.2.length : Int)).toNat := by
      by_cases hk : keep ≤ x.2.length
      · rw [Int.min_eq_left hk]
      · rw [List.take_of_length_le (by omega), List.take_of_length_le (by omega)]
    rw [e, rdSet_pairs _ _ _ h2]
    rw [dDone_flat ws _ _ (by intro y hy; rw [splice_len h2]; exact h y (by simp [hy]))]
    congr 2
    omega
theorem dWaits_flat : ∀ ws : List (Nat × List UInt8), dWaits ws = (flatW ws).length
  | [] => rfl
  | x :: ws => by rw [dWaits, dWaits_flat ws, flatW, flatW, List.flatMap_cons, List.length_append, pairs_len]

/-- One disk, told in two ways. -/
structure Rel (d : DSt) (r : RD) : Prop where
  b : r.b = d.lasts
  ps : r.ps = flatW d.waits
  syncs : r.syncs = d.syncs
theorem Rel.new (n : Nat) : Rel (DSt.new n) ⟨List.replicate n 0, [], 0⟩ := ⟨rfl, rfl, rfl⟩
section
variable {d : DSt} {r : RD}
theorem Rel.bytes (h : Rel d r) (hf : ∀ x ∈ d.waits, x.1 + x.2.length ≤ d.lasts.length) : r.bytes = d.bytes := by
  unfold RD.bytes DSt.bytes; rw [h.b, h.ps, dAll_flat _ _ hf]
theorem Rel.write (h : Rel d r) (a : Int) (l : List UInt8) : Rel (d.write a l) (r.write a l) := by
  unfold DSt.write RD.write
  by_cases hc : d.can a l.length = 0
  · have hz := DSt.can_zero hc
    rw [if_pos hc, if_neg (by rw [h.b]; omega)]
    exact ⟨h.b, by show r.ps ++ _ = _; rw [h.ps, flatW, flatW, List.flatMap_append]; simp [pairs], h.syncs⟩
  · rw [if_neg hc]
    have : a < 0 ∨ (r.b.length : Int) < a + l.length := by
      rw [h.b]
      unfold DSt.can at hc
      by_cases h0 : a < 0
      · exact .inl h0
      · rw [if_neg h0] at hc
        split at hc
        · omega
        · exact absurd rfl hc
    rw [if_pos this]
    exact h
theorem Rel.crash (h : Rel d r) (keep : Int) (hf : ∀ x ∈ d.waits, x.1 + x.2.length ≤ d.lasts.length) : Rel (d.crash keep) (r.crash keep) :=
  ⟨by show rdSet r.b _ = dDone _ _ _; rw [h.b, h.ps, dDone_flat _ _ _ hf], rfl, h.syncs⟩
theorem Rel.sync (h : Rel d r) (hf : ∀ x ∈ d.waits, x.1 + x.2.length ≤ d.lasts.length) : Rel d.sync r.sync :=
  ⟨by show rdSet r.b r.ps = dDone _ _ _; rw [h.b, h.ps, dDone_flat _ _ _ hf, Int.toNat_natCast, dWaits_flat, List.take_length], rfl, by show r.syncs + 1 = d.syncs + 1; rw [h.syncs]⟩
theorem Rel.waits (h : Rel d r) : (dWaits d.waits : Int) = (rdAt r.ps).length := by rw [dWaits_flat, h.ps]; simp [rdAt]
end

end Go.Proofs.Ytkkailggpfmgaaa
