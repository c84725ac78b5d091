/- The plain laws of layer 4: lists alone. -/
import Derived.Test.YtkkailggpfmgaaaDiskLib
namespace Go.Proofs.Ytkkailggpfmgaaa
set_option linter.unusedVariables false
set_option linter.unusedSimpArgs false
open Go.RowKit

theorem splice_nil {l : List UInt8} {k : Nat} : splice l k [] = l := by simp [splice]
theorem splice_parts {p x r a : List UInt8} (h : x.length = a.length) : splice (p ++ (x ++ r)) p.length a = p ++ (a ++ r) := by
  unfold splice
  rw [List.take_left' rfl, ← List.drop_drop, List.drop_left' rfl, List.drop_left' h]
theorem parts {l : List UInt8} {k n : Nat} (h : k + n ≤ l.length) : ∃ p x r, l = p ++ (x ++ r) ∧ p.length = k ∧ x.length = n :=
  ⟨l.take k, (l.drop k).take n, (l.drop k).drop n, by rw [List.take_append_drop, List.take_append_drop], by rw [List.length_take]; omega, by rw [List.length_take, List.length_drop]; omega⟩
theorem splice_app {l a b : List UInt8} {k : Nat} (h : k + (a.length + b.length) ≤ l.length) : splice l k (a ++ b) = splice (splice l k a) (k + a.length) b := by
  obtain ⟨p, z, r, rfl, rfl, hz⟩ := parts h
  obtain ⟨x, y, e, rfl, hx, hy⟩ := parts (l := z) (k := a.length) (n := b.length) (by omega)
  have he : e = [] := by
    have : (x ++ (y ++ e)).length = a.length + b.length := hz
    rw [List.length_append, List.length_append] at this
    exact List.eq_nil_of_length_eq_zero (by omega)
  subst he
  rw [List.append_nil]
  rw [splice_parts (by rw [List.length_append, List.length_append]; omega), List.append_assoc a b r, List.append_assoc x y r, splice_parts hx]
  have e2 : p ++ (a ++ (y ++ r)) = (p ++ a) ++ (y ++ r) := by rw [List.append_assoc]
  rw [e2, show p.length + a.length = (p ++ a).length by rw [List.length_append], splice_parts hy]
  simp
theorem split_bytes {l a b : List UInt8} {k : Nat} (h : k + (a.length + b.length) ≤ l.length) : dAll l [(k, a ++ b)] = dAll l [(k, a), (k + a.length, b)] := by
  simp only [dAll]; exact splice_app h
theorem split_done {l a b : List UInt8} {k : Nat} (keep : Int) (h : k + (a.length + b.length) ≤ l.length) : dDone l keep [(k, a ++ b)] = dDone l keep [(k, a), (k + a.length, b)] := by
  simp only [dDone, List.length_append]
  by_cases h1 : keep ≤ a.length
  · have e1 : (min (keep - max 0 (min keep (a.length : Int))) (b.length : Int)).toNat = 0 := by omega
    have e2 : (min keep ((a.length + b.length : Nat) : Int)).toNat = (min keep (a.length : Int)).toNat := by omega
    rw [e1, List.take_zero, splice_nil, e2, List.take_append_of_le_length (by omega)]
  · have e1 : (min (keep - max 0 (min keep (a.length : Int))) (b.length : Int)).toNat = (min (keep - a.length) (b.length : Int)).toNat := by omega
    have e2 : (min keep ((a.length + b.length : Nat) : Int)).toNat = a.length + (min (keep - a.length) (b.length : Int)).toNat := by omega
    have e3 : (min keep (a.length : Int)).toNat = a.length := by omega
    rw [e1, e2, e3, List.take_length, List.take_length_add_append]
    exact splice_app (by rw [List.length_take]; omega)

theorem dDone_all : ∀ (ws : List (Nat × List UInt8)) (l : List UInt8) (keep : Int), (dWaits ws : Int) ≤ keep → dDone l keep ws = dAll l ws
  | [], l, keep, _ => rfl
  | x :: ws, l, keep, h => by
    rw [dWaits] at h
    rw [dDone, dAll, show (min keep (x.2.length : Int)).toNat = x.2.length by omega, List.take_length]
    exact dDone_all ws _ _ (by omega)
theorem dDone_none : ∀ (ws : List (Nat × List UInt8)) (l : List UInt8) (keep : Int), keep ≤ 0 → dDone l keep ws = l
  | [], l, keep, _ => rfl
  | x :: ws, l, keep, h => by
    rw [dDone, show (min keep (x.2.length : Int)).toNat = 0 by omega, List.take_zero, splice_nil]
    exact dDone_none ws _ _ (by omega)
theorem DSt.write_ok {d : DSt} {a : Int} {b : List UInt8} (h : d.can a b.length = 0) : d.write a b = { d with waits := d.waits ++ [(a.toNat, b)] } := if_pos h
theorem DSt.write_bad {d : DSt} {a : Int} {b : List UInt8} (h : d.can a b.length ≠ 0) : d.write a b = d := if_neg h
theorem DSt.write_lasts (d : DSt) (a : Int) (b : List UInt8) : (d.write a b).lasts = d.lasts := by unfold DSt.write; split <;> rfl
theorem DSt.write_syncs (d : DSt) (a : Int) (b : List UInt8) : (d.write a b).syncs = d.syncs := by unfold DSt.write; split <;> rfl
theorem DSt.write_waits (d : DSt) (a : Int) (b : List UInt8) : (d.write a b).waits.length ≤ d.waits.length + 1 := by unfold DSt.write; split <;> simp
theorem DSt.can_write (d : DSt) (a f : Int) (b : List UInt8) (n : Nat) : (d.write a b).can f n = d.can f n := by unfold DSt.can; rw [DSt.write_lasts]
theorem DSt.sync_bytes (d : DSt) : d.sync.bytes = d.bytes := by
  show dAll (dDone d.lasts (dWaits d.waits) d.waits) [] = _
  rw [dDone_all _ _ _ (Int.le_refl _)]; rfl
theorem DSt.write_bytes (d : DSt) (a : Int) (b : List UInt8) : (d.write a b).bytes = if d.can a b.length = 0 then splice d.bytes a.toNat b else d.bytes := by
  split
  · rename_i h
    rw [DSt.write_ok h]
    exact dAll_snoc _ _ _
  · rename_i h
    rw [DSt.write_bad h]
theorem DSt.can_zero {d : DSt} {a : Int} {n : Nat} (h : d.can a n = 0) : 0 ≤ a ∧ a.toNat + n ≤ d.lasts.length := by
  unfold DSt.can at h
  split at h
  · cases h
  · split at h
    · cases h
    · omega
theorem splice_read {l b : List UInt8} {k : Nat} (h : k + b.length ≤ l.length) : ((splice l k b).drop k).take b.length = b := by
  obtain ⟨p, x, r, rfl, rfl, hx⟩ := parts h
  rw [splice_parts hx, List.drop_left' rfl, List.take_left' rfl]

def DSt.code (d : DSt) (a : Int) (n : Nat) : Int := if a < 0 then 1 else if (d.lasts.length : Int) < a + n then 3 else 0
theorem DSt.can_code (d : DSt) (a : Int) (n : Nat) : d.can a n = d.code a n := by
  unfold DSt.can DSt.code
  by_cases h : a < 0
  · rw [if_pos h, if_pos h]
  · rw [if_neg h, if_neg h]
    by_cases h2 : (d.lasts.length : Int) < a + n
    · rw [if_pos h2, if_pos (by omega)]
    · rw [if_neg h2, if_neg (by omega)]

end Go.Proofs.Ytkkailggpfmgaaa
